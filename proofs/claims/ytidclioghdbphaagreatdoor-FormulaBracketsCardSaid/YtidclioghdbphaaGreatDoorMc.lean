/- Texts of the proof, one behind the other. -/
import Derived.Test.YtidclioghdbphaaGreatDoorMb
import Derived.ChangeKeysEq
import Derived.RangeFuncNested
import Derived.RangeFuncLeaves
import Derived.RangeFuncCalls
import Derived.OwnWalkIn
import Derived.TacticsIn
import Derived.OrdersIn
import Derived.Test.YtidclioghdbphaaGreatDoorProg
import Derived.Lib.ItoaNum
import Derived.Lib.ItoaLen
import Derived.Lib.ParseIntB
import Derived.Lib.ParseIntBCases
import Derived.Lib.IndexMore
set_option linter.all false
set_option maxRecDepth 100000
/- Drawn regions with several heavy operations that do not wait for one another: the light ones are decided as early as they can, the heavy ones in every order. -/
namespace Go
noncomputable abbrev prg:=Proofs.Tryz.prog
end Go
namespace Go.Sx
open Go.RowKit Go.Par
inductive Pi0 where
 | done
 | no
 | light (i:Nat) (r:Pi0)
 | alt (i k:Nat) (r q:Pi0)
inductive PlT where
 | done
 | no
 | light (i:Nat) (o:Oper) (r:PlT)
 | alt (i k:Nat) (o:Oper) (r q:PlT)
def vK (l:List Oper):Pi0->PlT
 | .done=>.done
 | .no=>.no
 | .light i r=>.light i l[i]! (vK l r)
 | .alt i k r q=>.alt i k l[i]! (vK l r) (vK l q)
def okT (ops:Array Oper) (n:Nat):List Nat->List Nat->Pi0->Bool
 | D,A,.done=>A.isEmpty && (List.range n).all λj=>D.contains j
 | D,A,.no=>!A.isEmpty && (List.range n).all λj=>D.contains j || A.contains j || A.any λi=>lK ops n j i
 | D,A,.light i r=>A.isEmpty && decide (i<n) && !D.contains i && ((List.range n).all λj=>!Region.waitsFor .any ops i j || D.contains j) && okT ops n (i::D) [] r
 | D,A,.alt i k r q=>decide (i<n) && !D.contains i && ((List.range n).all λj=>!Region.waitsFor .any ops i j || D.contains j) && (!(k == 1) || D.all λj=>lK ops n i j) && okT ops n (i::D) [] r && okT ops n D (i::A) q
section
variable {dfs:List Deferred} {P:Program} {ops:Array Oper} {w0:World} {n N:Nat}
def fM (dfs:List Deferred) (P:Program) (ops:Array Oper) (n:Nat) (w0:World) (N:Nat) (E:Sl->Hp->List Res->Prop):PlT->List (Nat × Oper × Value)->Sl->Hp->List Res->Prop
 | .done,_,L,H,bs=>E L H bs
 | .no,_,_,_,_=>True
 | .light i o r,pa,L,H,bs=>∃ v,(∀ a W,Fr dfs N L a->St H w0 bs W->Yq P ops o v a W)/\(∀ t,o.dst=some t->t<N)/\fM dfs P ops n w0 N E r ((i,o,v)::pa) (putL o.dst v L) H bs
 | .alt i k o r q,pa,L,H,bs=>((∀ t,o.dst=some t->t<N)/\At dfs N L H w0 bs (one P ops (λ_ _ _=>False) o λa' W'=>∃ v H' bs',Fr dfs N (putL o.dst v L) a'/\St H' w0 bs' W'/\(k=1\/(∀ W,St H' w0 bs' W->St H w0 bs W)\/iG dfs P ops n w0 N L H' bs' i pa)/\fM dfs P ops n w0 N E r pa (putL o.dst v L) H' bs'))/\fM dfs P ops n w0 N E q pa L H bs
structure GT (dfs:List Deferred) (P:Program) (ops:Array Oper) (l:List Oper) (w0:World) (n N:Nat) (a0:Act) (E:Sl->Hp->List Res->Prop) (listed:Array Bool) (a:Act) (W:World) (val:Nat->Value) (dec:Nat->Bool) (D:List Nat) (L:Sl) (H:Hp) (bs:List Res) (pa:List (Nat × Oper × Value)):Prop where
 head:HeadInv .any ops n listed
 frame:a=frm ops val (st listed) n a0
 full:Fr dfs N L (frm ops val dec n a0)
 sub:∀ i,i<n->st listed i=true->dec i=true
 world:St H w0 bs W
 light:∀ i o,i<n->ops[i]? = some o->dec i=true->st listed i=false->∀ W,St H w0 bs W->Yq P ops o (val i) (frm ops val dec n a0) W
 past:∀ i o,i<n->ops[i]? = some o->dec i=true->st listed i=false->(i,o,val i)∈pa
 set:∀ j,dec j=D.contains j
 deps:∀ i j,i<n->j<n->dec i=true->Region.waitsFor .any ops i j=true->dec j=true
variable {l:List Oper} {a0:Act} {E:Sl->Hp->List Res->Prop} {Q:Exit->Act->World->Prop} {listed:Array Bool} {a:Act} {W:World} {val:Nat->Value} {dec:Nat->Bool} {D A:List Nat} {L:Sl} {H:Hp} {bs:List Res} {pa:List (Nat × Oper × Value)}
theorem JA {i:Nat} (h:∀ j,dec j=D.contains j):∀ j,upd dec i true j=(i::D).contains j:=λj=>by
 by_cases e:j=i
 ·subst e;rw [gO];simp
 ·rw [dS _ _ e,h j,List.contains_cons];have:(j == i)=false:=by simpa using e
  rw [this];simp
theorem EN {i:Nat} (h:((List.range n).all λj=>!Region.waitsFor .any ops i j || D.contains j)=true) {j:Nat} (hj:j<n) (hw:Region.waitsFor .any ops i j=true):D.contains j=true:=by
 have:=aW.1 h j (bY.2 hj);rw [hw] at this;simpa using this
theorem GT.decide (F:Fit ops n []) {i:Nat} {o:Oper} (I:GT dfs P ops l w0 n N a0 E listed a W val dec D L H bs pa) (hi:i<n) (ho:ops[i]? = some o) (hiD:D.contains i=false) (hwt:((List.range n).all λj=>!Region.waitsFor .any ops i j || D.contains j)=true)
 {v:Value} (hy:∀ a W,Fr dfs N L a->St H w0 bs W->Yq P ops o v a W) (hN:∀ t,o.dst=some t->t<N) :
 GT dfs P ops l w0 n N a0 E listed a W (upd val i v) (upd dec i true) (i::D) (putL o.dst v L) H bs ((i,o,v)::pa):=by
 have hdi:dec i=false:=(I.set i).trans hiD;have hdeps:∀ j,j<n->Region.waitsFor .any ops i j=true->dec j=true:=λj hj hw=>(I.set j).trans (EN hwt hj hw)
 have hii:∀ j,j<n->Region.waitsFor .any ops i j=true->j≠i:=λj hj hw e=>by
  have:=hdeps j hj hw;rw [e,hdi] at this;cases this
 have hli:st listed i=false:=by
  cases h:st listed i with
  | false=>rfl
  | true=>have:=I.sub i hi h;rw [hdi] at this;cases this
 have hput:=JH (a0:=a0) (val:=val) (v:=v) F hi ho hdi;refine ⟨I.head,?_,?_,?_,I.world,?_,?_,JA I.set,?_⟩
 ·rw [I.frame];refine iK _ _ _ _ a0 n λk _=>⟨Z,λhk=>(dS _ _ λe=>?_).symm⟩;subst e;rw [hli] at hk;cases hk
 ·rw [hput];exact I.full.putL v hN
 ·intro j hj hs
  by_cases e:j=i
  ·subst e;exact gO _ _ _
  ·rw [dS _ _ e];exact I.sub j hj hs
 ·intro j oj hj hoj hd hs W hW
  by_cases e:j=i
  ·subst e;obtain rfl:oj=o:=bK (hoj.symm.trans ho);rw [gO];refine Yq.same (λcs b=>F.sel j oj cs b ho) (λt ht=>?_) (hy _ W I.full hW);refine qR F hj ho (λk hk hw=>?_) t ht;have hkd:=hdeps k hk hw;have hki:=hii k hk hw;exact ⟨by rw [dS _ _ hki];exact hkd,hkd,dS _ _ hki⟩
  ·rw [dS _ _ e] at hd|-;refine Yq.same (λcs b=>F.sel j oj cs b hoj) (λt ht=>?_) (I.light j oj hj hoj hd hs W hW);refine qR F hj hoj (λk hk hw=>?_) t ht;have hkd:=I.deps j k hj hk hd hw;have hki:k≠i:=λe=>by subst e;rw [hdi] at hkd;cases hkd
   exact ⟨by rw [dS _ _ hki];exact hkd,hkd,dS _ _ hki⟩
 ·intro j oj hj hoj hd hs
  by_cases e:j=i
  ·subst e;obtain rfl:oj=o:=bK (hoj.symm.trans ho);rw [gO];exact .head _
  ·rw [dS _ _ e] at hd|-;exact .tail _ (I.past j oj hj hoj hd hs)
 ·intro j k hj hk hd hw
  by_cases e:j=i
  ·subst e;rw [dS _ _ (hii k hk hw)];exact hdeps k hk hw
  ·rw [dS _ _ e] at hd;have:=I.deps j k hj hk hd hw
   by_cases e2:k=i
   ·subst e2;exact gO _ _ _
   ·rw [dS _ _ e2];exact this
theorem GT.step (F:Fit ops n []) {i:Nat} {o:Oper} {W':World} (I:GT dfs P ops l w0 n N a0 E listed a W val dec D L H bs pa) (hi:i<n) (ho:ops[i]? = some o) (hr:i∈Region.ready .any ops listed) (hd:dec i=true) (hx:Ext W W') :
 GT dfs P ops l w0 n N a0 E (listed.setIfInBounds i true) (a.put o.dst (val i)) W' val dec D L H bs pa:=by
 have hun:st listed i=false:=(mem_ready.1 hr).1;have e1:hU ops i=o.dst:=by simp [hU,ho]
 refine ⟨I.head.set hr hi,?_,I.full,?_,I.world.more hx,?_,?_,I.set,I.deps⟩
 ·rw [I.frame,oS val (st listed) (st (listed.setIfInBounds i true)) a0 i eL hun (λk hk=>gM hk) n hi F.apart,e1]
 ·intro j hj hs
  by_cases e:j=i
  ·subst e;exact hd
  ·rw [gM e] at hs;exact I.sub j hj hs
 ·intro j oj hj hoj hdj hs;have e:j≠i:=λe=>by subst e;rw [eL] at hs;cases hs
  rw [gM e] at hs;exact I.light j oj hj hoj hdj hs
 ·intro j oj hj hoj hdj hs;have e:j≠i:=λe=>by subst e;rw [eL] at hs;cases hs
  rw [gM e] at hs;exact I.past j oj hj hoj hdj hs
theorem GT.heavy (F:Fit ops n []) {i k:Nat} {o:Oper} {v:Value} {W':World} {H':Hp} {bs':List Res} (I:GT dfs P ops l w0 n N a0 E listed a W val dec D L H bs pa) (hi:i<n) (ho:ops[i]? = some o) (hiD:D.contains i=false) (hwt:((List.range n).all λj=>!Region.waitsFor .any ops i j || D.contains j)=true) (hk1:(!(k == 1) || D.all λj=>lK ops n i j)=true) (hN:∀ t,o.dst=some t->t<N) (hr:i∈Region.ready .any ops listed)
 (hs:St H' w0 bs' W') (hws:k=1\/(∀ W,St H' w0 bs' W->St H w0 bs W)\/iG dfs P ops n w0 N L H' bs' i pa) :
 GT dfs P ops l w0 n N a0 E (listed.setIfInBounds i true) (a.put o.dst v) W' (upd val i v) (upd dec i true) (i::D) (putL o.dst v L) H' bs' pa:=by
 have hdi:dec i=false:=(I.set i).trans hiD;have hdeps:∀ j,j<n->Region.waitsFor .any ops i j=true->dec j=true:=λj hj hw=>(I.set j).trans (EN hwt hj hw)
 have hii:∀ j,j<n->Region.waitsFor .any ops i j=true->j≠i:=λj hj hw e=>by
  have:=hdeps j hj hw;rw [e,hdi] at this;cases this
 have hun:st listed i=false:=(mem_ready.1 hr).1;have e1:hU ops i=o.dst:=by simp [hU,ho]
 have hput:=JH (a0:=a0) (val:=val) (v:=v) F hi ho hdi;refine ⟨I.head.set hr hi,?_,?_,?_,hs,?_,?_,JA I.set,?_⟩
 ·rw [I.frame,oS (upd val i v) (st listed) (st (listed.setIfInBounds i true)) a0 i eL hun (λk hk=>gM hk) n hi F.apart,e1,gO]
  congr 1
  refine iK _ _ _ _ a0 n λk _=>⟨Z,λhk=>(dS _ _ λe=>?_).symm⟩;subst e;rw [hun] at hk;cases hk
 ·rw [hput];exact I.full.putL v hN
 ·intro j hj hs
  by_cases e:j=i
  ·subst e;exact gO _ _ _
  ·rw [dS _ _ e];rw [gM e] at hs;exact I.sub j hj hs
 ·intro j oj hj hoj hd hs W hW;have e:j≠i:=λe=>by subst e;rw [eL] at hs;cases hs
  rw [gM e] at hs;rw [dS _ _ e] at hd|-
  have hdone:lK ops n i j=true->False:=λh1=>by
   obtain ⟨_,oi,hoi,hall⟩:=mem_ready.1 hr
   have h2:=oL I.head n i j h1 (λok hok x hx hb=>by
    obtain rfl:ok=oi:=bK (hok.symm.trans hoi);exact hall x hx hb)
   rw [getD_both hs] at h2;cases h2
  have hy:Yq P ops oj (val j) (frm ops val dec n a0) W:=by
   rcases hws with hk | hw | hw
   ·subst hk;have hjD:j∈D:=by have:=(I.set j).symm.trans hd;simpa using this
    simp only [beq_self_eq_true,uA,aK] at hk1;exact (hdone (aW.1 hk1 j hjD)).elim
   ·exact I.light j oj hj hoj hd hs W (hw W hW)
   ·rcases hw.at (I.past j oj hj hoj hd hs) with h1 | h1
    ·exact (hdone h1).elim
    ·exact h1 _ W I.full hW
  refine Yq.same (λcs b=>F.sel j oj cs b hoj) (λt ht=>?_) hy;refine qR F hj hoj (λk hk hw=>?_) t ht;have hkd:=I.deps j k hj hk hd hw;have hki:k≠i:=λe=>by subst e;rw [hdi] at hkd;cases hkd
  exact ⟨by rw [dS _ _ hki];exact hkd,hkd,dS _ _ hki⟩
 ·intro j oj hj hoj hd hs;have e:j≠i:=λe=>by subst e;rw [eL] at hs;cases hs
  rw [gM e] at hs;rw [dS _ _ e] at hd|-;exact I.past j oj hj hoj hd hs
 ·intro j k hj hk hd hw
  by_cases e:j=i
  ·subst e;rw [dS _ _ (hii k hk hw)];exact hdeps k hk hw
  ·rw [dS _ _ e] at hd;have:=I.deps j k hj hk hd hw
   by_cases e2:k=i
   ·subst e2;exact gO _ _ _
   ·rw [dS _ _ e2];exact this
theorem LN (hl:ops=l.toArray) {j:Nat} (hj:j<n) (hjD:D.contains j=false) (hnr:∀ i,D.contains i=false->i<n->lK ops n j i=false) :
 ∀ (q:Pi0) (A:List Nat),(q=.no\/∃ i k r q',q=.alt i k r q')->okT ops n D A q=true->(∀ i∈A,D.contains i=false/\i<n/\i≠j)->fM dfs P ops n w0 N E (vK l q) pa L H bs ->
  ∃ k r,((List.range n).all λx=>!Region.waitsFor .any ops j x || D.contains x)=true/\(!(k == 1) || D.all λx=>lK ops n j x)=true/\okT ops n (j::D) [] r=true/\(∀ t,(l[j]!).dst=some t->t<N) /\
   At dfs N L H w0 bs (one P ops (λ_ _ _=>False) l[j]! λa' W'=>∃ v H' bs',Fr dfs N (putL (l[j]!).dst v L) a'/\St H' w0 bs' W'/\(k=1\/(∀ W,St H' w0 bs' W->St H w0 bs W)\/iG dfs P ops n w0 N L H' bs' j pa)/\fM dfs P ops n w0 N E (vK l r) pa (putL (l[j]!).dst v L) H' bs'):=by
 intro q;induction q with
 | done=>rintro A (h | ⟨_,_,_,_,h⟩) <;> cases h
 | light i r=>rintro A (h | ⟨_,_,_,_,h⟩) <;> cases h
 | no =>
  intro A _ hok hA _
  exfalso
  simp only [okT,aE] at hok;have:=aW.1 hok.2 j (bY.2 hj);simp only [bC] at this;rcases this with (h | h) | h
  ·rw [hjD] at h;cases h
  ·exact (hA j (by simpa using h)).2.2 rfl
  ·obtain ⟨i,hi,hre⟩:=fY.1 h;rw [hnr i (hA i hi).1 (hA i hi).2.1] at hre;cases hre
 | alt i k r q' ihr ihq =>
  intro A _ hok hA hF;simp only [okT,aE,aD,dR] at hok;obtain ⟨⟨⟨⟨⟨h1,h2⟩,h3⟩,h4⟩,h5⟩,h6⟩:=hok;unfold vK fM at hF
  by_cases e:i=j
  ·subst e;exact ⟨k,r,h3,h4,h5,hF.1.1,hF.1.2⟩
  ·have hq:q'=.no\/∃ i k r q'',q'=.alt i k r q'':=by
    cases q' with
    | done=>simp [okT] at h6
    | light i r=>simp [okT] at h6
    | no=>exact .inl rfl
    | alt i k r q=>exact .inr ⟨_,_,_,_,Z⟩
   refine ihq (i::A) hq h6 (λx hx=>?_) hF.2;rcases bM.1 hx with rfl | hx
   ·exact ⟨h2,h1,e⟩
   ·exact hA x hx
theorem XO (hl:ops=l.toArray) (F:Fit ops n []) (hend:∀ L H bs,E L H bs->At dfs N L H w0 bs (wpList P ops Q (ops.toList.drop n))) :
 ∀ (m:Nat) (p:Pi0) (listed:Array Bool) (a:Act) (W:World) (val:Nat->Value) (dec:Nat->Bool) (D:List Nat) (L:Sl) (H:Hp) (bs:List Res) (pa:List (Nat × Oper × Value)),cnt (st listed) n=m->okT ops n D [] p=true ->
  fM dfs P ops n w0 N E (vK l p) pa L H bs->GT dfs P ops l w0 n N a0 E listed a W val dec D L H bs pa->wpAny P .any ops Q (m+(ops.size - n)) listed a W:=by
 have hop:∀ i,i<n->ops[i]? = some l[i]! := λi hi=>by
  have h1:i<ops.size:=by have:=F.lt;omega
  subst hl;have h2:i<l.length:=by simpa using h1
  simp [h2]
 intro m;induction m with
 | zero =>
  intro p;induction p with
  | done =>
   intro listed a W val dec D L H bs pa hm hok hF I;have hall:=qE _ n hm
   have hcan:listed=((List.range ops.size).map λk=>Decidable.decide (k<n)).toArray:=by
    apply vU
    ·simp [I.head.size]
    ·intro k h1 h2;have hk:k<ops.size:=by rw [<-I.head.size];exact h1
     simp only [nX,nM,pR]
     by_cases hkn:k<n
     ·have:=hall k hkn;simp [st,h1] at this;simp [this,hkn]
     ·have:=I.head.tail k (by omega) hk;simp [h1] at this;simp [this,hkn]
   rw [dL];have hlen:(ops.toList.drop n).length=ops.size - n:=by simp
   rw [<-hlen];refine wpAny_of_seq (ops.toList.drop n) n listed a W (λj=>by simp [List.getElem?_drop]) (by rw [hlen,hcan];exact F.seq) ?_
   have hfr:a=frm ops val dec n a0:=by
    rw [I.frame];exact iK _ _ _ _ a0 n (λk hk=>⟨by rw [hall k hk,I.sub k hk (hall k hk)],λ_=>rfl⟩)
   rw [hfr];exact hend L H bs hF _ W I.full I.world
  | no =>
   intro listed a W val dec D L H bs pa hm hok hF I;simp [okT] at hok
  | light i r ih =>
   intro listed a W val dec D L H bs pa hm hok hF I;have hall:=qE _ n hm;simp only [okT,aE,aD,dR] at hok;have:=I.sub i hok.1.1.1.2 (hall i hok.1.1.1.2);rw [I.set i,hok.1.1.2] at this;cases this
  | alt i k r q ih1 ih2 =>
   intro listed a W val dec D L H bs pa hm hok hF I;have hall:=qE _ n hm;simp only [okT,aE,aD,dR] at hok;have:=I.sub i hok.1.1.1.1.1 (hall i hok.1.1.1.1.1);rw [I.set i,hok.1.1.1.1.2] at this;cases this
 | succ m ih =>
  have one_step:∀ (p:Pi0) (listed:Array Bool) (a:Act) (W:World) (val:Nat->Value) (dec:Nat->Bool) (D:List Nat) (L:Sl) (H:Hp) (bs:List Res) (pa:List (Nat × Oper × Value)),cnt (st listed) n=m+1->okT ops n D [] p=true ->
   fM dfs P ops n w0 N E (vK l p) pa L H bs->GT dfs P ops l w0 n N a0 E listed a W val dec D L H bs pa->(p=.done\/p=.no\/∃ i k r q,p=.alt i k r q)->wpAny P .any ops Q (m+1+(ops.size - n)) listed a W:=by
   intro p listed a W val dec D L H bs pa hm hok hF I hp;obtain ⟨k0,hk0,hun0,hbelow⟩:=CE (st listed) n (by omega);have hk0s:k0<ops.size:=by have:=F.lt;omega
   have hready0:k0∈Region.ready .any ops listed:=by
    refine mem_ready.2 ⟨hun0,ops[k0],Array.getElem?_eq_getElem hk0s,λe he hb=>?_⟩;have hlt:=F.back k0 _ (Array.getElem?_eq_getElem hk0s) e he hb;have:=hbelow e.on hlt;have hsz:e.on<listed.size:=by rw [I.head.size];omega
    simpa [st,hsz] using this
   rw [show m+1+(ops.size - n)=(m+(ops.size - n))+1 by omega];refine ⟨λh0=>(by rw [h0] at hready0;cases hready0),λj hj=>?_⟩
   have hjn:j<n:=by
    rcases gS j n with h | h
    ·exact h
    ·exact absurd hj (xJ F.sink F.chain I.head _ k0 rfl hk0 rfl hun0 j h)
   obtain ⟨hun,oj,hoj,hall⟩:=mem_ready.1 hj
   have hcnt:cnt (st (listed.setIfInBounds j true)) n=m:=by
    have:=wT (st listed) (st (listed.setIfInBounds j true)) j eL hun (λk hk=>gM hk) n hjn;omega
   have hS:∀ k,k<n->Region.waitsFor .any ops j k=true->st listed k=true:=by
    intro k hk hw;obtain ⟨oi,hoi,e,he,hb,hon⟩:=Region.waitsFor_spec hw;obtain rfl:oi=oj:=bK (hoi.symm.trans hoj);have h1:=hall e he hb;rw [hon] at h1;have hsz:k<listed.size:=by rw [I.head.size];have:=F.lt;omega
    simp [hsz] at h1;simp [st,hsz,h1]
   have hev:∀ t∈oj.looksAt ops,a.eval (.tmp t)=(frm ops val dec n a0).eval (.tmp t):=λt ht=>by
    rw [I.frame];exact qR F hjn hoj (λk hk hw=>⟨hS k hk hw,I.sub k hk (hS k hk hw),Z⟩) t ht
   cases hd:dec j with
   | true =>
    have hy:Yq P ops oj (val j) a W:=Yq.same (λcs b=>F.sel j oj cs b hoj) hev (I.light j oj hjn hoj hd hun W I.world);exact hy.wpOp hoj λW' hx=>ih p _ _ _ _ _ _ _ _ _ _ hcnt hok hF (I.step F hjn hoj hj hd hx)
   | false =>
    have hjD:D.contains j=false:=(I.set j).symm.trans hd
    have hch:p=.no\/∃ i k r q',p=.alt i k r q':=by
     rcases hp with rfl | rfl | h
     ·exfalso
      simp only [okT,aE] at hok;have:=aW.1 hok.2 j (bY.2 hjn);rw [hjD] at this;cases this
     ·exact .inl Z
     ·exact .inr h
    obtain ⟨k,r,h1,h2,h3,h4,h5⟩:=LN hl hjn hjD (λi hi hin=>by
     cases hre:lK ops n j i with
     | false=>rfl
     | true =>
      have h2:=oL I.head n j i hre (λok hok e he hb=>by
       obtain rfl:ok=oj:=bK (hok.symm.trans hoj);exact hall e he hb)
      have h3:st listed i=false:=by
       cases h:st listed i with
       | false=>rfl
       | true=>have:=I.sub i hin h;rw [I.set i,hi] at this;cases this
      rw [getD_both h3] at h2;cases h2) p [] hch hok (λi hi=>by cases hi) hF
    have hoj2:=hop j hjn;obtain rfl:oj=l[j]! := bK (hoj.symm.trans hoj2);refine KQ hoj (λcs b=>F.sel j _ cs b hoj) hev (λb W' ⟨v,H',bs',hf,_⟩=>hf.defers) I.full.defers ?_ (h5 _ W I.full I.world);rintro v W' ⟨v',H',bs',hf,hs,hw,hp'⟩
    have hvv:putL (l[j]!).dst v' L=putL (l[j]!).dst v L:=by
     cases hdst:(l[j]!).dst with
     | none=>rfl
     | some t =>
      rw [hdst] at hf;have h1:=hf.slot t v' (by unfold putL look;rw [kV,kH]);have h2:t<N:=h4 t hdst;have h3:=(I.full.put (by simpa [nF] using h2) v).slot t v (by unfold look;rw [kV,kH]);rw [h3] at h1;rw [h1]
    rw [hvv] at hp';exact ih r _ _ _ _ _ _ _ _ _ _ hcnt h3 hp' (I.heavy F hjn hoj hjD h1 h2 h4 hj hs hw)
  intro p;induction p with
  | done=>exact λlisted a W val dec D L H bs pa hm hok hF I=>one_step _ listed a W val dec D L H bs pa hm hok hF I (.inl Z)
  | no=>exact λlisted a W val dec D L H bs pa hm hok hF I=>one_step _ listed a W val dec D L H bs pa hm hok hF I (.inr (.inl Z))
  | alt i k r q _ _=>exact λlisted a W val dec D L H bs pa hm hok hF I=>one_step _ listed a W val dec D L H bs pa hm hok hF I (.inr (.inr ⟨_,_,_,_,Z⟩))
  | light i r ihr =>
   intro listed a W val dec D L H bs pa hm hok hF I;simp only [okT,aE,aD,dR] at hok;obtain ⟨⟨⟨⟨_,hi⟩,hiD⟩,hwt⟩,hok'⟩:=hok;unfold vK fM at hF;obtain ⟨v,hy,hN,hF'⟩:=hF;exact ihr listed a W _ _ _ _ H bs _ hm hok' hF' (I.decide F hi (hop i hi) hiD hwt hy hN)
theorem bW5 {id:Nat} {l:List Oper} {p:PlT} {Q:Exit->Act->World->Prop} {L:Sl} {H:Hp} {bs:List Res} (n:Nat) (p0:Pi0) (hm:P.follows .mixedOrders=true) (hB:(WX l.toArray n [] && okT l.toArray n [] [] p0)=true) (ht:vK l p0=p)
 (h:fM dfs P l.toArray n w0 N (λL H bs=>At dfs N L H w0 bs (wpList P l.toArray Q (l.drop n))) p [] L H bs):At dfs N L H w0 bs ((Code.region id l.toArray true).wp P Q):=by
 simp only [aE] at hB;obtain ⟨h1,h2⟩:=hB;have F:=Fit.of h1;have hlt:n<l.length:=by simpa using F.lt
 subst ht;intro a W f s;refine wp_region_any hm ?_;have hsz:l.toArray.size=l.length:=by simp
 have hc0:∀ m,m<=n->cnt (st (Array.replicate l.toArray.size false)) m=m:=by
  intro m;induction m with
  | zero=>intro _;rfl
  | succ m ih =>
   intro hm;unfold cnt;rw [ih (by omega)]
   have:st (Array.replicate l.toArray.size false) m=false:=by
    have:m<l.length:=by omega
    simp [st,this]
   rw [this];simp
 have hfrm:∀ (val:Nat->Value) (m:Nat),frm l.toArray val (λ_=>false) m a=a:=λval m=>by
  induction m with
  | zero=>rfl
  | succ m ih=>unfold frm;simp [ih]
 have hall:∀ m,m<=n->∀ k,k<m->st (Array.replicate l.toArray.size false) k=false:=λm hm k hk=>by
  have:k<l.length:=by omega
  simp [st,this]
 have hh:HeadInv .any l.toArray n (Array.replicate l.toArray.size false):=by
  refine ⟨by simp,λj oj hj hl=>?_,λt ht ht'=>?_⟩
  ·exfalso
   rcases gS j l.length with h | h
   ·simp [h] at hl
   ·simp [h] at hl
  ·have:t<l.length:=by simpa using ht'
   simp [this]
 have key:=XO (Q:=Q) (a0:=a) (l:=l) rfl F (λL H bs h=>by simpa using h) n p0 (Array.replicate l.toArray.size false) a _ (λ_=>undef) (λ_=>false) [] L H bs [] (hc0 n (aX _)) h2 h
  ⟨hh,?_,by rw [hfrm];exact f,?_,s.more ((Ext.refl W).drew),λ_ _ _ _ h=>(by cases h),λ_ _ _ _ h=>(by cases h),λ_=>rfl,λ_ _ _ _ h=>(by cases h)⟩
 ·have:n+(l.toArray.size - n)=l.toArray.size:=by rw [hsz];omega
  rw [this] at key;exact key
 ·rw [iK (λ_=>undef) (λ_=>undef) _ (λ_=>false) a n (λk hk=>⟨hall n (aX _) k hk,λ_=>rfl⟩),hfrm]
 ·intro i hi hs;rw [hall n (aX _) i hi] at hs;cases hs
end
section
variable {dfs:List Deferred} {P:Program} {n:Nat} {L:Sl} {H:Hp} {w0:World} {bs:List Res} {Q:Exit->Act->World->Prop} {ops:Array Oper} {rest:List Oper} {K:Act->World->Prop}
variable {d:Option Tmp} {ty:TypeId} {pos:String} {aft:Array Edge} {g:Option (Nat × Bool)} {v:Value} {t:Tmp} {op:Op} {x y z:Operand} {T T':TypeId}
variable {N hn:Nat} {pa:List (Nat × Oper × Value)} {E:Sl->Hp->List Res->Prop} {r q:PlT} {i k:Nat}
def qX (dfs:List Deferred) (P:Program) (ops:Array Oper) (n:Nat) (w0:World) (N:Nat) (E:Sl->Hp->List Res->Prop) (i k:Nat) (o:Oper) (r:PlT) (pa:List (Nat × Oper × Value)) (L:Sl) (H:Hp) (bs:List Res):Prop :=
 (∀ t,o.dst=some t->t<N)/\At dfs N L H w0 bs (one P ops (λ_ _ _=>False) o λa' W'=>∃ v H' bs',Fr dfs N (putL o.dst v L) a'/\St H' w0 bs' W'/\(k=1\/(∀ W,St H' w0 bs' W->St H w0 bs W)\/iG dfs P ops n w0 N L H' bs' i pa)/\fM dfs P ops n w0 N E r pa (putL o.dst v L) H' bs')
theorem fM.h1 {o:Oper} (h:qX dfs P ops hn w0 N E i k o r pa L H bs):fM dfs P ops hn w0 N E (.alt i k o r .no) pa L H bs:=⟨h,Jt⟩
theorem fM.h {o:Oper} (h:qX dfs P ops hn w0 N E i k o r pa L H bs) (hq:fM dfs P ops hn w0 N E q pa L H bs):fM dfs P ops hn w0 N E (.alt i k o r q) pa L H bs:=⟨h,hq⟩
theorem fM.nn:fM dfs P ops hn w0 N E .no pa L H bs:=trivial
theorem fM.yv (hy:Yl P L H w0 bs ⟨some t,op,ty,pos,aft,none⟩ v) (ht:Nat.blt t N=true) (h:fM dfs P ops hn w0 N E r ((i,⟨some t,op,ty,pos,aft,none⟩,v)::pa) ((t,v)::L) H bs):fM dfs P ops hn w0 N E (.light i ⟨some t,op,ty,pos,aft,none⟩ r) pa L H bs :=
 ⟨v,λa W f s=>.inl ⟨by simp [Region.wanted],hy a W (λx u e=>f.ev e) s⟩,rJ ht,h⟩
theorem fM.m (hx:ev L x=some v) (ht:Nat.blt t N=true) (h:fM dfs P ops hn w0 N E r ((i,⟨some t,.move x,ty,pos,aft,none⟩,v)::pa) ((t,v)::L) H bs):fM dfs P ops hn w0 N E (.light i ⟨some t,.move x,ty,pos,aft,none⟩ r) pa L H bs:=.yv (.move hx) ht h
theorem fM.a (hx:ev L x=some v) (ht:Nat.blt t N=true) (h:fM dfs P ops hn w0 N E r ((i,⟨some t,.assign x,ty,pos,aft,none⟩,v)::pa) ((t,v)::L) H bs):fM dfs P ops hn w0 N E (.light i ⟨some t,.assign x,ty,pos,aft,none⟩ r) pa L H bs:=.yv (.assign hx) ht h
theorem qX.into {H':Hp} {bs':List Res} (hw:k=1\/(∀ W,St H' w0 bs' W->St H w0 bs W)\/iG dfs P ops hn w0 N L H' bs' i pa) (h:fM dfs P ops hn w0 N E r pa ((t,v)::L) H' bs') :
 At dfs N ((t,v)::L) H' w0 bs' (λa' W'=>∃ v H' bs',Fr dfs N (putL (some t) v L) a'/\St H' w0 bs' W'/\(k=1\/(∀ W,St H' w0 bs' W->St H w0 bs W)\/iG dfs P ops hn w0 N L H' bs' i pa)/\fM dfs P ops hn w0 N E r pa (putL (some t) v L) H' bs'):=λ_ _ f s=>⟨v,H',bs',f,s,hw,h⟩
theorem qX.al {l:List Value} (hz:pT P T=some l) (ht:Nat.blt t N=true) (h:∀ b,fM dfs P ops hn w0 N E r pa ((t,.pointer (some ⟨b,0,none⟩))::L) H (.box b l T::bs)):qX dfs P ops hn w0 N E i k ⟨some t,.alloc T,ty,pos,aft,none⟩ r pa L H bs :=
 ⟨rJ ht,alloc hz ht λb=>qX.into (.inr<|.inl λ_ s=>s.drop) (h b)⟩
theorem qX.ct {X:Type} {f:FuncId} {xs:List Operand} {vs:List Value} {ats:Array TypeId} {C:X->Hp->Prop} {val:X->Value} (hf:dI P f=true) (hv:evs L xs=some vs)
 (hc:∀ W,St H w0 bs W->Calls P f vs.toArray W λe W'=>∃ x H',C x H'/\e=.returned (val x)/\xF H W H' W') (ht:Nat.blt t N=true)
 (h:∀ x H',C x H'->HUp w0 H H'->fM dfs P ops hn w0 N E r pa ((t,val x)::L) H' bs):qX dfs P ops hn w0 N E i k ⟨some t,.call ⟨.value (.func f),xs.toArray,ats⟩,ty,pos,aft,none⟩ r pa L H bs :=
 ⟨rJ ht,aY0 hf hv hc ht λx H' hx u=>qX.into (.inr<|.inl λ_ s=>s.weakH u.up) (h x H' hx u)⟩
theorem qX.c3 {X:Type} {f:FuncId} {xs:List Operand} {vs:List Value} {ats:Array TypeId} {C:X->Prop} {val:X->Value} {H':X->Hp} {bs':X->List Res} (hf:dI P f=true) (hv:evs L xs=some vs)
 (hc:∀ W,St H w0 bs W->Calls P f vs.toArray W λe W'=>∃ x,C x/\e=.returned (val x)/\St (H' x) w0 (bs' x) W') (ht:Nat.blt t N=true)
 (hr:∀ x,C x->iG dfs P ops hn w0 N L (H' x) (bs' x) i pa) (h:∀ x,C x->fM dfs P ops hn w0 N E r pa ((t,val x)::L) (H' x) (bs' x)):qX dfs P ops hn w0 N E i 2 ⟨some t,.call ⟨.value (.func f),xs.toArray,ats⟩,ty,pos,aft,none⟩ r pa L H bs :=
 ⟨rJ ht,bM1 hf hv hc ht λx hx=>qX.into (.inr<|.inr<|hr x hx) (h x hx)⟩
theorem fM.fn {l tl:List Oper} {nn:Nat} (ht:l.drop nn=tl) (h:At dfs N L H w0 bs (wpList P ops Q tl)):fM dfs P ops hn w0 N (λL H bs=>At dfs N L H w0 bs (wpList P ops Q (l.drop nn))) .done pa L H bs:=by
 subst ht;exact h
theorem At.ft {id:Nat} {l:List Oper} {p:PlT} (nn:Nat) (p0:Pi0) (hm:P.follows .mixedOrders=true) (hB:(WX l.toArray nn [] && okT l.toArray nn [] [] p0)=true) (ht:vK l p0=p)
 (h:fM dfs P l.toArray nn w0 n (λL H bs=>At dfs n L H w0 bs (wpList P l.toArray Q (l.drop nn))) p [] L H bs):At dfs n L H w0 bs ((Code.region id l.toArray true).wp P Q):=bW5 nn p0 hm hB ht h
end
end Go.Sx

namespace Go.Sx
open Go.RowKit Go.Par
section
variable {dfs:List Deferred} {P:Program} {L:Sl} {H H':Hp} {w0:World} {bs bs':List Res} {ty:TypeId} {pos:String} {aft:Array Edge} {t:Tmp} {op:Op} {ops:Array Oper} {N hn i n j:Nat} {pa:List (Nat × Oper × Value)} {E:Sl->Hp->List Res->Prop} {r:List (Nat × Nat × Oper)} {rest:List Oper} {Q:Exit->Act->World->Prop} {o:Oper} {v:Value} {b c:Bool} {u:Tmp}
theorem fM.yw {r:PlT} (hy:Yl P L H w0 bs ⟨some t,op,ty,pos,aft,none⟩ v) (h:fM dfs P ops hn w0 N E r ((i,⟨some t,op,ty,pos,aft,none⟩,v)::pa) ((t,v)::L) H bs) (ht:Nat.blt t N=true:=by rfl):fM dfs P ops hn w0 N E (.light i ⟨some t,op,ty,pos,aft,none⟩ r) pa L H bs:=.yv hy ht h
theorem fM.mv {r:PlT} {x:Operand} (hx:ev L x=some v) (h:fM dfs P ops hn w0 N E r ((i,⟨some t,.move x,ty,pos,aft,none⟩,v)::pa) ((t,v)::L) H bs) (ht:Nat.blt t N=true:=by rfl):fM dfs P ops hn w0 N E (.light i ⟨some t,.move x,ty,pos,aft,none⟩ r) pa L H bs:=.m hx ht h
end
section
variable {dfs:List Deferred} {P:Program} {L:Sl} {H H':Hp} {w0:World} {bs bs':List Res} {ty:TypeId} {pos:String} {aft:Array Edge} {t:Tmp} {op:Op} {ops:Array Oper} {N hn i n j:Nat} {pa:List (Nat × Oper × Value)} {E:Sl->Hp->List Res->Prop} {r:List (Nat × Nat × Oper)} {rest:List Oper} {Q:Exit->Act->World->Prop} {o:Oper} {v:Value} {b c:Bool} {u:Tmp}
theorem fM.fA {x:Operand} {T:TypeId} {k a off o':Nat} {r:PlT} (hp:ev L x=some (.pointer (some ⟨a,off,none⟩))) (hF:dY P T k=some o') (h:fM dfs P ops hn w0 N E r ((i,⟨some t,.fieldAddr T x k,ty,pos,aft,none⟩,(.pointer (some ⟨a,off+o',none⟩)))::pa) ((t,(.pointer (some ⟨a,off+o',none⟩)))::L) H bs) (ht:Nat.blt t N=true:=by rfl):fM dfs P ops hn w0 N E (.light i ⟨some t,.fieldAddr T x k,ty,pos,aft,none⟩ r) pa L H bs:=.yv (.fieldAddr hp hF) ht h
theorem fM.lD {x:Operand} {T t':TypeId} {a off:Nat} {l:List Value} {r:PlT} (hp:ev L x=some (.pointer (some ⟨a,off,none⟩))) (hT:kR P T=some none) (hm:Res.box a l t'∈bs) (hv:l[off]? = some v) (h:fM dfs P ops hn w0 N E r ((i,⟨some t,.load T x,ty,pos,aft,none⟩,v)::pa) ((t,v)::L) H bs) (ht:Nat.blt t N=true:=by rfl):fM dfs P ops hn w0 N E (.light i ⟨some t,.load T x,ty,pos,aft,none⟩ r) pa L H bs:=.yv (.load hp hT hm hv) ht h
theorem fM.nC {x:Operand} {p:Addr} {r:PlT} (hx:ev L x=some (.pointer (some p))) (h:fM dfs P ops hn w0 N E r ((i,⟨some t,.nilCheck x,ty,pos,aft,none⟩,(.pointer (some p)))::pa) ((t,(.pointer (some p)))::L) H bs) (ht:Nat.blt t N=true:=by rfl):fM dfs P ops hn w0 N E (.light i ⟨some t,.nilCheck x,ty,pos,aft,none⟩ r) pa L H bs:=.yv (.nilCheck hx) ht h
end
def RW (H:Hp) (v:Value) (n:Nat) (xs:List Value):Prop:=(v=.slice none 0 0/\n=0)\/∃ b c,v=.slice (some ⟨b,0,none⟩) n c/\n<=c/\c<=maxLen/\BQ H b 0 xs
variable {bs bs':List Res}
theorem Upd.new {x y:Res} (h:Upd bs x y bs'):y∈bs':=by
 induction h with
 | head=>exact .head _
 | tail _ ih=>exact .tail _ ih
variable {H H':Hp} {v:Value} {n:Nat} {xs:List Value}
theorem RW.up (h:RW H v n xs) (u:Up H H'):RW H' v n xs:=by
 rcases h with h | ⟨b,c,e,h1,h2,h3⟩
 ·exact .inl h
 ·exact .inr ⟨b,c,e,h1,h2,h3.up u⟩
section
variable {dfs:List Deferred} {P:Program} {n:Nat} {L:Sl} {H:Hp} {w0:World} {bs:List Res} {Q:Exit->Act->World->Prop} {ops:Array Oper} {rest:List Oper} {K:Act->World->Prop}
variable {d:Option Tmp} {ty:TypeId} {pos:String} {aft:Array Edge} {v:Value} {t:Tmp} {x y:Operand} {T:TypeId}
theorem St.boxRowZ {b m z:Nat} {l:List Value} {e:TypeId} {W:World} (h:St H w0 (.box b l e::bs) W) (hz:l.length=m * z) (hl:m<=maxLen):St H w0 (.row e z (.slice (some ⟨b,0,none⟩) m m) m l::bs) W:=by
 have hb:=h.own _ Hm;refine ⟨h.ext,h.agr,λx hx=>?_,?_,h.lo⟩
 ·rcases bM.1 hx with rfl | hx
  ·exact ⟨⟨hz,.inr ⟨b,m,l.toArray,Z,hb.1.1,hb.1.2,aX _,hl,by simpa using hz,by rw [<-hz];simp⟩⟩,λc e=>hb.2 c e⟩
  ·exact h.own x (.tail _ hx)
 ·have h1:=h.apart;rw [jD] at h1|-;exact ⟨λz hz c e=>h1.1 z hz c e,h1.2⟩
variable {N hn i:Nat} {pa:List (Nat × Oper × Value)} {E:Sl->Hp->List Res->Prop} {q:PlT}
theorem qX.blR {ps:List (Nat × Operand)} {pv:List (Nat × Value)} {len z k:Nat} {e:TypeId} {l:List Value} (hv:evp L ps=some pv) (hb:yA P T len pv=some (e,l)) (ht:Nat.blt t N=true) (hz:l.length=len * z) (hl:len<=maxLen)
 (h:∀ b,fM dfs P ops hn w0 N E q pa ((t,.slice (some ⟨b,0,none⟩) len len)::L) H (.row e z (.slice (some ⟨b,0,none⟩) len len) len l::bs)):qX dfs P ops hn w0 N E i k ⟨some t,.buildSlice T len ps.toArray,ty,pos,aft,none⟩ q pa L H bs :=
 ⟨rJ ht,buildSlice hv hb ht λb=>reSt (λ_ s=>s.boxRowZ hz hl) (qX.into (.inr<|.inl λ_ s=>s.drop) (h b))⟩
end
section
variable {dfs:List Deferred} {P:Program} {n:Nat} {L:Sl} {H:Hp} {w0:World} {bs:List Res} {Q:Exit->Act->World->Prop} {ops:Array Oper} {rest:List Oper} {K:Act->World->Prop}
variable {d:Option Tmp} {ty:TypeId} {pos:String} {aft:Array Edge} {v:Value} {t:Tmp} {x y:Operand} {T:TypeId}
theorem RQ {e:TypeId} {size bytes m c k:Nat} {p:Option Addr} {r:Value} {xs:List Value} {ds:List D} {bs':List Value->Value->List Res} (hT:zG P T=some (e,size,bytes)) (hx:ev L x=some r)
 (hm:∀ news r',Upd bs (.row e size r k xs) (.row e size r' (k+m) (xs++news)) (bs' news r')) (hy:ev L y=some (.slice p m c)) (hr:Rep H (.seq size ds) [.slice p m c])
 (h63:k+m<=maxLen) (hb:(k+m) * bytes<=140737488355328) (ht:Nat.blt t n=true)
 (h:∀ news r',eD H size ds news->At dfs n ((t,r')::L) H w0 (bs' news r') K):At dfs n L H w0 bs (one P ops Q ⟨some t,.call ⟨.builtin .append,#[x,y],#[T,T]⟩,ty,pos,aft,none⟩ K):=by
 have hlen:=hr.len;unfold Rep at hr;obtain ⟨p',c',h1,h2,h3,h4⟩:=hr;injection h1 with h1 _
 injection h1 with e1 e2 e3
 subst e1 e3;rcases h4 with h4 | ⟨b,off,cs,rfl,hmem,hz,_⟩
 ·subst h4;obtain rfl:m=0:=e2;cases p with
  | some A=>exact aB7 hT hx (hm []) hy (λW s j u e=>by simp at e) (by simp) (by simp) h63 hb ht λr' _=>h [] r' .nil
  | none =>
   obtain ⟨hu,i,z,hi,hz,hsz,hby,hzs,h0⟩:=BU hT;have e4:bs' [] r=bs:=(hm [] r).same (by rw [sA,eK]);have h5:=h [] r .nil;rw [e4] at h5;intro a W f s;refine nP rfl ?_;unfold Oper.wp;have hown:W.ownsRow w0.heap.size e size r k xs:=(s.own _ (hm [] r).mem).1
   have hrun:(Builtin.append_ #[T,T] ty #[r,.slice none 0 c]).run P W=.ok r W:=by
    rcases hown.2 with ⟨rfl,rfl⟩ | ⟨g,cap,cur,rfl,hbg,hgc,hnc,hcm,hcs,htake⟩
    ·simp [Builtin.append_,run_underlying hu,sizeOf,typeInfo,hi,Builtin.lenOf,Builtin.firstCells]
    ·simp [Builtin.append_,run_underlying hu,sizeOf,typeInfo,hi,Builtin.lenOf,Builtin.firstCells,hnc,storeCells]
   simp [execOp,resolve,invoke,builtin,f.ev hx,f.ev hy,hrun,Result.andThen,Oper.upon];exact h5 _ _ (f.put ht _) s
 ·exact aB7 hT hx (hm cs) hy (λW s j u e=>by rw [Addr.add_lit];exact hmem.cell s.agr e) (by rw [hz.len,e2]) hz.one h63 hb ht λr' _=>h cs r' hz
theorem At.apD {e:TypeId} {size bytes m c k:Nat} {p:Option Addr} {r:Value} {xs:List Value} {ds:List D} {bs':List Value->Value->List Res} (hT:zG P T=some (e,size,bytes)) (hx:ev L x=some r)
 (hm:∀ news r',Upd bs (.row e size r k xs) (.row e size r' (k+m) (xs++news)) (bs' news r')) (hy:ev L y=some (.slice p m c)) (hr:Rep H (.seq size ds) [.slice p m c])
 (h63:k+m<=maxLen) (hb:(k+m) * bytes<=140737488355328) (ht:Nat.blt t n=true)
 (h:∀ news r',eD H size ds news->At dfs n ((t,r')::L) H w0 (bs' news r') (wpList P ops Q rest)):At dfs n L H w0 bs (wpList P ops Q (⟨some t,.call ⟨.builtin .append,#[x,y],#[T,T]⟩,ty,pos,aft,none⟩::rest)):=cons (RQ hT hx hm hy hr h63 hb ht h)
theorem At.blR {ps:List (Nat × Operand)} {pv:List (Nat × Value)} {len z:Nat} {e:TypeId} {l:List Value} (hv:evp L ps=some pv) (hb:yA P T len pv=some (e,l)) (ht:Nat.blt t n=true) (hz:l.length=len * z) (hl:len<=maxLen)
 (h:∀ b,At dfs n ((t,.slice (some ⟨b,0,none⟩) len len)::L) H w0 (.row e z (.slice (some ⟨b,0,none⟩) len len) len l::bs) (wpList P ops Q rest)):At dfs n L H w0 bs (wpList P ops Q (⟨some t,.buildSlice T len ps.toArray,ty,pos,aft,none⟩::rest)) :=
 .bl hv hb ht λb=>reSt (λ_ s=>s.boxRowZ hz hl) (h b)
theorem At.rs {e:TypeId} {size k:Nat} {r:Value} {xs:List Value} {G:Act->World->Prop} (hm:Res.row e size r k xs∈bs) (hk:0<k) (h:∀ g c,r=.slice (some ⟨g,0,none⟩) k c->At dfs n L H w0 bs G):At dfs n L H w0 bs G:=λa W f s=>by
 have ho:W.ownsRow w0.heap.size e size r k xs:=(s.own _ hm).1;rcases ho.2 with ⟨hr,h0⟩ | ⟨g,cap,cur,hr,_⟩
 ·omega
 ·exact h g cap hr a W f s
theorem Yl.loadR {e:TypeId} {size k g c off m:Nat} {xs vs:List Value} (hp:ev L x=some (.pointer (some ⟨g,off,none⟩))) (hT:kR P T=some (some m)) (hm:Res.row e size (.slice (some ⟨g,0,none⟩) k c) k xs∈bs) (hl:vs.length=m) (hv:∀ (j:Nat) u,vs[j]? = some u->xs[off+j]? = some u) {gd:Option (Nat × Bool)}:Yl P L H w0 bs ⟨d,.load T x,ty,pos,aft,gd⟩ (.agg vs.toArray):=.of_run λa W f s=>by
 subst hl;have ho:W.ownsRow w0.heap.size e size (.slice (some ⟨g,0,none⟩) k c) k xs:=(s.own _ hm).1;obtain ⟨h1,h2⟩:=uC (W:=W) hT
 have h3:(loadCells ⟨g,off,none⟩ vs.length).run P W=.ok vs.toArray W:=run_loadCells_list W _ vs λj u e=>by
  have:=World.ownsRow.cells ho (g:=g) rfl (off+j) u (hv j u e);rw [Addr.add_lit,dL] at this;rw [Addr.add_lit];exact this
 unfold execOp;simp only [f x _ hp,Instr.loadAt,Instr.sureAddr,loadVar,Sem.run_bind,Sem.run_pure,Result.andThen,h1,h2,bS,h3]
theorem Yl.fld {i:Nat} {u:Value} (hx:ev L x=some v) (hr:∀ W,(Instr.field T v i).run P W=.ok u W) {gd:Option (Nat × Bool)}:Yl P L H w0 bs ⟨d,.field T x i,ty,pos,aft,gd⟩ u:=.of_run λa W f s=>by
 unfold execOp;simp only [f x _ hx,Sem.run_bind,hr W,Result.andThen,Sem.run_pure]
theorem GV:∀ (vs l more:List Value) (off:Nat),off+vs.length<=l.length->nK (l++more) off vs=nK l off vs++more
 | [],l,more,off,_=>rfl
 | v::r,l,more,off,h=>by
  unfold nK;rw [aJ] at h;rw [List.set_append_left _ _ (by omega)];exact GV r (l.set off v) more (off+1) (by rw [List.length_set];omega)
theorem IC:∀ (vs p l:List Value) (off:Nat),nK (p++l) (p.length+off) vs=p++nK l off vs
 | [],p,l,off=>rfl
 | v::r,p,l,off=>by
  unfold nK;rw [kK _ _ (by omega),show p.length+off - p.length=off by omega,dN];exact IC r p (l.set off v) (off+1)
theorem eD.put {H:Hp} {z:Nat} {d:D} {vs:List Value} (hd:Rep H d vs) (hz:vs.length=z):∀ {ds:List D} {l:List Value} {i:Nat},eD H z ds l->i<ds.length->eD H z (ds.set i d) (nK l (i * z) vs)
 | [],l,i,_,hi=>by simp at hi
 | d0::r,l,0,h,_=>by
  unfold eD at h;obtain ⟨x,y,rfl,h1,h2,h3⟩:=h;rw [pP,oU,GV _ _ _ _ (by omega)];have:=GW vs [] x (by omega);simp only [bW,aM] at this;rw [this];unfold eD;exact ⟨vs,y,Z,hz,hd,h3⟩
 | d0::r,l,i+1,h,hi=>by
  unfold eD at h;obtain ⟨x,y,rfl,h1,h2,h3⟩:=h;have:=eD.put hd hz (i:=i) h3 (by simpa using hi);rw [List.set_cons_succ,show (i+1) * z=x.length+i * z by rw [h1,gR];omega,IC];unfold eD;exact ⟨x,_,Z,h1,h2,this⟩
theorem yJ:∀ (vs l:List Value) (off:Nat),(nK l off vs).length=l.length
 | [],l,off=>rfl
 | v::r,l,off=>by unfold nK;rw [yJ r,List.length_set]
variable {N hn i:Nat} {pa:List (Nat × Oper × Value)} {E:Sl->Hp->List Res->Prop} {q:PlT} {fr:List (Nat × Nat × Oper)}
theorem eC.apD {e:TypeId} {size bytes m c k:Nat} {p:Option Addr} {r:Value} {xs:List Value} {ds:List D} {bs':List Value->Value->List Res} (hT:zG P T=some (e,size,bytes)) (hx:ev L x=some r)
 (hm:∀ news r',Upd bs (.row e size r k xs) (.row e size r' (k+m) (xs++news)) (bs' news r')) (hy:ev L y=some (.slice p m c)) (hr:Rep H (.seq size ds) [.slice p m c])
 (h63:k+m<=maxLen) (hb:(k+m) * bytes<=140737488355328) (ht:Nat.blt t N=true)
 (hr2:∀ news r',iG dfs P ops hn w0 N L H (bs' news r') i pa) (h:∀ news p c,eD H size ds news->eC dfs P ops hn w0 N E fr pa ((t,.slice p (k+m) c)::L) H (bs' news (.slice p (k+m) c))) :
 eC dfs P ops hn w0 N E ((i,3,⟨some t,.call ⟨.builtin .append,#[x,y],#[T,T]⟩,ty,pos,aft,none⟩)::fr) pa L H bs :=
 ⟨rJ ht,RQ hT hx hm hy hr h63 hb ht λnews r' hz=>At.ra (hm news r').new λp c e=>by subst e;exact eC.into (.inr<|.inr<|hr2 _ _) (h news p c hz)⟩
end
section
variable {dfs:List Deferred} {P:Program}
variable {n:Nat} {L:Sl} {H:Hp} {w0:World} {bs:List Res} {d:Option Tmp} {ty:TypeId} {pos:String} {aft:Array Edge} {g:Option (Nat × Bool)} {x y:Operand} {T T':TypeId}
end
variable {z c:Nat}
theorem Rep.cells {ds:List D} {p:Option Addr} (h:Rep H (.seq z ds) [.slice p n c]):∃ cf:Nat->List Value,∀ i d,ds[i]? = some d->∃ b off,p=some ⟨b,off,none⟩/\Rep H d (cf i)/\(cf i).length=z/\kZ H b (off+i * z) (cf i):=by
 classical
 refine ⟨λi=>if h:∃ cs,∀ d,ds[i]? = some d->∃ b off,p=some ⟨b,off,none⟩/\Rep H d cs/\cs.length=z/\kZ H b (off+i * z) cs then Classical.choose h else [],λi d hd=>?_⟩
 have ex:∃ cs,∀ d,ds[i]? = some d->∃ b off,p=some ⟨b,off,none⟩/\Rep H d cs/\cs.length=z/\kZ H b (off+i * z) cs:=by
  obtain ⟨b,off,cs,h1,h2,h3,h4⟩:=h.elem hd;refine ⟨cs,λd' hd'=>?_⟩;rw [hd] at hd';injection hd' with e
  subst e;exact ⟨b,off,h1,h2,h3,h4⟩
 simp only [MM ex];exact Classical.choose_spec ex d hd
variable {l:List Value} {k:Nat}
theorem aN5 {vs:List Value} (h:(l.drop k).take vs.length=vs):∀ (j:Nat) u,vs[j]? = some u->l[k+j]? = some u:=λj u hj=>by
 rw [<-h,List.getElem?_take] at hj
 split at hj
 ·rw [List.getElem?_drop] at hj;exact hj
 ·cases hj
section
variable {dfs:List Deferred} {P:Program} {n:Nat} {L:Sl} {H:Hp} {w0:World} {bs:List Res} {Q:Exit->Act->World->Prop} {ops:Array Oper} {rest:List Oper} {K:Act->World->Prop}
variable {d:Option Tmp} {ty:TypeId} {pos:String} {aft:Array Edge} {v:Value} {t:Tmp} {x:Operand}
theorem Yl.mkF {fn:Fn} {fs cs:List Operand} {fi ca:List Value} {g:Option (Nat × Bool)} (h1:evs L fs=some fi) (h2:evs L cs=some ca):Yl P L H w0 bs ⟨d,.makeFunc fn fs.toArray cs.toArray,ty,pos,aft,g⟩ (.func fn fi.toArray ca.toArray):=.of_run λa W f _=>by
 unfold execOp;simp [zQ f h1,zQ f h2,Instr.makeFunc]
theorem Fr.know {a:Act} {p:Value} (f:Fr dfs n L a) (h:look L t=some p):Fr dfs n ((t,p)::L) a:=⟨f.size,f.defers,λs u e=>by
 unfold look at e;cases hb:Nat.beq t s
 ·rw [hb,cond_false] at e;exact f.slot s u e
 ·rw [hb,kH] at e;rw [<-kJ hb,<-bK e];exact f.slot t p h⟩
theorem At.cr {y z:Code} {p:Bool} (hc:look L t=some (.bool p)) (h1:p=true->At dfs n ((t,.bool true)::L) H w0 bs (y.wp P Q)) (h2:p=false->At dfs n ((t,.bool false)::L) H w0 bs (z.wp P Q)):At dfs n L H w0 bs ((Code.cond (.tmp t) y z).wp P Q) :=
 At.cd (t:=p) (by exact hc) (λe a W f s=>h1 e a W (f.know (e ▸ hc)) s) (λe a W f s=>h2 e a W (f.know (e ▸ hc)) s)
/-! ### Stores in a drawn region's head -/
section
variable {N hn i:Nat} {pa:List (Nat × Oper × Value)} {E:Sl->Hp->List Res->Prop} {r:List (Nat × Nat × Oper)} {T:TypeId} {y:Operand} {bs':List Res}
theorem eC.into0 (hr:iG dfs P ops hn w0 N L H bs' i pa) (h:eC dfs P ops hn w0 N E r pa L H bs') :
 At dfs N L H w0 bs' (λa' W'=>∃ v H' bs'',Fr dfs N (putL none v L) a'/\St H' w0 bs'' W'/\(2=1\/(∀ W,St H' w0 bs'' W->St H w0 bs W)\/iG dfs P ops hn w0 N L H' bs'' i pa)/\eC dfs P ops hn w0 N E r pa (putL none v L) H' bs''):=λ_ _ f s=>⟨undef,H,bs',f,s,.inr (.inr hr),h⟩
theorem eC.sW {b:Nat} {l vs:List Value} {t':TypeId} (hm:Upd bs (.box b l t') (.box b vs t') bs') (hp:ev L x=some (.pointer (some ⟨b,0,none⟩))) (hv:ev L y=some (.agg vs.toArray)) (hT:hP P T=some vs.length) (h1:∀ u∈vs,u.oneCell'=true) (ho:l.length=vs.length)
 (hr:iG dfs P ops hn w0 N L H bs' i pa) (h:eC dfs P ops hn w0 N E r pa L H bs'):eC dfs P ops hn w0 N E ((i,3,⟨none,.store T x y,ty,pos,aft,none⟩)::r) pa L H bs :=
 ⟨λ_ e=>(by cases e),KC hp hv hT h1 hm ho (into0 hr h)⟩
theorem eC.st {b off:Nat} {l l':List Value} {t':TypeId} (hm:Upd bs (.box b l t') (.box b l' t') bs') (hp:ev L x=some (.pointer (some ⟨b,off,none⟩))) (hv:ev L y=some v) (hT:hP P T=some 1) (h1:v.oneCell'=true) (ho:Nat.blt off l.length=true) (hl:l.set off v=l')
 (hr:iG dfs P ops hn w0 N L H bs' i pa) (h:eC dfs P ops hn w0 N E r pa L H bs'):eC dfs P ops hn w0 N E ((i,3,⟨none,.store T x y,ty,pos,aft,none⟩)::r) pa L H bs :=
 ⟨λ_ e=>(by cases e),store hp hv hT h1 hm (by simpa [nF] using ho) hl (into0 hr h)⟩
end
section
variable {N hn i k:Nat} {pa:List (Nat × Oper × Value)} {E:Sl->Hp->List Res->Prop} {r:PlT} {T:TypeId} {y:Operand} {bs':List Res}
theorem qX.blF {ps:List (Nat × Operand)} {pv:List (Nat × Value)} {len:Nat} {e:TypeId} {l:List Value} (hv:evp L ps=some pv) (hb:yA P T len pv=some (e,l)) (ht:Nat.blt t N=true)
 (h:∀ b H1,HUp w0 H H1->BQ H1 b 0 l->fM dfs P ops hn w0 N E r pa ((t,.slice (some ⟨b,0,none⟩) len len)::L) H1 bs):qX dfs P ops hn w0 N E i k ⟨some t,.buildSlice T len ps.toArray,ty,pos,aft,none⟩ r pa L H bs :=
 ⟨rJ ht,buildSlice hv hb ht λb=>freezeBoxN λH1 u m=>qX.into (.inr<|.inl λ_ s=>s.weakH u.up) (h b H1 u m)⟩
theorem qX.into0 (hr:iG dfs P ops hn w0 N L H bs' i pa) (h:fM dfs P ops hn w0 N E r pa L H bs') :
 At dfs N L H w0 bs' (λa' W'=>∃ v H' bs'',Fr dfs N (putL none v L) a'/\St H' w0 bs'' W'/\(k=1\/(∀ W,St H' w0 bs'' W->St H w0 bs W)\/iG dfs P ops hn w0 N L H' bs'' i pa)/\fM dfs P ops hn w0 N E r pa (putL none v L) H' bs''):=λ_ _ f s=>⟨undef,H,bs',f,s,.inr (.inr hr),h⟩
theorem qX.sW {b:Nat} {l vs:List Value} {t':TypeId} (hm:Upd bs (.box b l t') (.box b vs t') bs') (hp:ev L x=some (.pointer (some ⟨b,0,none⟩))) (hv:ev L y=some (.agg vs.toArray)) (hT:hP P T=some vs.length) (h1:∀ u∈vs,u.oneCell'=true) (ho:l.length=vs.length)
 (hr:iG dfs P ops hn w0 N L H bs' i pa) (h:fM dfs P ops hn w0 N E r pa L H bs'):qX dfs P ops hn w0 N E i k ⟨none,.store T x y,ty,pos,aft,none⟩ r pa L H bs :=
 ⟨λ_ e=>(by cases e),KC hp hv hT h1 hm ho (qX.into0 hr h)⟩
end
end
section
variable {dfs:List Deferred} {P:Program} {L:Sl} {H:Hp} {w0:World} {bs:List Res} {ops:Array Oper}
variable {ty:TypeId} {pos:String} {aft:Array Edge} {t:Tmp}
variable {N hn i k:Nat} {pa:List (Nat × Oper × Value)} {E:Sl->Hp->List Res->Prop} {r:List (Nat × Nat × Oper)} {T:TypeId}
theorem eC.blF {ps:List (Nat × Operand)} {pv:List (Nat × Value)} {len:Nat} {e:TypeId} {l:List Value} (hv:evp L ps=some pv) (hb:yA P T len pv=some (e,l)) (ht:Nat.blt t N=true)
 (h:∀ b H1,HUp w0 H H1->BQ H1 b 0 l->eC dfs P ops hn w0 N E r pa ((t,.slice (some ⟨b,0,none⟩) len len)::L) H1 bs):eC dfs P ops hn w0 N E ((i,k+1,⟨some t,.buildSlice T len ps.toArray,ty,pos,aft,none⟩)::r) pa L H bs :=
 ⟨rJ ht,buildSlice hv hb ht λb=>freezeBoxN λH1 u m=>eC.into (.inr<|.inl λ_ s=>s.weakH u.up) (h b H1 u m)⟩
end
class FW (F:Fence):Prop where
 fn:∀ f,F.fn f
 depth:F.depth=none
 calls:∀ {n:Nat} {P:Program} {f:FuncId} {args:Array Value} {w:World} {R:Ending->World->Prop},Calls P f args w R->CallsIn F n P f args w R
 rows:∀ {n:Nat} {P:Program} {r:String} {args:Array Value} {w:World} {R:Value->World->Prop},Rows P r args w R->RowsIn F n P r args w R
instance:FW Fence.wide:=⟨λ_=>trivial,Z,λh=>callsIn_wide.2 h,λh c cs _=>let ⟨v,w',r,s⟩:=h c cs;⟨v,w',r,stepsIn_wide.2 s⟩⟩
instance {l:Nat}:FW (Fence.wide.inRound l):=⟨λ_=>trivial,Z,λh=>CallsIn.inRound l (callsIn_wide.2 h),λh c cs _=>let ⟨v,w',r,s⟩:=h c cs;⟨v,w',r,stepsIn_wide.2 s⟩⟩
section
variable {dfs:List Deferred} {P:Program} {n m:Nat} {L:Sl} {H:Hp} {w0:World} {bs:List Res} {Q:Exit->Act->World->Prop} {ops:Array Oper} {rest:List Oper} {K:Act->World->Prop} {F:Fence}
variable {d:Option Tmp} {ty:TypeId} {pos:String} {aft:Array Edge} {g:Option (Nat × Bool)} {v:Value} {t:Tmp} {op:Op} {x y:Operand} {T:TypeId}
theorem VX [hF:FW F] {o:Oper} {a:Act} {w:World} (hd:∀ c,o.op≠.defer c) (h:o.wp P a w K (λ_ _ _=>False)):o.wpIn F m P a w K Q:=by
 unfold Oper.wpIn;refine ⟨λf _=>hF.fn f,?_⟩;rw [Oper.semAt_plain F _ _ hd];unfold Oper.wp at h;generalize (execOp a.eval o).run P w=r at *;cases r with
 | ok z w' =>
  cases z <;> simp only [Oper.upon] at h <;> simp only [Oper.uponIn]
  case value u=>exact h
  case skip=>exact h
  case defer d=>exact h
  case enter f args =>
   refine ⟨λe=>(by rw [hF.depth] at e;cases e),hF.calls (h.mono ?_)⟩;intro e w'' q;cases e with
   | returned v=>exact q
   | panicked c=>exact q.elim
   | outgrown=>obtain ⟨_,_,q⟩:=q;exact q.elim
  case row rw args=>exact ⟨λe=>(by rw [hF.depth] at e;cases e),hF.rows h⟩
 | halt z w' =>
  cases z <;> simp only [Oper.upon] at h
theorem aX4 [hF:FW F] {o:Oper} (hd:∀ c,o.op≠.defer c) (h:At dfs n L H w0 bs (one P ops (λ_ _ _=>False) o (wpListIn F m P ops Q rest))):At dfs n L H w0 bs (wpListIn F m P ops Q (o::rest)):=by
 intro a W f s;have h1:=h a W f s;unfold one at h1;unfold wpListIn;cases hw:Region.wanted o (yielded ops a.tmps) with
 | true =>
  rw [hw] at h1;simp only [bS] at h1|-;rcases h1 with h1 | ⟨_,_,_,h1⟩
  ·exact VX hd h1
  ·exact h1.elim
 | false =>
  rw [hw] at h1;simp only [aI,bL] at h1|-;exact ⟨λf _=>hF.fn f,h1⟩
theorem At.rgI {id:Nat} {l:List Oper} (h:At dfs n L H w0 bs (wpListIn F m P l.toArray Q l)):At dfs n L H w0 bs ((Code.region id l.toArray false).wpIn F m P Q):=λa W f s=>wpIn_region_lit (h a W f s)
theorem At.rgW {id:Nat} {l:List Oper} (m:Nat) (h:At dfs n L H w0 bs (wpListIn Fence.wide m P l.toArray Q l)):At dfs n L H w0 bs ((Code.region id l.toArray false).wp P Q):=λa W f s=>wpIn_wide.1 (wpIn_region_lit (h a W f s))
theorem At.nlI (h:At dfs n L H w0 bs (Q .normal)):At dfs n L H w0 bs (wpListIn F m P ops Q []):=h
theorem At.yvI [FW F] (hy:Yl P L H w0 bs ⟨some t,op,ty,pos,aft,none⟩ v) (ht:Nat.blt t n=true) (h:At dfs n ((t,v)::L) H w0 bs (wpListIn F m P ops Q rest)) (hd:∀ c,op≠.defer c:=by intro c e;cases e):At dfs n L H w0 bs (wpListIn F m P ops Q (⟨some t,op,ty,pos,aft,none⟩::rest)):=aX4 hd (yl hy ht h)
theorem At.mI [FW F] (hx:ev L x=some v) (ht:Nat.blt t n=true) (h:At dfs n ((t,v)::L) H w0 bs (wpListIn F m P ops Q rest)):At dfs n L H w0 bs (wpListIn F m P ops Q (⟨some t,.move x,ty,pos,aft,none⟩::rest)):=.yvI (.move hx) ht h
theorem At.alI [FW F] {l:List Value} (hz:pT P T=some l) (ht:Nat.blt t n=true) (h:∀ b,At dfs n ((t,.pointer (some ⟨b,0,none⟩))::L) H w0 (.box b l T::bs) (wpListIn F m P ops Q rest)):At dfs n L H w0 bs (wpListIn F m P ops Q (⟨some t,.alloc T,ty,pos,aft,none⟩::rest)):=aX4 (by intro c e;cases e) (alloc hz ht h)
theorem At.sWI [FW F] {b:Nat} {l vs:List Value} {t':TypeId} {bs':List Res} (hm:Upd bs (.box b l t') (.box b vs t') bs') (hp:ev L x=some (.pointer (some ⟨b,0,none⟩))) (hv:ev L y=some (.agg vs.toArray)) (hT:hP P T=some vs.length) (h1:∀ u∈vs,u.oneCell'=true) (ho:l.length=vs.length) (h:At dfs n L H w0 bs' (wpListIn F m P ops Q rest)) :
 At dfs n L H w0 bs (wpListIn F m P ops Q (⟨none,.store T x y,ty,pos,aft,none⟩::rest)):=aX4 (by intro c e;cases e) (KC hp hv hT h1 hm ho h)
end
/-! ### The caller's side of a range over a function -/
section
variable {H:Hp} {w0 W W':World} {bs:List Res}
theorem St.beside {row:Option Nat} (s:St H w0 bs W) (g:W.grownBy W' row) (hr:∀ r,row=some r->w0.heap.size<=r/\H r=none/\∀ x∈bs,x.blk≠some r):St H w0 bs W':=by
 have hb:∀ k,k<W.heap.size->(∀ r,row=some r->k≠r)->W'.heap[k]? = W.heap[k]? := λk hk hn=>g.block k hk (λe=>hn k e.symm rfl);refine ⟨?_,⟨?_,bD s.agr.lo g.size⟩,?_,s.apart,s.lo⟩
 ·have e:=s.ext;unfold Ext at e|-;refine ⟨g.os.trans e.os,g.tape.trans e.tape,g.output.trans e.output,bD e.size g.size,λk hk=>?_⟩;exact (hb k (eW hk e.size) (λr e' h=>by have:=(hr r e').1;omega)).trans (e.block k hk)
 ·intro b o e;have:=s.agr b o e;rw [hb b (oT this) (λr e' h=>by subst h;rw [(hr b e').2.1] at e;cases e)];exact this
 ·intro x hx;exact ⟨(s.own x hx).1.keep g.size (λb e=>hb b ((s.own x hx).1.lt e).2 (λr e' h=>by subst h;exact (hr b e').2.2 x hx e)),(s.own x hx).2⟩
def TT:List Res->Bool
 | []=>true
 | .box ..::r=>TT r
 | .row ..::r=>TT r
 | _::_=>false
theorem DQ:∀ {bs:List Res},TT bs=true->∀ x∈bs,∀ base,x.ok base W->∀ b,x.blk=some b->∃ o,W.heap[b]? = some o/\o.isCells=true
 | [],_,x,hx,_,_,_,_=>by cases hx
 | .box c l t::r,h,x,hx,base,ho,b,e=>by
  rcases bM.1 hx with rfl | hx
  ·obtain rfl:c=b:=bK e;exact ⟨_,ho.2,Z⟩
  ·exact DQ (bs:=r) h x hx base ho b e
 | .row et size v n xs::r,h,x,hx,base,ho,b,e=>by
  rcases bM.1 hx with rfl | hx
  ·obtain ⟨_,⟨rfl,_⟩ | ⟨g,cap,cur,rfl,hg,hc,_⟩⟩:=ho
   ·cases e
   ·obtain rfl:g=b:=bK e;exact ⟨_,hc,Z⟩
  ·exact DQ (bs:=r) h x hx base ho b e
 | .obj ..::_,h,_,_,_,_,_,_=>by cases h
 | .big ..::_,h,_,_,_,_,_,_=>by cases h
theorem QS (s:St H w0 bs W) (h:TT bs=true) {r:Nat} {o:Obj} (ho:W.heap[r]? = some o) (hc:o.isCells=false):∀ x∈bs,x.blk≠some r:=by
 intro x hx e;obtain ⟨o',h1,h2⟩:=DQ h x hx _ (s.own x hx).1 r e;rw [ho] at h1;cases h1;rw [hc] at h2;cases h2
theorem bU4 {α Z:Type} {B:Nat} {C:List α->Z->Prop} {rs:Z->List Res} (hB:w0.heap.size<=B) (hH:∀ r,B<=r->H r=none) (hn:∀ pre z,C pre z->TT (rs z)=true) :
 OwnFrom B (λpre W=>∃ z,C pre z/\St H w0 (rs z) W):=by
 rintro pre X Y row ⟨z,hz,s⟩ hg hr
 exact ⟨z,hz,s.beside hg λr e=>by
  obtain ⟨h1,o,h2,h3⟩:=hr r e;exact ⟨bD hB h1,hH r h1,QS s (hn _ _ hz) h2 h3⟩⟩
theorem St.less {H':Hp} (s:St H' w0 bs W) (u:Up H H'):St H w0 bs W:=⟨s.ext,⟨λb o e=>s.agr b o (u b o e),u.lo ▸ s.agr.lo⟩,λx hx=>⟨(s.own x hx).1,λb e=>by
 cases h:H b with
 | none=>rfl
 | some o=>have:=(s.own x hx).2 b e;rw [u b o h] at this;cases this⟩,s.apart,u.lo ▸ s.lo⟩
theorem St.front {tl:List Res} (s:St H w0 (bs++tl) W):St H w0 bs W:=⟨s.ext,s.agr,λx hx=>s.own x (nW _ hx),(iL.1 s.apart).1,s.lo⟩
def tailOf (B:Nat) (W:World):List Res:=.big W.heap.size::(List.range' B (W.heap.size - B)).filterMap λk=>match W.heap[k]? with
 | some o=>if o.isCells then none else some (.obj k o)
 | none=>none
theorem DU {B:Nat} {x:Res} (h:x∈tailOf B W):x=.big W.heap.size\/∃ k o,x=.obj k o/\W.heap[k]? = some o/\o.isCells=false/\B<=k:=by
 rcases bM.1 h with rfl | h
 ·exact .inl Z
 ·obtain ⟨k,hk,he⟩:=pQ.1 h;cases ho:W.heap[k]? with
  | none=>rw [ho] at he;cases he
  | some o =>
   rw [ho] at he;cases hc:o.isCells with
   | true=>simp [hc] at he
   | false=>exact .inr ⟨k,o,by simpa [hc] using he.symm,ho,hc,by have:=List.mem_range'_1.1 hk;omega⟩
theorem St.tailOf {B:Nat} (s:St H w0 bs W) (hn:TT bs=true) (hB:w0.heap.size<=B) (hH:∀ r,B<=r->H r=none):St H w0 (bs++tailOf B W) W:=by
 refine ⟨s.ext,s.agr,?_,iL.2 ⟨s.apart,?_,?_⟩,s.lo⟩
 ·intro x hx;rcases cC.1 hx with hx | hx
  ·exact s.own x hx
  ·rcases DU hx with rfl | ⟨k,o,rfl,ho,hc,hk⟩
   ·exact ⟨aX _,λb e=>by cases e⟩
   ·exact ⟨⟨bD hB hk,ho⟩,λb e=>by obtain rfl:k=b:=bK e;exact hH k hk⟩
 ·refine .cons (λy _ b e=>by cases e) ?_;refine List.Pairwise.filterMap _ ?_ (List.pairwise_lt_range' (s:=B) (n:=W.heap.size - B));intro k j hlt x hx y hy b e e'
  have key:∀ (m:Nat) (u:Res),(match W.heap[m]? with | some o=>if o.isCells then none else some (Res.obj m o) | none=>none)=some u->u.blk=some m:=by
   intro m u hu;cases ho:W.heap[m]? with
   | none=>rw [ho] at hu;cases hu
   | some o =>
    rw [ho] at hu;cases hc:o.isCells with
    | true=>simp [hc] at hu
    | false =>
     simp [hc] at hu;rw [<-hu];rfl
  have h1:=key k x hx;have h2:=key j y hy;rw [h1] at e;rw [h2] at e';cases e;cases e';omega
 ·intro x hx y hy b e e';rcases DU hy with rfl | ⟨k,o,rfl,ho,hc,hk⟩
  ·cases e'
  ·obtain rfl:k=b:=bK e';exact QS s hn ho hc x hx e
theorem St.keepsFrom {B:Nat} (s:St H w0 (bs++Sx.tailOf B W) W'):KeepsFrom B W W':=by
 refine ⟨?_,λk o hk ho hc=>?_⟩
 ·exact (s.own _ (nH _ (aY ..))).1
 ·have hm:Res.obj k o∈Sx.tailOf B W:=by
   refine bT _ (pQ.2 ⟨k,List.mem_range'_1.2 ?_,?_⟩)
   ·have:=oT ho;omega
   ·rw [ho];simp [hc]
  exact ((s.own _ (nH _ hm)).1).2
def KpH (H:Hp) (W W':World):Prop:=Agr H W->Agr H W'
def rE {α Z:Type} (C:List α->Z->Prop) (rs:Z->List Res) (H:Hp) (w0:World) (tl:List Res) (xs:List α):Exit->Act->World->Prop
 | .normal,_,W=>∃ z,C xs z/\St H w0 (rs z++tl) W
 | _,_,_=>False
theorem At.rE {α Z:Type} {C:List α->Z->Prop} {rs:Z->List Res} {tl:List Res} {xs:List α} {dfs:List Deferred} {n:Nat} {L:Sl} {H':Hp} (z:Z) (u:Up H H') (hz:C xs z) (hb:bs=rs z++tl) :
 At dfs n L H' w0 bs (Sx.rE C rs H w0 tl xs .normal):=λa W f s=>⟨z,hz,by rw [<-hb];exact s.less u⟩
end
/-! ### A function with a range over a function in it -/
section
variable {P:Program} {n:Nat} {L:Sl} {H:Hp} {w0:World} {bs bs':List Res} {fn:Func} {R:Ending->World->Prop} {v:Value} {D:Nat}
theorem enterM {f:FuncId} {c:Code} {args:List Value} {w:World} (hf:P.funcs[f]? = some fn) (hb:fn.body=some c) (hn:fn.ntmps=n) (hl:Nat.ble args.length n=true) (hA:Agr H w)
 (h:At [] n (IB 0 args) H w [] (c.wp P (bodyPostM Fence.wide 9 P fn R))):Calls P f args.toArray w R:=by
 refine callsIn_wide.1 (callsIn_of_wp_marks (n:=9) hf hb trivial (wpIn_wide.2 (h _ _ ⟨?_,Z,?_⟩ (.start hA))))
 ·have:args.length<=n:=kI hl;simp [hn];omega
 ·intro t v e;obtain ⟨_,h2⟩:=EW args 0 t v e;rw [vG] at h2;have hlt:t<args.length:=(List.getElem?_eq_some_iff.1 h2).1;rw [Al_Array_getD_eq_getD_getElem?];rw [Array.getElem?_append_left (by simpa using hlt)];simp [h2]
theorem St.shut {W:World} (s:St H w0 bs W) (u:Upd bs (.obj D (.deferred (some []))) (.obj D (.deferred none)) bs'):St H w0 bs' (W.putObj D (.deferred none)):=by
 obtain ⟨h1,h2⟩:=(s.own _ u.mem).1;have hlt:=oT h2;have e:=s.ext;refine s.upd u ?_ (by simp [World.putObj]) ?_ ⟨h1,World.putObj_heap_same hlt⟩ (λb e=>.inl e)
 ·unfold Ext at e|-;exact e.grown (grownBy_putObj' W D _) (by omega) (λk e=>by cases e;exact h1)
 ·intro b _ hne;exact World.putObj_heap_other (λh=>hne (by rw [h];rfl))
theorem retM {e:Exit} (he:e=.ret\/e=.normal) (u:Upd bs (.obj D (.deferred (some []))) (.obj D (.deferred none)) bs') (h:At [] n L H w0 bs' (bodyPost P fn R .ret)) :
 At [{ target:=.collected D,args:=#[] }] n L H w0 bs (bodyPostM Fence.wide 9 P fn R e):=by
 intro a W f s;obtain ⟨_,v,h2,h3⟩:=h { a with defers:=[] } _ ⟨f.size,Z,f.slot⟩ (s.shut u)
 have h4:LeavesInM Fence.wide 9 P fn a.tmps R a.defers .returning W:=by
  rw [f.defers];exact ⟨(by intro e;cases e),.inl ⟨D,_,Z,run_takeDeferred (s.own _ u.mem).1.2,v,h2,h3⟩⟩
 rcases he with rfl | rfl <;> exact h4
end
/-! ### The iterator's side -/
section
variable {dfs:List Deferred} {P:Program} {n m l:Nat} {L:Sl} {H:Hp} {w0:World} {bs:List Res} {Q:Exit->Act->World->Prop} {ops:Array Oper} {rest:List Oper} {F:Fence}
variable {d:Option Tmp} {ty:TypeId} {pos:String} {aft:Array Edge} {g:Option (Nat × Bool)} {t:Tmp} {x:Operand} {xs:List Operand} {vs:List Value} {ats:Array TypeId}
theorem Ext.grownBy {W W':World} (e:Ext W W'):W.grownBy W' none:=by
 unfold Ext at e;exact ⟨e.os,e.tape,e.output,e.size,λk hk _=>e.block k hk⟩
theorem AbidesFrom.ext {β:Type} {B:Nat} {J:β->World->Prop} (h:AbidesFrom B J) {s:β} {W W':World} (hs:J s W) (e:Ext W W'):J s W':=h s W W' none hs (Ext.grownBy e) (λr h=>by cases h)
theorem XR {a:Act} {W W':World} {r:Next} (f0:∀ x u,ev L x=some u->a.eval x=u) (hx:ev L x=some (.func (.yield l) #[] #[])) (hv:evs L xs=some vs) (hr:(Instr.yield l vs.toArray).run P W=.ok r W') :
 (execOp a.eval ⟨d,.call ⟨.value x,xs.toArray,ats⟩,ty,pos,aft,g⟩).run P W=.ok r W':=by
 unfold execOp;simp [resolve,Deferred.ofValue,f0 _ _ hx,invoke,zQ f0 hv,hr]
def noH:Hp:=⟨λ_=>none,0⟩
theorem At.yd [hF:FW F] {J Jx:World->Prop} (hx:ev L x=some (.func (.yield l) #[] #[])) (hv:evs L xs=some vs) (ht:Nat.blt t n=true)
 (hy:∀ W,St H w0 bs W->YieldAt F (m - 1) P l vs.toArray W λe W'=>(e=.returned (.bool true)/\J W'/\KpH H W W')\/(e=.returned (.bool false)/\Jx W'))
 (h1:∀ w1,J w1->At dfs n ((t,.bool true)::L) H w1 [] (wpListIn F m P ops Q rest))
 (h2:∀ w1,Jx w1->At dfs n ((t,.bool false)::L) noH w1 [] (wpListIn F m P ops Q rest)) :
 At dfs n L H w0 bs (wpListIn F m P ops Q (⟨some t,.call ⟨.value x,xs.toArray,ats⟩,ty,pos,aft,none⟩::rest)):=by
 intro a W f s;unfold wpListIn;rw [aL (by simp [Region.wanted])];unfold Oper.wpIn;refine ⟨λf _=>hF.fn f,?_⟩;rw [Oper.semAt_plain F _ _ (by intro c e;cases e)];obtain ⟨fn,tmps,assign,body,hr,hR⟩:=hy W s;rw [XR (λx u e=>f.ev e) hx hv hr];refine ⟨λe=>(by rw [hF.depth] at e;cases e),hR.mono ?_⟩;rintro e W' (⟨rfl,hj,hk⟩ | ⟨rfl,hj⟩)
 ·exact h1 W' hj _ _ (f.put ht _) (.start (hk s.agr))
 ·exact h2 W' hj _ _ (f.put ht _) (.start ⟨λb o e=>(by cases e),aO _⟩)
theorem At.lj {c:Code} {X:Type} (L':X->Sl) (J:X->World->Prop) (C:X->Prop) (μ:X->Nat) (x0:X) (hC:C x0) (hL:Sub L (L' x0)) (hJ:J x0 w0)
 (round:∀ x w1,C x->J x w1->At dfs n (L' x) H w1 [] (c.wp P (Exit.then (λa W=>∃ y w2,(C y/\μ y<μ x)/\J y w2/\Fr dfs n (L' y) a/\St H w2 [] W) Q))) :
 At dfs n L H w0 [] ((Code.loop c).wp P Q):=by
 intro a W f s;refine wp_loop_ghost (λm a W=>∃ x w1,μ x=m/\C x/\J x w1/\Fr dfs n (L' x) a/\St H w1 [] W) _ ⟨x0,w0,Z,hC,hJ,f.sub hL,s⟩ ?_;rintro m a W ⟨x,w1,rfl,hx,hj,f,s⟩;refine wp_mono (round x w1 hx hj a W f s) λe a' W' q=>?_;cases e <;> first | exact q | skip
 obtain ⟨y,w2,⟨hy,hlt⟩,hj,fy,sy⟩:=q;exact ⟨_,hlt,y,w2,Z,hy,hj,fy,sy⟩
theorem At.aj {X:Type} {J:X->World->Prop} {L':X->Sl} {C:X->Prop} {μ:X->Nat} {x:X} (y:X) (hC:C y) (hm:μ y<μ x) (hJ:J y w0) (hL:Sub L (L' y)) :
 At dfs n L H w0 [] (λa W=>∃ y w2,(C y/\μ y<μ x)/\J y w2/\Fr dfs n (L' y) a/\St H w2 [] W):=λ_ W f s=>⟨y,w0,⟨hC,hm⟩,hJ,f.sub hL,s⟩
theorem seqStops {α:Type} {gf:Nat} {lb:List Value} {enc:α->Value} {S:List α->Prop} {N:Nat} {w:World} {fn:Func} {c:Code} (hf:P.funcs[gf]? = some fn) (hb:fn.body=some c) (hn:fn.ntmps=n) (hl:Nat.ble (lb.length+1) n=true)
 (hA:∀ W,Ext w W->Agr H W)
 (h:∀ l (J Jx:List α->World->Prop) W,(∀ s A B,J s A->Ext A B->J s B)->(∀ s A B,Jx s A->Ext A B->Jx s B) ->
  (∀ pre x W1,J pre W1->pre.length<N->YieldAt Fence.wide 7 P l #[enc x] W1 λe W'=>(e=.returned (.bool true)/\J (pre++[x]) W'/\KpH H W1 W')\/(e=.returned (.bool false)/\Jx (pre++[x]) W')) ->
  J [] W->At [] n (IB 0 (.func (.yield l) #[] #[]::lb)) H W [] (c.wp P (bodyPost P fn λe W'=>(∃ v,e=.returned v)/\((∃ xs,S xs/\J xs W')\/(∃ pre,True/\Jx pre W'))))) :
 SeqStopsK Fence.wide 8 P gf lb.toArray (λx=>#[enc x]) (KpH H) S (λ_=>True) N w:=by
 intro l J Jx W hW hJ hJx hY h0;refine callsIn_wide.2 ?_;have:(#[Value.func (.yield l) #[] #[]]++lb.toArray:Array Value)=(Value.func (.yield l) #[] #[]::lb).toArray:=by simp
 rw [this];exact enter hf hb hn hl (hA W (by unfold Ext;exact hW)) (h l J Jx W (λs A B h e=>Sx.AbidesFrom.ext hJ h e) (λs A B h e=>Sx.AbidesFrom.ext hJx h e) hY h0)
end
variable {W:World}
theorem Res.ok.base {b:Nat} {x:Res} (h:x.ok c W) (hb:b<=c):x.ok b W:=by
 cases x with
 | box d l t=>exact ⟨bD hb h.1,h.2⟩
 | obj d o=>exact ⟨bD hb h.1,h.2⟩
 | big d=>exact h
 | ps et v xs =>
  obtain ⟨rfl,h0⟩ | ⟨g,cap,cur,rfl,hg,hc,hr⟩:=h
  ·exact .inl ⟨Z,h0⟩
  ·exact .inr ⟨g,cap,cur,Z,bD hb hg,hc,hr⟩
 | row et size v n xs =>
  obtain ⟨hl,⟨rfl,h0⟩ | ⟨g,cap,cur,rfl,hg,hc,hr⟩⟩:=h
  ·exact ⟨hl,.inl ⟨Z,h0⟩⟩
  ·exact ⟨hl,.inr ⟨g,cap,cur,Z,bD hb hg,hc,hr⟩⟩
variable {w0 W':World}
theorem St.join (s:St H w0 bs W) (u:HUp W H H') (k:St H' W bs' W'):St H' w0 (bs'++bs) W':=by
 refine ⟨s.ext.trans k.ext,k.agr,λx hx=>?_,iL.2 ⟨k.apart,s.apart,λx hx y hy b e e'=>?_⟩,u.up.lo ▸ s.lo⟩
 ·rcases cC.1 hx with hx | hx
  ·exact ⟨(k.own x hx).1.base s.ext.size,(k.own x hx).2⟩
  ·exact ⟨(s.own x hx).1.ext k.ext,λb e=>u.new b ((s.own x hx).2 b e) ((s.own x hx).1.lt e).2⟩
 ·have h1:=((k.own x hx).1.lt e).1;have h2:=((s.own y hy).1.lt e').2;omega
section
variable {dfs:List Deferred} {P:Program} {L:Sl} {H:Hp} {w0:World} {bs:List Res} {ops:Array Oper}
variable {ty:TypeId} {pos:String} {aft:Array Edge} {t:Tmp} {x:Operand}
variable {N hn i k:Nat} {pa:List (Nat × Oper × Value)} {E:Sl->Hp->List Res->Prop} {r:List (Nat × Nat × Oper)}
end
def Qn (Q:Exit->Act->World->Prop):Exit->Act->World->Prop
 | .normal=>Q .normal
 | _=>λ_ _=>False
def bL2 (l:List Oper):Bool:=l.all λo=>match o.op with | .defer _=>false | _=>true
section
variable {dfs:List Deferred} {P:Program} {n m:Nat} {L:Sl} {H:Hp} {w0:World} {bs:List Res} {Q:Exit->Act->World->Prop} {ops:Array Oper} {F:Fence}
theorem SH [hF:FW F] {o:Oper} {a:Act} {w:World} {K:Act->World->Prop} (hd:∀ c,o.op≠.defer c) (h:o.wp P a w K (Qn Q)):o.wpIn F m P a w K Q:=by
 unfold Oper.wpIn;refine ⟨λf _=>hF.fn f,?_⟩;rw [Oper.semAt_plain F _ _ hd];unfold Oper.wp at h;generalize (execOp a.eval o).run P w=r at *;cases r with
 | ok z w' =>
  cases z <;> simp only [Oper.upon] at h <;> simp only [Oper.uponIn]
  case value u=>exact h
  case skip=>exact h
  case defer d=>exact h
  case enter f args =>
   refine ⟨λe=>(by rw [hF.depth] at e;cases e),hF.calls (h.mono ?_)⟩;intro e w'' q;cases e with
   | returned v=>exact q
   | panicked c=>exact q.elim
   | outgrown=>obtain ⟨_,_,q⟩:=q;exact q.elim
  case row rw args=>exact ⟨λe=>(by rw [hF.depth] at e;cases e),hF.rows h⟩
 | halt z w' =>
  cases z <;> simp only [Oper.upon] at h <;> exact h.elim
theorem aB8 [hF:FW F] (hd:∀ (i:Nat) o,ops[i]? = some o->∀ c,o.op≠.defer c):∀ (fuel:Nat) (listed:Array Bool) (a:Act) (w:World),wpAny P .any ops (Qn Q) fuel listed a w->wpAnyIn F m P .any ops Q fuel listed a w
 | 0,_,_,_,h=>h
 | fuel+1,listed,a,w,h=>by
  refine ⟨h.1,λi hi=>?_⟩;have h1:=h.2 i hi;unfold wpOp at h1;unfold wpOpIn;cases ho:ops[i]? with
  | none =>
   rw [ho] at h1;exact aB8 hd fuel _ _ _ h1
  | some o =>
   rw [ho] at h1;dsimp only at h1|-;cases hw:Region.wanted o (yielded ops a.tmps) with
   | true =>
    rw [hw] at h1;simp only [bS] at h1|-;rcases h1 with h1 | ⟨_,_,_,h1⟩
    ·exact Oper.wpIn_mono (λa w k=>aB8 hd fuel _ a w k) (SH (hd i o ho) h1)
    ·exact h1.elim
   | false =>
    rw [hw] at h1;simp only [aI,bL] at h1|-;exact ⟨λf _=>hF.fn f,aB8 hd fuel _ _ _ h1⟩
theorem aR0 {l:List Oper} (h:bL2 l=true):∀ (i:Nat) o,l.toArray[i]? = some o->∀ c,o.op≠.defer c:=by
 intro i o ho c e;have hm:o∈l:=Al_List_mem_of_getElem? (by simpa using ho);have:=aW.1 h o hm;rw [e] at this;cases this
theorem At.flI [FW F] {id:Nat} {l:List Oper} {trip:List (Nat × Nat × Oper)} (nn:Nat) (ord:List (Nat × Nat)) (hm:P.follows .mixedOrders=true) (hB:NY l.toArray nn ord=true) (hd:bL2 l=true) (ht:ord.map (λx=>(x.1,x.2,l[x.1]!))=trip)
 (h:eC dfs P l.toArray nn w0 n (λL H bs=>At dfs n L H w0 bs (wpList P l.toArray (Qn Q) (l.drop nn))) trip [] L H bs):At dfs n L H w0 bs ((Code.region id l.toArray true).wpIn F m P Q) :=
 λa W f s=>wpIn_region_any hm (aB8 (aR0 hd) _ _ _ _ (aA2 nn ord hB ht h a W f s))
theorem At.nlQ (h:At dfs n L H w0 bs (Q .normal)):At dfs n L H w0 bs (wpList P ops (Qn Q) []):=h
theorem At.bkI {id:Nat} {c:Code} (h:At dfs n L H w0 bs (c.wpIn F m P (Exit.inBlock id Q))):At dfs n L H w0 bs ((Code.block id c).wpIn F m P Q):=λa W f s=>wpIn_block (h a W f s)
end
structure Apx (H:Hp) (p:Nat) (fx:List Res) (TX:TypeId) (cs:List Value) (b:Nat) (W:World):Prop where
 blk:W.heap[b]? = some (.cells cs.toArray TX (0,0))
 new:H b=none
 head:∃ u l t m,W.heap[p]? = some (.cells (u::l).toArray t m)/\u.ownBlock≠some b
 ne:b≠p
 fix:∀ x∈fx,x.blk≠some b
theorem Apx.grow {p b:Nat} {fx:List Res} {TX:TypeId} {cs:List Value} {A B:World} {row:Option Nat} (h:Apx H p fx TX cs b A) (g:A.grownBy B row) (hr:∀ r,row=some r->∃ o:Obj,A.heap[r]? = some o/\o.isCells=false):Apx H p fx TX cs b B:=by
 have key:∀ {k:Nat} {arr:Array Value} {t:TypeId} {m:Nat × Nat},A.heap[k]? = some (Obj.cells arr t m)->B.heap[k]? = some (Obj.cells arr t m):=λ{k arr t m} hk=>by
  rw [<-hk];refine g.block k (oT hk) λe=>?_;obtain ⟨o,h1,h2⟩:=hr k e.symm;rw [hk] at h1;cases h1;cases h2
 obtain ⟨u,l,t,m,h1,h2⟩:=h.head;exact ⟨key h.blk,h.new,⟨u,l,t,m,key h1,h2⟩,h.ne,h.fix⟩
section
variable {H:Hp} {w0:World}
def rsB (e:TypeId) (size p:Nat) (T:TypeId) (fx:List Res) (v:Value) (k:Nat) (xs l:List Value):List Res:=.row e size v k xs::.box p (v::l) T::fx
theorem Apx.of {p b size k:Nat} {e T TX:TypeId} {fx tl:List Res} {v:Value} {xs l cs:List Value} {W:World} (s:St H w0 (.box b cs TX::(rsB e size p T fx v k xs l++tl)) W):Apx H p fx TX cs b W:=by
 have hb:=s.own _ (aY ..);have ha:=(jD.1 s.apart).1;refine ⟨hb.1.2,hb.2 b rfl,⟨v,l,T,_,(s.own (.box p (v::l) T) (by simp [rsB])).1.2,λe=>ha (.row _ _ v _ _) (by simp [rsB];exact .inl ⟨Z,Z,Z,Z⟩) b rfl e⟩,λe=>ha (.box p (v::l) T) (by simp [rsB]) b rfl (by rw [e];rfl),λx hx e=>ha x (by simp [rsB,hx]) b rfl e⟩
theorem Apx.st {p b size k:Nat} {e T TX:TypeId} {fx:List Res} {v:Value} {xs l cs:List Value} {W:World} (h:Apx H p fx TX cs b W) (s:St H w0 (rsB e size p T fx v k xs l) W):St (KJ H b (.cells cs.toArray TX (0,0))) w0 (rsB e size p T fx v k xs l) W:=by
 refine ⟨s.ext,⟨λc o hc=>?_,s.agr.lo⟩,λx hx=>⟨(s.own x hx).1,λc hc=>?_⟩,s.apart,s.lo⟩
 ·by_cases e:c=b
  ·subst e;rw [BV] at hc;rw [<-hc];exact h.blk
  ·rw [rZ e] at hc;exact s.agr c o hc
 ·rw [rZ,(s.own x hx).2 c hc];intro e;subst e;unfold rsB at hx;rcases bM.1 hx with rfl | hx
  ·obtain ⟨u,l2,t,m,h1,h2⟩:=h.head;have h3:=(s.own (.box p (v::l) T) (by simp [rsB])).1.2;rw [h1] at h3;have h4:(u::l2).toArray=(v::l).toArray:=by injection h3 with h3;injection h3
   have h5:=congrArg Array.toList h4;simp only [fT] at h5;rw [h5.1] at h2;exact h2 hc
  ·rcases bM.1 hx with rfl | hx
   ·exact h.ne (bK hc).symm
   ·exact h.fix x hx hc
theorem bM6 {b:Nat} {o:Obj} (h:H b=none):Up H (KJ H b o):=by
 refine ⟨λc x hc=>?_,Z⟩;rw [rZ]
 ·exact hc
 ·intro e;subst e;rw [h] at hc;cases hc
theorem At.rfB {α Z:Type} {bs:List Res} {dfs:List Deferred} {P:Program} {n:Nat} {L:Sl} {Q:Exit->Act->World->Prop} {g:Operand} {pt:Tmp} {assign body:Code} {gf:Nat} {lb:Array Value} {enc:α->Value} {S:List α->Prop} {N:Nat} {e T TX:TypeId} {size p:Nat} {fx:List Res}
 (C:List α->Z->Prop) (v:Z->Value) (k:Z->Nat) (xs l:Z->List Value) (z0:Z) (L2:α->Nat->Sl) (cx:α->List Value)
 (hg:ev L g=some (.func (.func gf) #[] lb)) (eg:∀ args w,(callFunc gf args).run P w=.ok (.enter gf args) w) (ht:Nat.blt pt n=true)
 (hseq:∀ w,Agr H w->SeqStopsK Fence.wide 8 P gf lb (λx=>#[enc x]) (KpH H) S (λ_=>True) N w)
 (h0:C [] z0) (hb:bs=rsB e size p T fx (v z0) (k z0) (xs z0) (l z0)) (hn:TT fx=true)
 (hass:∀ l x bs' K,(∀ b,At [] n (L2 x b) H w0 (.box b (cx x) TX::bs') K)->At [] n ((pt,enc x)::L) H w0 bs' (assign.wpIn (Fence.wide.inRound l) 7 P (Exit.then K (λ_ _ _=>False))))
 (hbody:∀ l' pre x z tl b H2,C pre z->pre.length<N->Up H H2->kZ H2 b 0 (cx x)->At [] n (L2 x b) H2 w0 (rsB e size p T fx (v z) (k z) (xs z) (l z)++tl) (body.wpIn (Fence.wide.inRound l') 7 P (Sx.rE C (λz=>rsB e size p T fx (v z) (k z) (xs z) (l z)) H w0 tl (pre++[x]))))
 (hdone:∀ D ys z,S ys->C ys z->At ({ target:=.collected D,args:=#[] }::dfs) n L H w0 (.obj D (.deferred (some []))::rsB e size p T fx (v z) (k z) (xs z) (l z)) (Q .normal)) :
 At dfs n L H w0 bs ((Code.rangeFunc g #[pt] assign body).wp P Q):=by
 intro a W f s;subst hb;have hnz:∀ z,TT (rsB e size p T fx (v z) (k z) (xs z) (l z))=true:=λz=>hn;have hB:w0.heap.size<=W.heap.size:=s.ext.size;have hH:∀ r,W.heap.size<=r->H r=none:=λr hr=>s.agr.lt hr
 refine (wpIn_wide (n:=9)).1 (wpIn_rangeFunc_ownH (n:=9) (ps:=#[pt]) (α:=α) (N:=N) (S:=S) (Sp:=λ_=>True) (encs:=λx=>#[enc x]) (Kp:=KpH H) (w0:=W) rfl (by decide) (f.ev hg) trivial eg (hseq W s.agr) (λh k q=>k (h q)) ?_ (Below.refl _ _) (λ_=>rfl)
  (λpre W=>∃ z,C pre z/\St H w0 (rsB e size p T fx (v z) (k z) (xs z) (l z)) W) (λ_ _ _=>False) (bU4 hB hH λ_ z _=>hnz z) (λ_ _ _ _ _ h _ _=>h.elim) ⟨z0,h0,s⟩ (λx a' W=>∃ b,Fr [] n (L2 x b) a'/\Apx H p fx TX (cx x) b W)
  (λx a' _ A B row h hg hr=>by obtain ⟨b,h1,h2⟩:=h;exact ⟨b,h1,h2.grow hg λr e=>(hr r e).2⟩) ?_ ?_ ?_ (λ_ _ _ _ _ _ h=>h.elim))
 ·intro W1 l o o' hl ho _ _ q;refine ⟨λb ob e=>?_,by have:=q.lo;simpa [World.putObj] using this⟩;have hne:b≠l:=λh=>by subst h;rw [hH b hl] at e;cases e
  exact (World.putObj_heap_other hne).trans (q b ob e)
 ·rintro l' pre x W1 K ⟨z,hz,s1⟩ hK
  have f1:Fr [] n ((pt,enc x)::L) { tmps:=(#[pt].zip #[enc x]).foldl (λt (p,v)=>t.setIfInBounds p v) a.tmps,defers:=[] }:=by
   have f2:Fr [] n L { a with defers:=[] }:=⟨f.size,rfl,f.slot⟩;have e:(#[pt].zip #[enc x]).foldl (λt (x:Tmp × Value)=>match x with | (p,v)=>t.setIfInBounds p v) a.tmps=a.tmps.setIfInBounds pt (enc x):=by simp
   rw [e];exact f2.put ht (enc x)
  refine hass l' x _ K ?_ _ W1 f1 (s1.tailOf (hnz z) hB hH);intro b a' W2 f' s2;have s3:=s2.drop;exact hK a' W2 s3.keepsFrom (λ_=>s3.agr) ⟨z,hz,s3.front⟩ ⟨b,f',Apx.of s2⟩
 ·rintro l' pre x a' W1 hl _ ⟨z,hz,s1⟩ ⟨b,f',hx⟩ hlen;have s2:=hx.st s1;have hH2:∀ r,W1.heap.size<=r->KJ H b (Obj.cells (cx x).toArray TX (0,0)) r=none:=λr hr=>s2.agr.lt hr;have ht:=s1.tailOf (B:=W.heap.size) (hnz z) hB hH
  have s4:St (KJ H b (.cells (cx x).toArray TX (0,0))) w0 (rsB e size p T fx (v z) (k z) (xs z) (l z)++Sx.tailOf W.heap.size W1) W1:=by
   refine ⟨ht.ext,s2.agr,λy hy=>?_,ht.apart,ht.lo⟩;rcases cC.1 hy with h | h
   ·exact s2.own y h
   ·refine ⟨(ht.own y hy).1,λc hc=>?_⟩;rw [rZ,(ht.own y hy).2 c hc];rintro rfl;rcases DU h with rfl | ⟨d,o,rfl,ho,hc2,_⟩
    ·cases hc
    ·obtain rfl:d=c:=bK hc;rw [hx.blk] at ho;cases ho;cases hc2
  refine wpIn_mono (hbody l' pre x z _ b _ hz hlen (bM6 hx.new) ⟨_,_,_,aL rfl,λj u e=>by simpa using e⟩ a' W1 f' s4) ?_;intro e a2 W2 h;cases e with
  | normal =>
   obtain ⟨z',hz',s2⟩:=h;exact ⟨s2.keepsFrom,λ_=>s2.agr,z',hz',s2.front⟩
  | _=>exact h.elim
 ·rintro D ys W1 hD hS ⟨z,hz,s1⟩ hd;refine hdone D ys z hS hz _ W1 ⟨f.size,by show _::_=_;rw [f.defers],f.slot⟩ ⟨s1.ext,s1.agr,?_,.cons ?_ s1.apart,s1.lo⟩
  ·intro x hx;rcases bM.1 hx with rfl | hx
   ·exact ⟨⟨bD hB hD,hd⟩,λb e=>by obtain rfl:D=b:=bK e;exact hH D hD⟩
   ·exact s1.own x hx
  ·intro y hy b e e';obtain rfl:D=b:=bK e;exact QS s1 (hnz z) hd rfl y hy e'
end
theorem St.put1 {x y:Res} (h:St H w0 bs W) (u:Upd bs x y bs') (hy:y.ok w0.heap.size W) (hb:∀ b,y.blk=some b->x.blk=some b):St H w0 bs' W :=
 h.upd u h.ext (aX _) (λ_ _ _=>rfl) hy (λb e=>.inl (hb b e))
/-! ### A drawn region without an operation that waits for all others: each order of the heavy ones -/
structure SD (ops:Array Oper) (n:Nat):Prop where
 all:n=ops.size
 sel:∀ (j:Nat) (o:Oper) (cs:Array SelectCase) (b:Bool),ops[j]? = some o->o.op≠.select cs b
 back:∀ i o,ops[i]? = some o->∀ e∈o.after,Region.binds .any e=true->e.on<i
 apart:∀ j k,j<n->k<n->j≠k->∀ d,hU ops j=some d->hU ops k≠some d
 look:∀ i o,i<n->ops[i]? = some o->∀ t∈o.looksAt ops,∀ j,j<n->hU ops j=some t->Region.waitsFor .any ops i j=true
def bE8 (ops:Array Oper) (n:Nat):Bool :=
 Region.noSelect ops && decide (n=ops.size) &&
 (List.range ops.size).all (λi=>((ops[i]?).map λo=>o.after.all λe=>!Region.binds .any e || decide (e.on<i)).getD true) &&
 (List.range n).all (λi=>(List.range n).all λj=>decide (i=j) || (hU ops i).isNone || hU ops i != hU ops j) &&
 (List.range n).all (λi=>((ops[i]?).map λo=>(o.looksAt ops).all λt=>(List.range n).all λj=>hU ops j != some t || Region.waitsFor .any ops i j).getD true)
theorem SD.of {ops:Array Oper} (h:bE8 ops n=true):SD ops n:=by
 simp only [bE8,aE,aD] at h;obtain ⟨⟨⟨⟨h1,h2⟩,h5⟩,h6⟩,h7⟩:=h;refine ⟨h2,Region.noSelect_spec h1,?_,?_,?_⟩
 ·intro i o ho e he hb;have hi:i<ops.size:=(Array.getElem?_eq_some_iff.1 ho).1;have:=aW.1 h5 i (bY.2 hi);simp only [ho,lZ,nL,lN] at this;have:=this e he;simpa [hb] using this
 ·intro j k hj hk hne d hd;have:=aW.1 (aW.1 h6 j (bY.2 hj)) k (bY.2 hk);simp only [hd,hne,vF,aK,Option.isNone_some,bne_iff_ne] at this;exact λe=>this e.symm
 ·intro i o hi ho t ht j hj hd;have:=aW.1 h7 i (bY.2 hi);simp only [ho,lZ,nL] at this;have:=aW.1 (aW.1 this t ht) j (bY.2 hj);simpa [hd] using this
section
variable {dfs:List Deferred} {P:Program} {ops:Array Oper} {w0:World} {n N:Nat}
variable {l:List Oper} {a0:Act} {E:Sl->Hp->List Res->Prop} {Q:Exit->Act->World->Prop} {listed:Array Bool} {a:Act} {W:World} {val:Nat->Value} {dec:Nat->Bool} {D A:List Nat} {L:Sl} {H:Hp} {bs:List Res} {pa:List (Nat × Oper × Value)}
theorem zS (F:SD ops n) {a0:Act} {v1 v2:Nat->Value} {S1 S2:Nat->Bool} {i:Nat} {o:Oper} (hi:i<n) (ho:ops[i]? = some o)
 (h:∀ j,j<n->Region.waitsFor .any ops i j=true->S1 j=true/\S2 j=true/\v1 j=v2 j) (t:Tmp) (ht:t∈o.looksAt ops) :
 (frm ops v1 S1 n a0).eval (.tmp t)=(frm ops v2 S2 n a0).eval (.tmp t):=by
 by_cases hw:∃ j,j<n/\hU ops j=some t
 ·obtain ⟨j,hj,hd⟩:=hw;obtain ⟨h1,h2,h3⟩:=h j hj (F.look i o hi ho t ht j hj hd);rw [DY _ S1 a0 t j h1 hd n hj (λk hk hne e=>F.apart k j hk hj hne t e hd),DY _ S2 a0 t j h2 hd n hj (λk hk hne e=>F.apart k j hk hj hne t e hd),h3]
 ·rw [xN _ S1 a0 t n (λk hk _ hd=>hw ⟨k,hk,hd⟩),xN _ S2 a0 t n (λk hk _ hd=>hw ⟨k,hk,hd⟩)]
theorem UQ (F:SD ops n) {i:Nat} {o:Oper} {v:Value} (hi:i<n) (ho:ops[i]? = some o) (hd:dec i=false) :
 frm ops (upd val i v) (upd dec i true) n a0=(frm ops val dec n a0).put o.dst v:=by
 have e1:hU ops i=o.dst:=by simp [hU,ho]
 rw [oS (upd val i v) dec (upd dec i true) a0 i (gO _ _ _) hd (λk hk=>dS _ _ hk) n hi F.apart,gO,e1]
 congr 1
 refine iK _ _ _ _ a0 n λk _=>⟨Z,λhk=>dS _ _ λe=>?_⟩;subst e;rw [hd] at hk;cases hk
theorem GT.decideE (F:SD ops n) {i:Nat} {o:Oper} (I:GT dfs P ops l w0 n N a0 E listed a W val dec D L H bs pa) (hi:i<n) (ho:ops[i]? = some o) (hiD:D.contains i=false) (hwt:((List.range n).all λj=>!Region.waitsFor .any ops i j || D.contains j)=true)
 {v:Value} (hy:∀ a W,Fr dfs N L a->St H w0 bs W->Yq P ops o v a W) (hN:∀ t,o.dst=some t->t<N) :
 GT dfs P ops l w0 n N a0 E listed a W (upd val i v) (upd dec i true) (i::D) (putL o.dst v L) H bs ((i,o,v)::pa):=by
 have hdi:dec i=false:=(I.set i).trans hiD;have hdeps:∀ j,j<n->Region.waitsFor .any ops i j=true->dec j=true:=λj hj hw=>(I.set j).trans (EN hwt hj hw)
 have hii:∀ j,j<n->Region.waitsFor .any ops i j=true->j≠i:=λj hj hw e=>by
  have:=hdeps j hj hw;rw [e,hdi] at this;cases this
 have hli:st listed i=false:=by
  cases h:st listed i with
  | false=>rfl
  | true=>have:=I.sub i hi h;rw [hdi] at this;cases this
 have hput:=UQ (a0:=a0) (val:=val) (v:=v) F hi ho hdi;refine ⟨I.head,?_,?_,?_,I.world,?_,?_,JA I.set,?_⟩
 ·rw [I.frame];refine iK _ _ _ _ a0 n λk _=>⟨Z,λhk=>(dS _ _ λe=>?_).symm⟩;subst e;rw [hli] at hk;cases hk
 ·rw [hput];exact I.full.putL v hN
 ·intro j hj hs
  by_cases e:j=i
  ·subst e;exact gO _ _ _
  ·rw [dS _ _ e];exact I.sub j hj hs
 ·intro j oj hj hoj hd hs W hW
  by_cases e:j=i
  ·subst e;obtain rfl:oj=o:=bK (hoj.symm.trans ho);rw [gO];refine Yq.same (λcs b=>F.sel j oj cs b ho) (λt ht=>?_) (hy _ W I.full hW);refine zS F hj ho (λk hk hw=>?_) t ht;have hkd:=hdeps k hk hw;have hki:=hii k hk hw;exact ⟨by rw [dS _ _ hki];exact hkd,hkd,dS _ _ hki⟩
  ·rw [dS _ _ e] at hd|-;refine Yq.same (λcs b=>F.sel j oj cs b hoj) (λt ht=>?_) (I.light j oj hj hoj hd hs W hW);refine zS F hj hoj (λk hk hw=>?_) t ht;have hkd:=I.deps j k hj hk hd hw;have hki:k≠i:=λe=>by subst e;rw [hdi] at hkd;cases hkd
   exact ⟨by rw [dS _ _ hki];exact hkd,hkd,dS _ _ hki⟩
 ·intro j oj hj hoj hd hs
  by_cases e:j=i
  ·subst e;obtain rfl:oj=o:=bK (hoj.symm.trans ho);rw [gO];exact .head _
  ·rw [dS _ _ e] at hd|-;exact .tail _ (I.past j oj hj hoj hd hs)
 ·intro j k hj hk hd hw
  by_cases e:j=i
  ·subst e;rw [dS _ _ (hii k hk hw)];exact hdeps k hk hw
  ·rw [dS _ _ e] at hd;have:=I.deps j k hj hk hd hw
   by_cases e2:k=i
   ·subst e2;exact gO _ _ _
   ·rw [dS _ _ e2];exact this
theorem GT.stepE (F:SD ops n) {i:Nat} {o:Oper} {W':World} (I:GT dfs P ops l w0 n N a0 E listed a W val dec D L H bs pa) (hi:i<n) (ho:ops[i]? = some o) (hr:i∈Region.ready .any ops listed) (hd:dec i=true) (hx:Ext W W') :
 GT dfs P ops l w0 n N a0 E (listed.setIfInBounds i true) (a.put o.dst (val i)) W' val dec D L H bs pa:=by
 have hun:st listed i=false:=(mem_ready.1 hr).1;have e1:hU ops i=o.dst:=by simp [hU,ho]
 refine ⟨I.head.set hr hi,?_,I.full,?_,I.world.more hx,?_,?_,I.set,I.deps⟩
 ·rw [I.frame,oS val (st listed) (st (listed.setIfInBounds i true)) a0 i eL hun (λk hk=>gM hk) n hi F.apart,e1]
 ·intro j hj hs
  by_cases e:j=i
  ·subst e;exact hd
  ·rw [gM e] at hs;exact I.sub j hj hs
 ·intro j oj hj hoj hdj hs;have e:j≠i:=λe=>by subst e;rw [eL] at hs;cases hs
  rw [gM e] at hs;exact I.light j oj hj hoj hdj hs
 ·intro j oj hj hoj hdj hs;have e:j≠i:=λe=>by subst e;rw [eL] at hs;cases hs
  rw [gM e] at hs;exact I.past j oj hj hoj hdj hs
theorem GT.heavyE (F:SD ops n) {i k:Nat} {o:Oper} {v:Value} {W':World} {H':Hp} {bs':List Res} (I:GT dfs P ops l w0 n N a0 E listed a W val dec D L H bs pa) (hi:i<n) (ho:ops[i]? = some o) (hiD:D.contains i=false) (hwt:((List.range n).all λj=>!Region.waitsFor .any ops i j || D.contains j)=true) (hk1:(!(k == 1) || D.all λj=>lK ops n i j)=true) (hN:∀ t,o.dst=some t->t<N) (hr:i∈Region.ready .any ops listed)
 (hs:St H' w0 bs' W') (hws:k=1\/(∀ W,St H' w0 bs' W->St H w0 bs W)\/iG dfs P ops n w0 N L H' bs' i pa) :
 GT dfs P ops l w0 n N a0 E (listed.setIfInBounds i true) (a.put o.dst v) W' (upd val i v) (upd dec i true) (i::D) (putL o.dst v L) H' bs' pa:=by
 have hdi:dec i=false:=(I.set i).trans hiD;have hdeps:∀ j,j<n->Region.waitsFor .any ops i j=true->dec j=true:=λj hj hw=>(I.set j).trans (EN hwt hj hw)
 have hii:∀ j,j<n->Region.waitsFor .any ops i j=true->j≠i:=λj hj hw e=>by
  have:=hdeps j hj hw;rw [e,hdi] at this;cases this
 have hun:st listed i=false:=(mem_ready.1 hr).1;have e1:hU ops i=o.dst:=by simp [hU,ho]
 have hput:=UQ (a0:=a0) (val:=val) (v:=v) F hi ho hdi;refine ⟨I.head.set hr hi,?_,?_,?_,hs,?_,?_,JA I.set,?_⟩
 ·rw [I.frame,oS (upd val i v) (st listed) (st (listed.setIfInBounds i true)) a0 i eL hun (λk hk=>gM hk) n hi F.apart,e1,gO]
  congr 1
  refine iK _ _ _ _ a0 n λk _=>⟨Z,λhk=>(dS _ _ λe=>?_).symm⟩;subst e;rw [hun] at hk;cases hk
 ·rw [hput];exact I.full.putL v hN
 ·intro j hj hs
  by_cases e:j=i
  ·subst e;exact gO _ _ _
  ·rw [dS _ _ e];rw [gM e] at hs;exact I.sub j hj hs
 ·intro j oj hj hoj hd hs W hW;have e:j≠i:=λe=>by subst e;rw [eL] at hs;cases hs
  rw [gM e] at hs;rw [dS _ _ e] at hd|-
  have hdone:lK ops n i j=true->False:=λh1=>by
   obtain ⟨_,oi,hoi,hall⟩:=mem_ready.1 hr
   have h2:=oL I.head n i j h1 (λok hok x hx hb=>by
    obtain rfl:ok=oi:=bK (hok.symm.trans hoi);exact hall x hx hb)
   rw [getD_both hs] at h2;cases h2
  have hy:Yq P ops oj (val j) (frm ops val dec n a0) W:=by
   rcases hws with hk | hw | hw
   ·subst hk;have hjD:j∈D:=by have:=(I.set j).symm.trans hd;simpa using this
    simp only [beq_self_eq_true,uA,aK] at hk1;exact (hdone (aW.1 hk1 j hjD)).elim
   ·exact I.light j oj hj hoj hd hs W (hw W hW)
   ·rcases hw.at (I.past j oj hj hoj hd hs) with h1 | h1
    ·exact (hdone h1).elim
    ·exact h1 _ W I.full hW
  refine Yq.same (λcs b=>F.sel j oj cs b hoj) (λt ht=>?_) hy;refine zS F hj hoj (λk hk hw=>?_) t ht;have hkd:=I.deps j k hj hk hd hw;have hki:k≠i:=λe=>by subst e;rw [hdi] at hkd;cases hkd
  exact ⟨by rw [dS _ _ hki];exact hkd,hkd,dS _ _ hki⟩
 ·intro j oj hj hoj hd hs;have e:j≠i:=λe=>by subst e;rw [eL] at hs;cases hs
  rw [gM e] at hs;rw [dS _ _ e] at hd|-;exact I.past j oj hj hoj hd hs
 ·intro j k hj hk hd hw
  by_cases e:j=i
  ·subst e;rw [dS _ _ (hii k hk hw)];exact hdeps k hk hw
  ·rw [dS _ _ e] at hd;have:=I.deps j k hj hk hd hw
   by_cases e2:k=i
   ·subst e2;exact gO _ _ _
   ·rw [dS _ _ e2];exact this
theorem UY (hl:ops=l.toArray) (F:SD ops n) (hend:∀ L H bs,E L H bs->At dfs N L H w0 bs (Q .normal)) :
 ∀ (m:Nat) (p:Pi0) (listed:Array Bool) (a:Act) (W:World) (val:Nat->Value) (dec:Nat->Bool) (D:List Nat) (L:Sl) (H:Hp) (bs:List Res) (pa:List (Nat × Oper × Value)),cnt (st listed) n=m->okT ops n D [] p=true ->
  fM dfs P ops n w0 N E (vK l p) pa L H bs->GT dfs P ops l w0 n N a0 E listed a W val dec D L H bs pa->wpAny P .any ops Q (m+(ops.size - n)) listed a W:=by
 have hop:∀ i,i<n->ops[i]? = some l[i]! := λi hi=>by
  have h1:i<ops.size:=by have:=F.all;omega
  subst hl;have h2:i<l.length:=by simpa using h1
  simp [h2]
 intro m;induction m with
 | zero =>
  intro p;induction p with
  | done =>
   intro listed a W val dec D L H bs pa hm hok hF I;have hall:=qE _ n hm;have hsz:ops.size - n=0:=by have:=F.all;omega
   rw [hsz]
   have hrd:Region.ready .any ops listed=[]:=List.eq_nil_iff_forall_not_mem.2 λk hk=>by
    obtain ⟨h1,o,h2,_⟩:=mem_ready.1 hk;have h3:k<ops.size:=(Array.getElem?_eq_some_iff.1 h2).1;have h4:=hall k (by have:=F.all;omega);have h5:k<listed.size:=by rw [I.head.size];exact h3
    simp [st,h5] at h1 h4;rw [h4] at h1;cases h1
   have hfr:a=frm ops val dec n a0:=by
    rw [I.frame];exact iK _ _ _ _ a0 n (λk hk=>⟨by rw [hall k hk,I.sub k hk (hall k hk)],λ_=>rfl⟩)
   rw [hfr];exact At.ae (n:=N) (L:=L) hrd (hend L H bs hF) _ W I.full I.world
  | no =>
   intro listed a W val dec D L H bs pa hm hok hF I;simp [okT] at hok
  | light i r ih =>
   intro listed a W val dec D L H bs pa hm hok hF I;have hall:=qE _ n hm;simp only [okT,aE,aD,dR] at hok;have:=I.sub i hok.1.1.1.2 (hall i hok.1.1.1.2);rw [I.set i,hok.1.1.2] at this;cases this
  | alt i k r q ih1 ih2 =>
   intro listed a W val dec D L H bs pa hm hok hF I;have hall:=qE _ n hm;simp only [okT,aE,aD,dR] at hok;have:=I.sub i hok.1.1.1.1.1 (hall i hok.1.1.1.1.1);rw [I.set i,hok.1.1.1.1.2] at this;cases this
 | succ m ih =>
  have one_step:∀ (p:Pi0) (listed:Array Bool) (a:Act) (W:World) (val:Nat->Value) (dec:Nat->Bool) (D:List Nat) (L:Sl) (H:Hp) (bs:List Res) (pa:List (Nat × Oper × Value)),cnt (st listed) n=m+1->okT ops n D [] p=true ->
   fM dfs P ops n w0 N E (vK l p) pa L H bs->GT dfs P ops l w0 n N a0 E listed a W val dec D L H bs pa->(p=.done\/p=.no\/∃ i k r q,p=.alt i k r q)->wpAny P .any ops Q (m+1+(ops.size - n)) listed a W:=by
   intro p listed a W val dec D L H bs pa hm hok hF I hp;obtain ⟨k0,hk0,hun0,hbelow⟩:=CE (st listed) n (by omega);have hk0s:k0<ops.size:=by have:=F.all;omega
   have hready0:k0∈Region.ready .any ops listed:=by
    refine mem_ready.2 ⟨hun0,ops[k0],Array.getElem?_eq_getElem hk0s,λe he hb=>?_⟩;have hlt:=F.back k0 _ (Array.getElem?_eq_getElem hk0s) e he hb;have:=hbelow e.on hlt;have hsz:e.on<listed.size:=by rw [I.head.size];omega
    simpa [st,hsz] using this
   rw [show m+1+(ops.size - n)=(m+(ops.size - n))+1 by omega];refine ⟨λh0=>(by rw [h0] at hready0;cases hready0),λj hj=>?_⟩
   have hjn:j<n:=by
    rcases gS j n with h | h
    ·exact h
    ·exfalso
     obtain ⟨_,oj,hoj,_⟩:=mem_ready.1 hj;have h3:j<ops.size:=(Array.getElem?_eq_some_iff.1 hoj).1;have:=F.all;omega
   obtain ⟨hun,oj,hoj,hall⟩:=mem_ready.1 hj
   have hcnt:cnt (st (listed.setIfInBounds j true)) n=m:=by
    have:=wT (st listed) (st (listed.setIfInBounds j true)) j eL hun (λk hk=>gM hk) n hjn;omega
   have hS:∀ k,k<n->Region.waitsFor .any ops j k=true->st listed k=true:=by
    intro k hk hw;obtain ⟨oi,hoi,e,he,hb,hon⟩:=Region.waitsFor_spec hw;obtain rfl:oi=oj:=bK (hoi.symm.trans hoj);have h1:=hall e he hb;rw [hon] at h1;have hsz:k<listed.size:=by rw [I.head.size];have:=F.all;omega
    simp [hsz] at h1;simp [st,hsz,h1]
   have hev:∀ t∈oj.looksAt ops,a.eval (.tmp t)=(frm ops val dec n a0).eval (.tmp t):=λt ht=>by
    rw [I.frame];exact zS F hjn hoj (λk hk hw=>⟨hS k hk hw,I.sub k hk (hS k hk hw),Z⟩) t ht
   cases hd:dec j with
   | true =>
    have hy:Yq P ops oj (val j) a W:=Yq.same (λcs b=>F.sel j oj cs b hoj) hev (I.light j oj hjn hoj hd hun W I.world);exact hy.wpOp hoj λW' hx=>ih p _ _ _ _ _ _ _ _ _ _ hcnt hok hF (I.stepE F hjn hoj hj hd hx)
   | false =>
    have hjD:D.contains j=false:=(I.set j).symm.trans hd
    have hch:p=.no\/∃ i k r q',p=.alt i k r q':=by
     rcases hp with rfl | rfl | h
     ·exfalso
      simp only [okT,aE] at hok;have:=aW.1 hok.2 j (bY.2 hjn);rw [hjD] at this;cases this
     ·exact .inl Z
     ·exact .inr h
    obtain ⟨k,r,h1,h2,h3,h4,h5⟩:=LN hl hjn hjD (λi hi hin=>by
     cases hre:lK ops n j i with
     | false=>rfl
     | true =>
      have h2:=oL I.head n j i hre (λok hok e he hb=>by
       obtain rfl:ok=oj:=bK (hok.symm.trans hoj);exact hall e he hb)
      have h3:st listed i=false:=by
       cases h:st listed i with
       | false=>rfl
       | true=>have:=I.sub i hin h;rw [I.set i,hi] at this;cases this
      rw [getD_both h3] at h2;cases h2) p [] hch hok (λi hi=>by cases hi) hF
    have hoj2:=hop j hjn;obtain rfl:oj=l[j]! := bK (hoj.symm.trans hoj2);refine KQ hoj (λcs b=>F.sel j _ cs b hoj) hev (λb W' ⟨v,H',bs',hf,_⟩=>hf.defers) I.full.defers ?_ (h5 _ W I.full I.world);rintro v W' ⟨v',H',bs',hf,hs,hw,hp'⟩
    have hvv:putL (l[j]!).dst v' L=putL (l[j]!).dst v L:=by
     cases hdst:(l[j]!).dst with
     | none=>rfl
     | some t =>
      rw [hdst] at hf;have h1:=hf.slot t v' (by unfold putL look;rw [kV,kH]);have h2:t<N:=h4 t hdst;have h3:=(I.full.put (by simpa [nF] using h2) v).slot t v (by unfold look;rw [kV,kH]);rw [h3] at h1;rw [h1]
    rw [hvv] at hp';exact ih r _ _ _ _ _ _ _ _ _ _ hcnt h3 hp' (I.heavyE F hjn hoj hjD h1 h2 h4 hj hs hw)
  intro p;induction p with
  | done=>exact λlisted a W val dec D L H bs pa hm hok hF I=>one_step _ listed a W val dec D L H bs pa hm hok hF I (.inl Z)
  | no=>exact λlisted a W val dec D L H bs pa hm hok hF I=>one_step _ listed a W val dec D L H bs pa hm hok hF I (.inr (.inl Z))
  | alt i k r q _ _=>exact λlisted a W val dec D L H bs pa hm hok hF I=>one_step _ listed a W val dec D L H bs pa hm hok hF I (.inr (.inr ⟨_,_,_,_,Z⟩))
  | light i r ihr =>
   intro listed a W val dec D L H bs pa hm hok hF I;simp only [okT,aE,aD,dR] at hok;obtain ⟨⟨⟨⟨_,hi⟩,hiD⟩,hwt⟩,hok'⟩:=hok;unfold vK fM at hF;obtain ⟨v,hy,hN,hF'⟩:=hF;exact ihr listed a W _ _ _ _ H bs _ hm hok' hF' (I.decideE F hi (hop i hi) hiD hwt hy hN)
theorem bQ9 {id:Nat} {l:List Oper} {p:PlT} {Q:Exit->Act->World->Prop} {L:Sl} {H:Hp} {bs:List Res} (n:Nat) (p0:Pi0) (hm:P.follows .mixedOrders=true) (hB:(bE8 l.toArray n && okT l.toArray n [] [] p0)=true) (ht:vK l p0=p)
 (h:fM dfs P l.toArray n w0 N (λL H bs=>At dfs N L H w0 bs (Q .normal)) p [] L H bs):At dfs N L H w0 bs ((Code.region id l.toArray true).wp P Q):=by
 simp only [aE] at hB;obtain ⟨h1,h2⟩:=hB;have F:=SD.of h1;have hlt:n=l.length:=by simpa using F.all
 subst ht;intro a W f s;refine wp_region_any hm ?_;have hsz:l.toArray.size=l.length:=by simp
 have hc0:∀ m,m<=n->cnt (st (Array.replicate l.toArray.size false)) m=m:=by
  intro m;induction m with
  | zero=>intro _;rfl
  | succ m ih =>
   intro hm;unfold cnt;rw [ih (by omega)]
   have:st (Array.replicate l.toArray.size false) m=false:=by
    have:m<l.length:=by omega
    simp [st,this]
   rw [this];simp
 have hfrm:∀ (val:Nat->Value) (m:Nat),frm l.toArray val (λ_=>false) m a=a:=λval m=>by
  induction m with
  | zero=>rfl
  | succ m ih=>unfold frm;simp [ih]
 have hall:∀ m,m<=n->∀ k,k<m->st (Array.replicate l.toArray.size false) k=false:=λm hm k hk=>by
  have:k<l.length:=by omega
  simp [st,this]
 have hh:HeadInv .any l.toArray n (Array.replicate l.toArray.size false):=by
  refine ⟨by simp,λj oj hj hl=>?_,λt ht ht'=>?_⟩
  ·exfalso
   rcases gS j l.length with h | h
   ·simp [h] at hl
   ·simp [h] at hl
  ·have:t<l.length:=by simpa using ht'
   simp [this]
 have key:=UY (Q:=Q) (a0:=a) (l:=l) rfl F (λL H bs h=>h) n p0 (Array.replicate l.toArray.size false) a _ (λ_=>undef) (λ_=>false) [] L H bs [] (hc0 n (aX _)) h2 h
  ⟨hh,?_,by rw [hfrm];exact f,?_,s.more ((Ext.refl W).drew),λ_ _ _ _ h=>(by cases h),λ_ _ _ _ h=>(by cases h),λ_=>rfl,λ_ _ _ _ h=>(by cases h)⟩
 ·have:n+(l.toArray.size - n)=l.toArray.size:=by rw [hsz];omega
  rw [this] at key;exact key
 ·rw [iK (λ_=>undef) (λ_=>undef) _ (λ_=>false) a n (λk hk=>⟨hall n (aX _) k hk,λ_=>rfl⟩),hfrm]
 ·intro i hi hs;rw [hall n (aX _) i hi] at hs;cases hs
end
section
variable {dfs:List Deferred} {P:Program} {n:Nat} {L:Sl} {H:Hp} {w0:World} {bs:List Res} {Q:Exit->Act->World->Prop} {ops:Array Oper} {rest:List Oper} {K:Act->World->Prop}
variable {d:Option Tmp} {ty:TypeId} {pos:String} {aft:Array Edge} {v:Value} {t:Tmp} {x y:Operand} {T:TypeId}
theorem bN2 {g off k c size:Nat} {e:TypeId} {xs vs:List Value} {bs':List Res} (hp:ev L x=some (.pointer (some ⟨g,off,none⟩))) (hv:ev L y=some (.agg vs.toArray)) (hT:hP P T=some vs.length) (h1:∀ u∈vs,u.oneCell'=true)
 (hm:Upd bs (.row e size (.slice (some ⟨g,0,none⟩) k c) k xs) (.row e size (.slice (some ⟨g,0,none⟩) k c) k (nK xs off vs)) bs') (ho:off+vs.length<=xs.length) (h:At dfs n L H w0 bs' K) :
 At dfs n L H w0 bs (one P ops Q ⟨none,.store T x y,ty,pos,aft,none⟩ K):=by
 intro a W f s;have ho1:W.ownsRow w0.heap.size e size (.slice (some ⟨g,0,none⟩) k c) k xs:=(s.own _ hm.mem).1;rcases ho1.2 with ⟨hr,_⟩ | ⟨g',cap,cur,hr,hbg,hgc,hnc,hcm,hcs,htake⟩
 ·cases hr
 ·injection hr with e1 _ e3
  injection e1 with e1
  injection e1 with e1
  subst e1 e3;obtain ⟨more,hmo⟩:∃ more,more=cur.toList.drop (k * size):=⟨_,Z⟩;have hcur:cur.toList=xs++more:=by rw [hmo,<-htake,eY]
  have hcur2:cur=(xs++more).toArray:=by rw [<-hcur]
  obtain ⟨b1,u1,u2⟩:=hm.mid (.box g (xs++more) e);obtain ⟨b2,u3,u4⟩:=u2.mid (.box g (nK (xs++more) off vs) e);have s1:St H w0 b1 W:=s.put1 u1 ⟨hbg,by rw [hgc,<-hcur2]⟩ (λb e=>e);refine WO hp hv hT rfl h1 u3 (by rw [aF];omega) ?_ a W f s1;intro a W f s2;have ob:=(s2.own _ u4.mem).1;have e4:nK (xs++more) off vs=nK xs off vs++more:=GV vs xs more off ho;have hz:xs.length=k * size:=ho1.1;refine h a W f (s2.put1 u4 ⟨by rw [yJ];exact hz,.inr ⟨g,c,(nK (xs++more) off vs).toArray,Z,ob.1,ob.2,hnc,hcm,?_,?_⟩⟩ (λb e=>e))
  ·rw [List.size_toArray,yJ,<-hcur];simpa using hcs
  ·rw [e4];show List.take (k * size) (nK xs off vs++more)=nK xs off vs;rw [List.take_append_of_le_length (by rw [yJ];omega),jV (by rw [yJ];omega)]
variable {N hn i kk:Nat} {pa:List (Nat × Oper × Value)} {E:Sl->Hp->List Res->Prop} {q:PlT} {bs':List Res}
theorem qX.sR {g off k c size:Nat} {e:TypeId} {xs vs:List Value} (hp:ev L x=some (.pointer (some ⟨g,off,none⟩))) (hv:ev L y=some (.agg vs.toArray)) (hT:hP P T=some vs.length) (h1:∀ u∈vs,u.oneCell'=true)
 (hm:Upd bs (.row e size (.slice (some ⟨g,0,none⟩) k c) k xs) (.row e size (.slice (some ⟨g,0,none⟩) k c) k (nK xs off vs)) bs') (ho:off+vs.length<=xs.length)
 (hr:iG dfs P ops hn w0 N L H bs' i pa) (h:fM dfs P ops hn w0 N E q pa L H bs'):qX dfs P ops hn w0 N E i kk ⟨none,.store T x y,ty,pos,aft,none⟩ q pa L H bs :=
 ⟨λ_ e=>(by cases e),bN2 hp hv hT h1 hm ho (qX.into0 hr h)⟩
theorem qX.st {b off:Nat} {l l':List Value} {t':TypeId} (hm:Upd bs (.box b l t') (.box b l' t') bs') (hp:ev L x=some (.pointer (some ⟨b,off,none⟩))) (hv:ev L y=some v) (hT:hP P T=some 1) (h1:v.oneCell'=true) (ho:off<l.length) (hl:l.set off v=l')
 (hr:iG dfs P ops hn w0 N L H bs' i pa) (h:fM dfs P ops hn w0 N E q pa L H bs'):qX dfs P ops hn w0 N E i kk ⟨none,.store T x y,ty,pos,aft,none⟩ q pa L H bs :=
 ⟨λ_ e=>(by cases e),store hp hv hT h1 hm ho hl (qX.into0 hr h)⟩
theorem qX.apE {e:TypeId} {size bytes m c k:Nat} {p:Option Addr} {r:Value} {xs:List Value} {ds:List D} {bs':List Value->Value->List Res} (hT:zG P T=some (e,size,bytes)) (hx:ev L x=some r)
 (hm:∀ news r',Upd bs (.row e size r k xs) (.row e size r' (k+m) (xs++news)) (bs' news r')) (hy:ev L y=some (.slice p m c)) (hr:Rep H (.seq size ds) [.slice p m c]) (hpos:0<k+m)
 (h63:k+m<=maxLen) (hb:(k+m) * bytes<=140737488355328) (ht:Nat.blt t N=true)
 (hr2:∀ news r',iG dfs P ops hn w0 N L H (bs' news r') i pa) (h:∀ news g c,eD H size ds news->fM dfs P ops hn w0 N E q pa ((t,.slice (some ⟨g,0,none⟩) (k+m) c)::L) H (bs' news (.slice (some ⟨g,0,none⟩) (k+m) c))) :
 qX dfs P ops hn w0 N E i 2 ⟨some t,.call ⟨.builtin .append,#[x,y],#[T,T]⟩,ty,pos,aft,none⟩ q pa L H bs :=
 ⟨rJ ht,RQ hT hx hm hy hr h63 hb ht λnews r' hz=>At.rs (hm news r').new hpos λg c e=>by subst e;exact qX.into (.inr<|.inr<|hr2 _ _) (h news g c hz)⟩
theorem fM.fe {Q:Exit->Act->World->Prop} (h:At dfs N L H w0 bs (Q .normal)):fM dfs P ops hn w0 N (λL H bs=>At dfs N L H w0 bs (Q .normal)) .done pa L H bs:=h
theorem At.fx {id:Nat} {l:List Oper} {p:PlT} (nn:Nat) (p0:Pi0) (hm:P.follows .mixedOrders=true) (hB:(bE8 l.toArray nn && okT l.toArray nn [] [] p0)=true) (ht:vK l p0=p)
 (h:fM dfs P l.toArray nn w0 n (λL H bs=>At dfs n L H w0 bs (Q .normal)) p [] L H bs):At dfs n L H w0 bs ((Code.region id l.toArray true).wp P Q):=bQ9 nn p0 hm hB ht h
end
section
variable {P:Program} {L:Sl} {H:Hp} {w0:World} {bs:List Res} {d:Option Tmp} {ty:TypeId} {pos:String} {aft:Array Edge} {g:Option (Nat × Bool)} {x:Operand} {T:TypeId}
theorem Yl.neg {k:IntKind} {i c:Int} (hx:ev L x=some (.int k i)) (hw:k.wrap (0 - i)=c):Yl P L H w0 bs ⟨d,.unOp .neg T x,ty,pos,aft,g⟩ (.int k c):=.of_run λa W f _=>by
 subst hw;unfold execOp;simp [f x _ hx,Op.unary,Op.intArith]
end
section
variable {dfs:List Deferred} {n:Nat} {L:Sl} {H:Hp} {w0:World} {bs:List Res}
end
variable {t:TypeId}
theorem HUp.put {H1:Hp} {b:Nat} {arr:Array Value} (u:HUp w0 H H1) (hb:H b=none) (hw:w0.heap.size<=b):HUp w0 H (KJ H1 b (.cells arr t (0,0))):=by
 refine ⟨⟨λc o e=>?_,u.up.lo⟩,λc e hc=>?_,λc o e h0=>?_⟩
 ·have:c≠b:=λh=>by subst h;rw [hb] at e;cases e
  rw [rZ this];exact u.up c o e
 ·rw [rZ (by omega)];exact u.new c e hc
 ·by_cases h:c=b
  ·subst h;rw [BV] at e;cases e;exact ⟨_,_,Z⟩
  ·rw [rZ h] at e;exact u.mark c o e h0
theorem HUp.cells {H1:Hp} {b:Nat} {arr:Array Value} {m:Nat × Nat} (u:HUp w0 H H1) (hb:H b=none) (h:H1 b=some (.cells arr t m)):H1 b=some (.cells arr t (0,0)):=by
 obtain ⟨arr',t',e⟩:=u.mark b _ h hb;cases e;exact h
def Hp.at (H:Hp) (n:Nat):Hp:=⟨H.get,n⟩
section
variable {P:Program}
end
section
variable {dfs:List Deferred} {P:Program} {n:Nat} {L:Sl} {H:Hp} {w0:World} {bs:List Res} {Q:Exit->Act->World->Prop} {ops:Array Oper} {rest:List Oper} {K:Act->World->Prop}
variable {ty:TypeId} {pos:String} {aft:Array Edge} {t:Tmp} {x y:Operand} {T:TypeId}
end
section
variable {P:Program} {H:Hp} {w0 W:World} {bs:List Res}
end
section
variable {dfs:List Deferred} {P:Program} {n N hn i:Nat} {L:Sl} {H:Hp} {w0:World} {bs:List Res} {Q:Exit->Act->World->Prop} {ops:Array Oper} {rest:List Oper} {K:Act->World->Prop}
variable {ty:TypeId} {pos:String} {aft:Array Edge} {t:Tmp} {x y:Operand} {T:TypeId} {pa:List (Nat × Oper × Value)} {E:Sl->Hp->List Res->Prop} {fr:List (Nat × Nat × Oper)}
end
section
variable {dfs:List Deferred} {P:Program} {n:Nat} {L:Sl} {H:Hp} {w0:World} {bs:List Res} {Q:Exit->Act->World->Prop} {ops:Array Oper} {rest:List Oper} {K:Act->World->Prop}
variable {d:Option Tmp} {ty:TypeId} {pos:String} {aft:Array Edge} {v:Value} {t:Tmp} {x y:Operand} {T:TypeId}
theorem At.rcut {e:TypeId} {size k m g c:Nat} {xs ys:List Value} {bs':List Res} {G:Act->World->Prop} (hm:Upd bs (.row e size (.slice (some ⟨g,0,none⟩) k c) k xs) (.row e size (.slice (some ⟨g,0,none⟩) m c) m ys) bs') (hk:m<=k) (hy:ys=xs.take (m * size)) (h:At dfs n L H w0 bs' G):At dfs n L H w0 bs G:=λa W f s=>by
 have ho:W.ownsRow w0.heap.size e size (.slice (some ⟨g,0,none⟩) k c) k xs:=(s.own _ hm.mem).1;rcases ho.2 with ⟨hr,_⟩ | ⟨g',cap,cur,hr,hbg,hgc,hnc,hcm,hcs,htake⟩
 ·cases hr
 ·injection hr with e1 _ e3
  injection e1 with e1
  injection e1 with e1
  subst e1 e3;have hms:m * size<=k * size:=nV size hk;have hl:=ho.1;refine h a W f (s.put1 hm ⟨?_,.inr ⟨g,c,cur,Z,hbg,hgc,by omega,hcm,hcs,?_⟩⟩ (λb e=>e))
  ·rw [hy,fI];omega
  ·rw [hy,<-htake,List.take_take,xD hms]
theorem ZB {g off k c size:Nat} {e:TypeId} {xs:List Value} {v:Value} {bs':List Res} (hp:ev L x=some (.pointer (some ⟨g,off,none⟩))) (hv:ev L y=some v) (hT:hP P T=some 1) (h1:v.oneCell'=true)
 (hm:Upd bs (.row e size (.slice (some ⟨g,0,none⟩) k c) k xs) (.row e size (.slice (some ⟨g,0,none⟩) k c) k (xs.set off v)) bs') (ho:off<xs.length) (h:At dfs n L H w0 bs' K) :
 At dfs n L H w0 bs (one P ops Q ⟨none,.store T x y,ty,pos,aft,none⟩ K):=by
 intro a W f s;have ho1:W.ownsRow w0.heap.size e size (.slice (some ⟨g,0,none⟩) k c) k xs:=(s.own _ hm.mem).1;rcases ho1.2 with ⟨hr,_⟩ | ⟨g',cap,cur,hr,hbg,hgc,hnc,hcm,hcs,htake⟩
 ·cases hr
 ·injection hr with e1 _ e3
  injection e1 with e1
  injection e1 with e1
  subst e1 e3;obtain ⟨more,hmo⟩:∃ more,more=cur.toList.drop (k * size):=⟨_,Z⟩;have hcur:cur.toList=xs++more:=by rw [hmo,<-htake,eY]
  have hcur2:cur=(xs++more).toArray:=by rw [<-hcur]
  obtain ⟨b1,u1,u2⟩:=hm.mid (.box g (xs++more) e);obtain ⟨b2,u3,u4⟩:=u2.mid (.box g ((xs++more).set off v) e);have s1:St H w0 b1 W:=s.put1 u1 ⟨hbg,by rw [hgc,<-hcur2]⟩ (λb e=>e);refine store hp hv hT h1 u3 (by rw [aF];omega) rfl ?_ a W f s1;intro a W f s2;have ob:=(s2.own _ u4.mem).1;have e4:(xs++more).set off v=xs.set off v++more:=List.set_append_left off v ho;have hz:xs.length=k * size:=ho1.1;refine h a W f (s2.put1 u4 ⟨by rw [List.length_set];exact hz,.inr ⟨g,c,((xs++more).set off v).toArray,Z,ob.1,ob.2,hnc,hcm,?_,?_⟩⟩ (λb e=>e))
  ·rw [List.size_toArray,List.length_set,<-hcur];simpa using hcs
  ·rw [e4];show List.take (k * size) (xs.set off v++more)=xs.set off v;rw [List.take_append_of_le_length (by rw [List.length_set];omega),jV (by rw [List.length_set];omega)]
theorem At.s1R {g off k c size:Nat} {e:TypeId} {xs:List Value} {v:Value} {bs':List Res} (hp:ev L x=some (.pointer (some ⟨g,off,none⟩))) (hv:ev L y=some v) (hT:hP P T=some 1) (h1:v.oneCell'=true)
 (hm:Upd bs (.row e size (.slice (some ⟨g,0,none⟩) k c) k xs) (.row e size (.slice (some ⟨g,0,none⟩) k c) k (xs.set off v)) bs') (ho:off<xs.length) (h:At dfs n L H w0 bs' (wpList P ops Q rest)) :
 At dfs n L H w0 bs (wpList P ops Q (⟨none,.store T x y,ty,pos,aft,none⟩::rest)):=cons (ZB hp hv hT h1 hm ho h)
end
end Go.Sx
namespace Go.Proofs.YtidclioghdbphaaGreatDoor
open Go.RowKit Go.Par Go.Sx Tryz
theorem yV:kR prg 24=some none:=by kernel_rfl
theorem dE:kR prg 32=some none:=by kernel_rfl
theorem dP:kR prg 76=some (some 4):=by kernel_rfl
theorem jZ:kR prg 83=some (some 4):=by kernel_rfl
theorem OT:dI prg 73=true:=by kernel_rfl
theorem eA:dY prg 76 3=some 3:=by kernel_rfl
theorem tH:dY prg 83 3=some 3:=by kernel_rfl
theorem lO:hP prg 83=some 4:=by kernel_rfl
theorem CH:slN prg 24=some 4:=by kernel_rfl
theorem dO:slN prg 32=some 4:=by kernel_rfl
theorem pC:pT prg 83=some
 [Go.Value.int Go.IntKind.i64 (Int.ofNat 0),Go.Value.string { data:={ toList:=[] } },
  Go.Value.int Go.IntKind.i64 (Int.ofNat 0),Go.Value.slice none 0 0]:=by kernel_rfl
theorem MS (e:Ex):∀ (H:Hp) (cs:List Value) (w:World),Rep H (dEx .u8 e) cs->e.depth<=1000000->Agr H w ->
 Calls prg 73 #[.agg cs.toArray] w λr w'=>r=.returned (iN e.depth)/\Ext w w':=by
 induction e using Ex.ind with | _ op nm nn args ih
 intro H cs w h he hA;rw [tD] at he;obtain ⟨p,c,rfl,hs,hnm⟩:=iM h;have hcap:=hs.cap;refine Sx.enter (H:=H) func73 rfl ntmps73 rfl hA ?_;refine .sr<|.bx Z Z Z λb1=>.a Z Z<|.ns<|.aq Z<|.sq<|.sr<|.fA Z eA<|.lD Z dE Hm Z<|.yw (.lenSl dO Z)<|.mv Z<|.nt<|.bk<|.lp (X:=Nat) [(1,_),(7,_)] ⟨Z,Z,Jt⟩ [_] (λk=>[(3,iN (Ex.deeps (args.take k))),(8,iN k)]) (λk=>H) (λk=>[]) (λk=>k<=args.length) (λk=>args.length - k) 0 (λ_ s=>s) ⟨Z,Z,Jt⟩ (by omega) λk hC=>?_
 refine .sr<|.yw (.lss Z Z)<|.nt<|.sq<|.ce Z (λh9=>?_) (λh9=>?_)
 ·have hk:k<args.length:=by omega
  obtain ⟨b5,o5,c5,hp5,r5,l5,m5⟩:=hs.elem (kN hk);cases hp5;have h1:=XU args k;have h2:=aX0 hk;have h3:=XV hk;exact .sk<|.tN<|.sq<|.bk<|.sm Z<|.aq Z<|.rg<|.mv Z<|.fA Z eA<|.lD Z dE Hm Z<|.mv Z<|.yw (.indexSl dO Z Z Z (by omega) (q:=o5+k * 4) Z)<|.yw (.loadMW Z dP m5 l5)<|.yw (.call OT Z (λW s=>ih _ (bU hk) H c5 W r5 (by omega) s.agr))<|.yw (.max2 Z Z (c:=((Ex.deeps (args.take (k+1)):Nat):Int)) (by omega))<|.a Z Z<|.nl<|.bN<|.tN<|.rg<|.yw (.add Z Z w7)<|.mv Z<|.nt<|.ag (k+1) ⟨Z,Z,Jt⟩ ⟨Z,Z,Jt⟩ (λ_ s=>s) (by omega) (by omega)
 obtain rfl:k=args.length:=by omega
 rw [dD];refine .ex<|.eb<|.sm Z<|.yw (.add Z Z w7)<|.az Z<|?_
 exact y9 Z Z λW s=>⟨by rw [tD];rfl,s.ext⟩
theorem aL5:kR prg 235=some (some 39):=by kernel_rfl
theorem aL1:aZ0 prg 235=true:=by kernel_rfl
theorem aK7:MU prg 235=some (39,1):=by kernel_rfl
theorem LW:dI prg 150=true:=by kernel_rfl
theorem AC:dI prg 153=true:=by kernel_rfl
theorem YE:dI prg 179=true:=by kernel_rfl
theorem iO:AI prg 9=true:=by kernel_rfl
theorem KX (c:UInt8) (w:World):Calls prg 150 #[IP c] w λr w'=>r=.returned (.bool (pJ c))/\Ext w w':=by
 refine y6 func150 Z ntmps150 Z ?_;refine .sr<|.a Z Z<|.ns<|.mv Z<|.yw (.geq Z Z)<|.mv Z<|.e2 (λh5=>?_) (λh5=>?_)
 ·refine .gy (.move Z)<|.gy (.leq Z Z)<|.yw (.pickT Z Z)<|.mv Z<|.e2 (λh9=>?_) (λh9=>?_)
  ·refine .gG<|.gG<|.gG<|.gV<|.gV<|.gG<|.yw (.pickT Z Z)<|.az Z<|?_
   exact y9 Z Z λW s=>⟨kF (by simp only [pJ,bC,aE,aD,reduceCtorEq,dA,cR,dB,cQ,eT,bP,aI];try omega),s.ext⟩
  refine .gy (.move Z)<|.gy (.geq Z Z)<|.gy (.move Z)<|.b2 (λh12=>?_) (λh12=>?_)
  ·try simp only [dt] at h12
   refine .gy (.move Z)<|.gy (.leq Z Z)<|.gy (.pickT Z Z)<|.yw (.pickF Z Z)<|.az Z<|?_
   exact y9 Z Z λW s=>⟨kF (by simp only [pJ,bC,aE,aD,reduceCtorEq,dA,cR,dB,cQ,eT,bP,aI];try omega),s.ext⟩
  try simp only [df] at h12
  refine .gG<|.gG<|.gy (.pickF Z Z)<|.yw (.pickF Z Z)<|.az Z<|?_
  exact y9 Z Z λW s=>⟨kF (by simp only [pJ,bC,aE,aD,reduceCtorEq,dA,cR,dB,cQ,eT,bP,aI];try omega),s.ext⟩
 refine .gG<|.gG<|.yw (.pickF Z Z)<|.mv Z<|.gy (.move Z)<|.gy (.geq Z Z)<|.gy (.move Z)<|.b2 (λh12=>?_) (λh12=>?_)
 ·try simp only [dt] at h12
  refine .gy (.move Z)<|.gy (.leq Z Z)<|.gy (.pickT Z Z)<|.yw (.pickF Z Z)<|.az Z<|?_
  exact y9 Z Z λW s=>⟨kF (by simp only [pJ,bC,aE,aD,reduceCtorEq,dA,cR,dB,cQ,eT,bP,aI];try omega),s.ext⟩
 try simp only [df] at h12
 refine .gG<|.gG<|.gy (.pickF Z Z)<|.yw (.pickF Z Z)<|.az Z<|?_
 exact y9 Z Z λW s=>⟨kF (by simp only [pJ,bC,aE,aD,reduceCtorEq,dA,cR,dB,cQ,eT,bP,aI];try omega),s.ext⟩
theorem CD (c:UInt8) (w:World):Calls prg 153 #[IP c] w λr w'=>r=.returned (.bool (iX c))/\Ext w w':=by
 refine y6 func153 Z ntmps153 Z ?_;refine .sr<|.a Z Z<|.ns<|.mv Z<|.yw (.geq Z Z)<|.mv Z<|.e2 (λh5=>?_) (λh5=>?_)
 ·refine .gy (.move Z)<|.gy (.leq Z Z)<|.yw (.pickT Z Z)<|.az Z<|?_
  exact y9 Z Z λW s=>⟨kF (by simp only [iX,bC,aE,aD,reduceCtorEq,dA,cR,dB,cQ,eT,bP,aI];try omega),s.ext⟩
 refine .gG<|.gG<|.yw (.pickF Z Z)<|.az Z<|?_
 exact y9 Z Z λW s=>⟨kF (by simp only [iX,bC,aE,aD,reduceCtorEq,dA,cR,dB,cQ,eT,bP,aI];try omega),s.ext⟩
theorem XH (c:UInt8) (w:World):Calls prg 151 #[IP c] w λr w'=>r=.returned (.bool (jC c))/\Ext w w':=by
 refine y6 func151 Z ntmps151 Z ?_;refine .sr<|.a Z Z<|.ns<|.mv Z<|.yw (.call LW Z (λW s=>KX c W))<|.mv Z<|.b2 (λh5=>?_) (λh5=>?_)
 ·refine .gG<|.gG<|.yw (.pickT Z Z)<|.mv Z<|.gG<|.gG<|.yw (.pickT Z Z)<|.az Z<|?_
  exact y9 Z Z λW s=>⟨kF (by simp_all [jC];try omega),s.ext⟩
 refine .gy (.move Z)<|.gy (.call AC Z (λW s=>CD c W))<|.yw (.pickF Z Z)<|.mv Z<|.b2 (λh9=>?_) (λh9=>?_)
 ·refine .gG<|.gG<|.yw (.pickT Z Z)<|.az Z<|?_
  exact y9 Z Z λW s=>⟨kF (by simp_all [jC];try omega),s.ext⟩
 refine .gy (.move Z)<|.gy (.eql Z Z)<|.yw (.pickF Z Z)<|.az Z<|?_
 exact y9 Z Z λW s=>⟨kF (by simp_all [jC];try omega),s.ext⟩
theorem wJ (gf:FuncId) (q:UInt8->Bool) (hf:dI prg gf=true) (hg:∀ b w,Calls prg gf #[IP b] w λr w'=>r=.returned (.bool (q b))/\Ext w w') (l:Str) (hl:l.length<=9223372036854775807) (w:World) :
 Calls prg 146 #[cH l,.func (.func gf) #[] #[]] w λr w'=>r=.returned (iN (pre q l))/\Ext w w':=by
 refine y6 func146 Z ntmps146 Z ?_;refine .sr<|.a Z Z<|.ns<|.aq Z<|.sq<|.bk<|.lp (X:=Nat) [(0,_),(1,_)] ⟨Z,Z,Jt⟩ [] (λk=>[(5,iN k)]) (λk=>(⟨λ_=>none,0⟩:Hp)) (λk=>[]) (λk=>k<=pre q l) (λk=>l.length - k) 0 (λ_ s=>s) ⟨Z,Jt⟩ (by omega) λk hC=>?_
 have hp:=AW q l;refine .sq<|.sm Z<|.mv Z<|.yw (.lenS iO Z)<|.yw (.lss Z Z)<|.mv Z<|.e2 (λh10=>?_) (λh10=>?_)
 ·have hk:k<l.length:=by omega
  refine .gy (.move Z)<|.gy (.move Z)<|.gy (.move Z)<|.gy (.idxS iO Z Z Z (List.getElem?_eq_getElem hk))<|.gy (.callV (fi:=[]) (ca:=[]) Z hf Z (λW s=>hg _ W))<|.yw (.pickT Z Z)<|.nt<|.cd Z (λh16=>?_) (λh16=>?_)
  ·exact .sk<|.tN<|.bk<|.rg<|.mv Z<|.yw (.add Z Z w7)<|.a Z Z<|.nl<|.bN<|.tN<|.ag (k+1) ⟨Z,Jt⟩ ⟨Z,Z,Jt⟩ (λ_ s=>s) (TI hk hC (by simpa using h16)) (by omega)
  refine .ex<|.eb<|.sm Z<|.az Z<|?_
  first
   | exact y9 Z Z λW s=>⟨by rw [show k=pre q l by omega],s.ext⟩
   | exact y9 Z Z λW s=>⟨by rw [KL hk hC (by simpa using h16)],s.ext⟩
 refine .gG<|.gG<|.gG<|.gG<|.gG<|.yw (.pickF Z Z)<|.nt<|.cF Z<|.ex<|.eb<|.sm Z<|.az Z<|?_
 first
  | exact y9 Z Z λW s=>⟨by rw [show k=pre q l by omega],s.ext⟩
  | exact y9 Z Z λW s=>⟨by rw [KL hk hC (by simpa using h16)],s.ext⟩
theorem UE (H:Hp) (G:Gl H) (l:Str) (w:World) (hA:Agr H w) :
 Calls prg 152 #[cH l] w λr w'=>r=.returned (.bool (words.contains l))/\Ext w w':=by
 refine Sx.enter (H:=H) func152 rfl ntmps152 rfl hA ?_;refine .sr<|.aq Z<|.sq<|.sr<|.yw (.loadMW Z aL5 G.words Z)<|.mv Z<|.nt<|.bk<|.lp (X:=Nat) [(0,_),(5,_)] ⟨Z,Z,Jt⟩ [] (λk=>[(6,iN k)]) (λk=>H) (λk=>[]) (λk=>k<=39/\∀ j,j<k->words.getD j []≠l) (λk=>39 - k) 0 (λ_ s=>s) ⟨Z,Jt⟩ ⟨by omega,λj hj=>by omega⟩ λk hC=>?_
 obtain ⟨hk,hne⟩:=hC;refine .sr<|.yw (.lss Z Z)<|.nt<|.sq<|.ce Z (λh7=>?_) (λh7=>?_)
 ·refine .sk<|.tN<|.sq<|.bk<|.sr<|.yw (.idxA aK7 aL1 Z Z Z (by omega) (zI (by show k<39;omega) []))<|.a Z Z<|.ns<|.mv Z<|.mv Z<|.yw (.eqS Z Z)<|.nt<|.ce Z (λh11=>?_) (λh11=>?_)
  ·have hmem:l∈words:=by
    rw [<-h11,FP (show k<words.length by show k<39;omega)];exact bU _
   refine .sr<|.az Z<|.bR<|.tR<|.tR<|.bR<|.tR<|?_
   exact y9 Z Z λW s=>⟨kF (by simp [iC, *]),s.ext⟩
  exact .sk<|.bN<|.tN<|.rg<|.yw (.add Z Z w7)<|.mv Z<|.nt<|.ag (k+1) ⟨Z,Jt⟩ ⟨Z,Z,Jt⟩ (λ_ s=>s) ⟨by omega,λj hj=>by
   by_cases e:j=k
   ·subst e;exact h11
   ·exact hne j (by omega)⟩ (by omega)
 have hno:l ∉ words:=λhm=>by
  obtain ⟨j,hj,e⟩:=sO.1 hm;have hj2:j<39:=hj;exact hne j (by omega) (by rw [FP hj];exact e)
 refine .ex<|.eb<|.sr<|.az Z<|?_
 exact y9 Z Z λW s=>⟨kF (by simp [iC, *]),s.ext⟩
theorem LD (l m:Str) (w:World):Calls prg 179 #[cH l,cH m] w λr w'=>r=.returned (.bool (AP l m))/\Ext w w':=by
 refine y6 func179 Z ntmps179 Z ?_;refine .sr<|.a Z Z<|.ns<|.mv Z<|.yw (.lenS iO Z)<|.mv Z<|.yw (.lenS iO Z)<|.yw (.geq Z Z)<|.mv Z<|.e2 (λh10=>?_) (λh10=>?_)
 ·refine .gy (.move Z)<|.gy (.move Z)<|.gy (.lenS iO Z)<|.gy (.takeS iO Z Z Z (by omega))<|.gy (.move Z)<|.gy (.eqS Z Z)<|.yw (.pickT Z Z)<|.az Z<|?_
  exact y9 Z Z λW s=>⟨kF (by first | (simp only [AP,bC,aE,aD,reduceCtorEq,dA,cR,dB,cQ,eT,bP,aI];omega) | exact ⟨λe=>by simp only [AP,bC,aE,aD,reduceCtorEq,dA,cR,dB,cQ,eT,bP,aI] at e|-;exact ⟨by omega,e⟩,λe=>by simp only [AP,bC,aE,aD,reduceCtorEq,dA,cR,dB,cQ,eT,bP,aI] at e|-;exact e.2⟩),s.ext⟩
 refine .gG<|.gG<|.gG<|.gG<|.gG<|.gG<|.yw (.pickF Z Z)<|.az Z<|?_
 exact y9 Z Z λW s=>⟨kF (by first | (simp only [AP,bC,aE,aD,reduceCtorEq,dA,cR,dB,cQ,eT,bP,aI];omega) | exact ⟨λe=>by simp only [AP,bC,aE,aD,reduceCtorEq,dA,cR,dB,cQ,eT,bP,aI] at e|-;exact ⟨by omega,e⟩,λe=>by simp only [AP,bC,aE,aD,reduceCtorEq,dA,cR,dB,cQ,eT,bP,aI] at e|-;exact e.2⟩),s.ext⟩
theorem DB (l m:Str) (w:World):Calls prg 148 #[cH l,cH m] w λr w'=>r=.returned (.bool (AP l m))/\Ext w w':=by
 refine y6 func148 Z ntmps148 Z ?_;refine .sr<|.a Z Z<|.ns<|.mv Z<|.mv Z<|.yw (.call YE Z (λW s=>LD l m W))<|.az Z<|?_
 exact y9 Z Z λW s=>⟨Z,s.ext⟩
theorem aL6:kR prg 217=some (some 25):=by kernel_rfl
theorem aL2:aZ0 prg 217=true:=by kernel_rfl
theorem aK8:MU prg 217=some (25,1):=by kernel_rfl
theorem OO:dI prg 97=true:=by kernel_rfl
theorem wY:dI prg 146=true:=by kernel_rfl
theorem LX:dI prg 148=true:=by kernel_rfl
theorem YI:dI prg 151=true:=by kernel_rfl
theorem YH:dI prg 152=true:=by kernel_rfl
variable {k:Nat}
theorem aN3 {l:Str} (hk:k<25) (h0:∀ j,j<k->AP l (symbols.getD j [])=false) (h1:AP l (symbols.getD k [])=true):symbols.find? (λx=>x.isPrefixOf l)=some (symbols.getD k []):=by
 have hk':k<symbols.length:=hk;rw [FP hk'] at h1|-;rw [BC] at h1;refine List.find?_eq_some_iff_getElem.2 ⟨h1,k,hk',Z,λj hj=>?_⟩;have:=h0 j hj;rw [FP (by omega),BC] at this;simp [this]
theorem aN2 {l:Str} (h0:∀ j,j<25->AP l (symbols.getD j [])=false):symbols.find? (λx=>x.isPrefixOf l)=none:=by
 rw [List.find?_eq_none];intro x hx;obtain ⟨j,hj,rfl⟩:=sO.1 hx;have:=h0 j hj;rw [FP hj,BC] at this;simp [this]
theorem TE (H:Hp) (G:Gl H) (l:Str) (hl:l.length<=9223372036854775807) (h0:l≠[]) (w:World) (hA:Agr H w) :
 Calls prg 97 #[cH l] w λe w'=>e=.returned (.tuple #[.int .u8 ((cI l).1.toNat:Nat),iN ((cI l).2)])/\Ext w w':=by
 match l,h0 with
 | c::r,_ =>
 refine Sx.enter (H:=H) func97 rfl ntmps97 rfl hA ?_;refine .sr<|.a Z Z<|.aq Z<|.sq<|.sm Z<|.yw (.idxS iO Z Z Z (b:=c) (j:=0) Z)<|.aq Z<|.bk<|.sm Z<|.yw (.call LW Z (λW s=>KX c W))<|.aq Z<|.cd Z (λh21=>?_) (λh21=>?_)
 ·refine .sm Z<|.yw (.call wY Z (λW s=>wJ 151 jC YI XH (c::r) hl W))<|.aq Z<|.sq<|.sm Z<|.mv Z<|.yw (.takeS iO Z Z Z (AW _ _))<|.yw (.call YH Z (λW s=>UE H G _ W s.agr))<|.nt<|.cd Z (λh29=>?_) (λh29=>?_)
  ·refine .sm Z<|.a Z Z<|.az Z<|.tR<|.bR<|.tR<|?_
   first
    | exact y7 Z (.cons (.tmp rfl) (.cons (.tmp rfl) .nil)) rfl λW s=>⟨by simp only [cI,aV,h21,h29,bS];rfl,s.ext⟩
    | exact y7 Z (.cons (.tmp rfl) (.cons (.tmp rfl) .nil)) rfl λW s=>⟨by simp only [cI,aV,h21,h29,bS,aI,bL,show pre jC (c::r)<=12 by omega];rfl,s.ext⟩
    | exact y7 Z (.cons (.tmp rfl) (.cons (.tmp rfl) .nil)) rfl λW s=>⟨by simp only [cI,aV,h21,h29,bS,aI,bL,show ¬ pre jC (c::r)<=12 by omega];rfl,s.ext⟩
    | exact y7 Z (.cons (.tmp rfl) (.cons (.tmp rfl) .nil)) rfl λW s=>⟨by simp only [cI,aV,h21,h34,bS,aI,bL,hor];rfl,s.ext⟩
    | exact y7 Z (.cons (.tmp rfl) (.cons (.tmp rfl) .nil)) rfl λW s=>⟨by simp only [cI,aV,h21,h34,aI,bL,hfind];rfl,s.ext⟩
  refine .sk<|.tN<|.sm Z<|.yw (.leq Z Z)<|.nt<|.ce Z (λh32=>?_) (λh32=>?_)
  ·refine .sm Z<|.a Z Z<|.az Z<|.bR<|.tR<|?_
   first
    | exact y7 Z (.cons (.tmp rfl) (.cons (.tmp rfl) .nil)) rfl λW s=>⟨by simp only [cI,aV,h21,h29,bS];rfl,s.ext⟩
    | exact y7 Z (.cons (.tmp rfl) (.cons (.tmp rfl) .nil)) rfl λW s=>⟨by simp only [cI,aV,h21,h29,bS,aI,bL,show pre jC (c::r)<=12 by omega];rfl,s.ext⟩
    | exact y7 Z (.cons (.tmp rfl) (.cons (.tmp rfl) .nil)) rfl λW s=>⟨by simp only [cI,aV,h21,h29,bS,aI,bL,show ¬ pre jC (c::r)<=12 by omega];rfl,s.ext⟩
    | exact y7 Z (.cons (.tmp rfl) (.cons (.tmp rfl) .nil)) rfl λW s=>⟨by simp only [cI,aV,h21,h34,bS,aI,bL,hor];rfl,s.ext⟩
    | exact y7 Z (.cons (.tmp rfl) (.cons (.tmp rfl) .nil)) rfl λW s=>⟨by simp only [cI,aV,h21,h34,aI,bL,hfind];rfl,s.ext⟩
  refine .sk<|.bN<|.tN<|.sm Z<|.yw (.lenS iO Z)<|.a Z Z<|.az Z<|?_
  first
   | exact y7 Z (.cons (.tmp rfl) (.cons (.tmp rfl) .nil)) rfl λW s=>⟨by simp only [cI,aV,h21,h29,bS];rfl,s.ext⟩
   | exact y7 Z (.cons (.tmp rfl) (.cons (.tmp rfl) .nil)) rfl λW s=>⟨by simp only [cI,aV,h21,h29,bS,aI,bL,show pre jC (c::r)<=12 by omega];rfl,s.ext⟩
   | exact y7 Z (.cons (.tmp rfl) (.cons (.tmp rfl) .nil)) rfl λW s=>⟨by simp only [cI,aV,h21,h29,bS,aI,bL,show ¬ pre jC (c::r)<=12 by omega];rfl,s.ext⟩
   | exact y7 Z (.cons (.tmp rfl) (.cons (.tmp rfl) .nil)) rfl λW s=>⟨by simp only [cI,aV,h21,h34,bS,aI,bL,hor];rfl,s.ext⟩
   | exact y7 Z (.cons (.tmp rfl) (.cons (.tmp rfl) .nil)) rfl λW s=>⟨by simp only [cI,aV,h21,h34,aI,bL,hfind];rfl,s.ext⟩
 refine .sm Z<|.yw (.call AC Z (λW s=>CD c W))<|.aq Z<|.cd Z (λh34=>?_) (λh34=>?_)
 ·refine .sm Z<|.yw (.call wY Z (λW s=>wJ 153 iX AC CD (c::r) hl W))<|.a Z Z<|.ns<|.mv Z<|.yw (.eql Z Z)<|.mv Z<|.e2 (λh41=>?_) (λh41=>?_)
  ·have hor:(pre iX (c::r)=1\/c≠48)=True:=eq_true (.inl (by omega));refine .gG<|.gG<|.yw (.pickT Z Z)<|.nt<|.cT Z<|.sm Z<|.a Z Z<|.az Z<|.bR<|.tR<|?_
   first
    | exact y7 Z (.cons (.tmp rfl) (.cons (.tmp rfl) .nil)) rfl λW s=>⟨by simp only [cI,aV,h21,h29,bS];rfl,s.ext⟩
    | exact y7 Z (.cons (.tmp rfl) (.cons (.tmp rfl) .nil)) rfl λW s=>⟨by simp only [cI,aV,h21,h29,bS,aI,bL,show pre jC (c::r)<=12 by omega];rfl,s.ext⟩
    | exact y7 Z (.cons (.tmp rfl) (.cons (.tmp rfl) .nil)) rfl λW s=>⟨by simp only [cI,aV,h21,h29,bS,aI,bL,show ¬ pre jC (c::r)<=12 by omega];rfl,s.ext⟩
    | exact y7 Z (.cons (.tmp rfl) (.cons (.tmp rfl) .nil)) rfl λW s=>⟨by simp only [cI,aV,h21,h34,bS,aI,bL,hor];rfl,s.ext⟩
    | exact y7 Z (.cons (.tmp rfl) (.cons (.tmp rfl) .nil)) rfl λW s=>⟨by simp only [cI,aV,h21,h34,aI,bL,hfind];rfl,s.ext⟩
  refine .gy (.move Z)<|.gy (.neq Z Z)<|.yw (.pickF Z Z)<|.nt<|.ce Z (λh44=>?_) (λh44=>?_)
  ·have hor:(pre iX (c::r)=1\/c≠48)=True:=eq_true (.inr λe=>h44 (by rw [e];rfl));refine .sm Z<|.a Z Z<|.az Z<|.bR<|.tR<|?_
   first
    | exact y7 Z (.cons (.tmp rfl) (.cons (.tmp rfl) .nil)) rfl λW s=>⟨by simp only [cI,aV,h21,h29,bS];rfl,s.ext⟩
    | exact y7 Z (.cons (.tmp rfl) (.cons (.tmp rfl) .nil)) rfl λW s=>⟨by simp only [cI,aV,h21,h29,bS,aI,bL,show pre jC (c::r)<=12 by omega];rfl,s.ext⟩
    | exact y7 Z (.cons (.tmp rfl) (.cons (.tmp rfl) .nil)) rfl λW s=>⟨by simp only [cI,aV,h21,h29,bS,aI,bL,show ¬ pre jC (c::r)<=12 by omega];rfl,s.ext⟩
    | exact y7 Z (.cons (.tmp rfl) (.cons (.tmp rfl) .nil)) rfl λW s=>⟨by simp only [cI,aV,h21,h34,bS,aI,bL,hor];rfl,s.ext⟩
    | exact y7 Z (.cons (.tmp rfl) (.cons (.tmp rfl) .nil)) rfl λW s=>⟨by simp only [cI,aV,h21,h34,aI,bL,hfind];rfl,s.ext⟩
  have hor:(pre iX (c::r)=1\/c≠48)=False:=eq_false λh=>by
   rcases h with h | h
   ·omega
   ·exact h (aQ.1 (by show c.toNat=48;simp at h44;omega))
  refine .sk<|.bN<|.tN<|.sm Z<|.yw (.lenS iO Z)<|.a Z Z<|.az Z<|?_
  first
   | exact y7 Z (.cons (.tmp rfl) (.cons (.tmp rfl) .nil)) rfl λW s=>⟨by simp only [cI,aV,h21,h29,bS];rfl,s.ext⟩
   | exact y7 Z (.cons (.tmp rfl) (.cons (.tmp rfl) .nil)) rfl λW s=>⟨by simp only [cI,aV,h21,h29,bS,aI,bL,show pre jC (c::r)<=12 by omega];rfl,s.ext⟩
   | exact y7 Z (.cons (.tmp rfl) (.cons (.tmp rfl) .nil)) rfl λW s=>⟨by simp only [cI,aV,h21,h29,bS,aI,bL,show ¬ pre jC (c::r)<=12 by omega];rfl,s.ext⟩
   | exact y7 Z (.cons (.tmp rfl) (.cons (.tmp rfl) .nil)) rfl λW s=>⟨by simp only [cI,aV,h21,h34,bS,aI,bL,hor];rfl,s.ext⟩
   | exact y7 Z (.cons (.tmp rfl) (.cons (.tmp rfl) .nil)) rfl λW s=>⟨by simp only [cI,aV,h21,h34,aI,bL,hfind];rfl,s.ext⟩
 refine .sr<|.yw (.loadMW Z aL6 G.symbols Z)<|.mv Z<|.nt<|.bk<|.lp (X:=Nat) [(0,_),(11,_)] ⟨Z,Z,Jt⟩ [] (λk=>[(12,iN k)]) (λk=>H) (λk=>[]) (λk=>k<=25/\∀ j,j<k->AP (c::r) (symbols.getD j [])=false) (λk=>25 - k) 0 (λ_ s=>s) ⟨Z,Jt⟩ ⟨by omega,λj hj=>by omega⟩ λk hC=>?_
 obtain ⟨hk,hne⟩:=hC;refine .sr<|.yw (.lss Z Z)<|.nt<|.sq<|.ce Z (λh13=>?_) (λh13=>?_)
 ·refine .sk<|.tN<|.sq<|.bk<|.sr<|.yw (.idxA aK8 aL2 Z Z Z (by omega) (zI (by show k<25;omega) []))<|.a Z Z<|.ns<|.mv Z<|.mv Z<|.yw (.call LX Z (λW s=>DB (c::r) _ W))<|.nt<|.cd Z (λh17=>?_) (λh17=>?_)
  ·have hfind:=aN3 (by omega) hne h17;refine .sm Z<|.yw (.lenS iO Z)<|.a Z Z<|.az Z<|.bR<|.tR<|.tR<|.bR<|.bR<|.tR<|?_
   first
    | exact y7 Z (.cons (.tmp rfl) (.cons (.tmp rfl) .nil)) rfl λW s=>⟨by simp only [cI,aV,h21,h29,bS];rfl,s.ext⟩
    | exact y7 Z (.cons (.tmp rfl) (.cons (.tmp rfl) .nil)) rfl λW s=>⟨by simp only [cI,aV,h21,h29,bS,aI,bL,show pre jC (c::r)<=12 by omega];rfl,s.ext⟩
    | exact y7 Z (.cons (.tmp rfl) (.cons (.tmp rfl) .nil)) rfl λW s=>⟨by simp only [cI,aV,h21,h29,bS,aI,bL,show ¬ pre jC (c::r)<=12 by omega];rfl,s.ext⟩
    | exact y7 Z (.cons (.tmp rfl) (.cons (.tmp rfl) .nil)) rfl λW s=>⟨by simp only [cI,aV,h21,h34,bS,aI,bL,hor];rfl,s.ext⟩
    | exact y7 Z (.cons (.tmp rfl) (.cons (.tmp rfl) .nil)) rfl λW s=>⟨by simp only [cI,aV,h21,h34,aI,bL,hfind];rfl,s.ext⟩
  exact .sk<|.bN<|.tN<|.rg<|.yw (.add Z Z w7)<|.mv Z<|.nt<|.ag (k+1) ⟨Z,Jt⟩ ⟨Z,Z,Jt⟩ (λ_ s=>s) ⟨by omega,λj hj=>by
   by_cases e:j=k
   ·subst e;exact h17
   ·exact hne j (by omega)⟩ (by omega)
 have hfind:=aN2 (l:=c::r) (λj hj=>hne j (by omega));refine .ex<|.tE<|.tE<|.bE<|.bN<|.tN<|.sm Z<|.yw (.lenS iO Z)<|.a Z Z<|.az Z<|?_
 first
  | exact y7 Z (.cons (.tmp rfl) (.cons (.tmp rfl) .nil)) rfl λW s=>⟨by simp only [cI,aV,h21,h29,bS];rfl,s.ext⟩
  | exact y7 Z (.cons (.tmp rfl) (.cons (.tmp rfl) .nil)) rfl λW s=>⟨by simp only [cI,aV,h21,h29,bS,aI,bL,show pre jC (c::r)<=12 by omega];rfl,s.ext⟩
  | exact y7 Z (.cons (.tmp rfl) (.cons (.tmp rfl) .nil)) rfl λW s=>⟨by simp only [cI,aV,h21,h29,bS,aI,bL,show ¬ pre jC (c::r)<=12 by omega];rfl,s.ext⟩
  | exact y7 Z (.cons (.tmp rfl) (.cons (.tmp rfl) .nil)) rfl λW s=>⟨by simp only [cI,aV,h21,h34,bS,aI,bL,hor];rfl,s.ext⟩
  | exact y7 Z (.cons (.tmp rfl) (.cons (.tmp rfl) .nil)) rfl λW s=>⟨by simp only [cI,aV,h21,h34,aI,bL,hfind];rfl,s.ext⟩
theorem tW (H:Hp) (G:Gl H) (l:Str) (hl:l.length<=9223372036854775807) (w:World) (hA:Agr H w) :
 Calls prg 75 #[cH l] w λr w'=>r=.returned (.bool (fQ l))/\Ext w w':=by
 refine Sx.enter (H:=H) func75 rfl ntmps75 rfl hA ?_;refine .sr<|.aq Z<|.sq<|.sm Z<|.yw (.eqS Z Z)<|.nt<|.ce Z (λh6=>?_) (λh6=>?_)
 ·subst h6;refine .sr<|.az Z<|.tR<|?_
  refine y9 Z Z λW s=>⟨kF ?_,s.ext⟩
  first
   | (rw [fQ,show (cI l).1=1 from h1];simp [h6];omega)
   | (rw [show fQ l=false by simp [fQ,h1]])
   | (rfl)
 refine .sk<|.tN<|.sm Z<|.yw (.call OO Z (λW s=>TE H G l hl h6 W s.agr))<|.mv Z<|.yw (.extract Z Z)<|.yw (.extract Z Z)<|.a Z Z<|.a Z Z<|.ns<|.mv Z<|.yw (.eql Z Z)<|.mv Z<|.e2 (λh14=>?_) (λh14=>?_)
 ·have h1:(cI l).1=1:=aQ.1 (by show _=1;omega);refine .gy (.move Z)<|.gy (.move Z)<|.gy (.lenS iO Z)<|.gy (.eql Z Z)<|.yw (.pickT Z Z)<|.az Z<|?_
  refine y9 Z Z λW s=>⟨kF ?_,s.ext⟩
  first
   | (rw [fQ,show (cI l).1=1 from h1];simp [h6];omega)
   | (rw [show fQ l=false by simp [fQ,h1]])
   | (rfl)
 have h1:¬ (cI l).1=1:=λe=>h14 (by rw [e];rfl);refine .gG<|.gG<|.gG<|.gG<|.yw (.pickF Z Z)<|.az Z<|?_
 refine y9 Z Z λW s=>⟨kF ?_,s.ext⟩
 first
  | (rw [fQ,show (cI l).1=1 from h1];simp [h6];omega)
  | (rw [show fQ l=false by simp [fQ,h1]])
  | (rfl)
theorem cZ:kR prg 9=some none:=by kernel_rfl
theorem aC1:slN prg 71=some 1:=by kernel_rfl
theorem VQ (x0 x1 x2 x3 x4 x5 x6 x7 x8 x9 x10:ByteArray):yA prg 71 11 [(0,.string x0),(1,.string x1),(2,.string x2),(3,.string x3),(4,.string x4),(5,.string x5),(6,.string x6),(7,.string x7),(8,.string x8),(9,.string x9),(10,.string x10)]=some (9,[.string x0,.string x1,.string x2,.string x3,.string x4,.string x5,.string x6,.string x7,.string x8,.string x9,.string x10]):=by kernel_rfl
theorem fG:kR prg 2=some none:=by kernel_rfl
theorem cS:kR prg 3=some none:=by kernel_rfl
theorem OV:dI prg 39=true:=by kernel_rfl
theorem fO:dY prg 83 0=some 0:=by kernel_rfl
theorem dZ:dY prg 83 1=some 1:=by kernel_rfl
theorem eR:dY prg 83 2=some 2:=by kernel_rfl
theorem lI:UI prg 3=some Go.IntKind.i64:=by kernel_rfl
theorem VP:UI prg 74=some Go.IntKind.u8:=by kernel_rfl
theorem uS:zG prg 32=some (76,4,56):=by kernel_rfl
theorem mO:hP prg 32=some 1:=by kernel_rfl
theorem gC:hP prg 76=some 4:=by kernel_rfl
theorem jT:pT prg 76=some
 [Go.Value.int Go.IntKind.u8 (Int.ofNat 0),Go.Value.string { data:={ toList:=[] } },
  Go.Value.int Go.IntKind.i64 (Int.ofNat 0),Go.Value.slice none 0 0]:=by kernel_rfl
theorem MK (x0:Int) (x1:ByteArray) (x2:Int):iJ prg 76 [(0,.int .u8 x0),(1,.string x1),(2,.int .i64 x2)]=some [.int .u8 x0,.string x1,.int .i64 x2,.slice none 0 0]:=by kernel_rfl
theorem nE (x00 x01 x02 x03:Value):yA prg 32 1 [(0,.agg [x00,x01,x02,x03].toArray)]=some (76,[x00,x01,x02,x03]):=by kernel_rfl
theorem jI:kR prg 4=some none:=by kernel_rfl
theorem iP:kR prg 5=some none:=by kernel_rfl
theorem aL4:kR prg 240=some (some 5):=by kernel_rfl
theorem jM:dI prg 128=true:=by kernel_rfl
theorem LV:dI prg 169=true:=by kernel_rfl
theorem YF:dI prg 170=true:=by kernel_rfl
theorem MX:dY prg 240 0=some 0:=by kernel_rfl
theorem uF:dY prg 240 1=some 1:=by kernel_rfl
theorem DD:dY prg 240 2=some 2:=by kernel_rfl
theorem MW:dY prg 240 3=some 3:=by kernel_rfl
theorem mZ:dY prg 240 4=some 4:=by kernel_rfl
theorem kU:UI prg 5=some Go.IntKind.u8:=by kernel_rfl
theorem GJ:zG prg 24=some (83,4,56):=by kernel_rfl
theorem iZ:hP prg 2=some 1:=by kernel_rfl
theorem fP:hP prg 9=some 1:=by kernel_rfl
theorem tY:hP prg 24=some 1:=by kernel_rfl
theorem YC:hP prg 240=some 5:=by kernel_rfl
theorem BR:slN prg 149=some 5:=by kernel_rfl
theorem YA:pT prg 240=some
 [Go.Value.int Go.IntKind.u8 (Int.ofNat 0),Go.Value.int Go.IntKind.u8 (Int.ofNat 0),
  Go.Value.int Go.IntKind.u8 (Int.ofNat 0),Go.Value.bool false,Go.Value.int Go.IntKind.i64 (Int.ofNat 0)]:=by kernel_rfl
theorem MI (x0:Int):iJ prg 83 [(0,.int .i64 x0)]=some [.int .i64 x0,.string ⟨#[]⟩,.int .i64 0,.slice none 0 0]:=by kernel_rfl
theorem AE (x0 x2:Int):iJ prg 83 [(0,.int .i64 x0),(2,.int .i64 x2)]=some [.int .i64 x0,.string ⟨#[]⟩,.int .i64 x2,.slice none 0 0]:=by kernel_rfl
theorem sF (x00 x01 x02 x03:Value):yA prg 24 1 [(0,.agg [x00,x01,x02,x03].toArray)]=some (83,[x00,x01,x02,x03]):=by kernel_rfl
theorem bA3:zG prg 71=some (9,1,16):=by kernel_rfl
theorem YQ (x0:ByteArray):yA prg 71 1 [(0,.string x0)]=some (9,[.string x0]):=by kernel_rfl
theorem SA (x0:Int) (x3p:Option Addr) (x3n x3c:Nat):iJ prg 83 [(0,.int .i64 x0),(3,.slice x3p x3n x3c)]=some [.int .i64 x0,.string ⟨#[]⟩,.int .i64 0,.slice x3p x3n x3c]:=by kernel_rfl
theorem YT (x00 x01 x02 x03 x10 x11 x12 x13:Value):yA prg 24 2 [(0,.agg [x00,x01,x02,x03].toArray),(1,.agg [x10,x11,x12,x13].toArray)]=some (83,[x00,x01,x02,x03,x10,x11,x12,x13]):=by kernel_rfl
theorem iH:hP prg 3=some 1:=by kernel_rfl
theorem jR:kR prg 74=some none:=by kernel_rfl
theorem yR:dI prg 51=true:=by kernel_rfl
theorem yQ:dI prg 52=true:=by kernel_rfl
theorem gQ:dY prg 76 0=some 0:=by kernel_rfl
theorem fV:dY prg 76 1=some 1:=by kernel_rfl
theorem gI:dY prg 76 2=some 2:=by kernel_rfl
theorem qI:kR prg 29=some none:=by kernel_rfl
theorem GM:kR prg 99=some none:=by kernel_rfl
theorem nU:kR prg 106=some none:=by kernel_rfl
theorem HZ:kR prg 108=some (some 3):=by kernel_rfl
theorem sM:dI prg 98=true:=by kernel_rfl
theorem pH:dY prg 102 0=some 0:=by kernel_rfl
theorem gT:dY prg 102 1=some 1:=by kernel_rfl
theorem rY:dY prg 102 7=some 7:=by kernel_rfl
theorem iT:dY prg 102 8=some 8:=by kernel_rfl
theorem jF:dY prg 108 0=some 0:=by kernel_rfl
theorem kG:dY prg 108 1=some 1:=by kernel_rfl
theorem aI5:hP prg 29=some 1:=by kernel_rfl
theorem wX:hP prg 108=some 3:=by kernel_rfl
theorem aC0:slN prg 99=some 3:=by kernel_rfl
theorem wV:pT prg 108=some
 [Go.Value.int Go.IntKind.u8 (Int.ofNat 0),Go.Value.string { data:={ toList:=[] } },
  Go.Value.int Go.IntKind.i64 (Int.ofNat 0)]:=by kernel_rfl
structure Tkf (H:Hp) (l:Tks) (tp:Option Addr) (tc:Nat):Prop where
 rep:Rep H (.seq 3 (l.map (dTk .u8))) [.slice tp l.length tc]
 gd:Tgd l
 short:∀ t∈l,t.t.length<=400000
 few:l.length<=600000
 num:∀ t∈l,t.k=3->pre iX t.t=t.t.length/\¬ t.t=[]
variable {H H':Hp} {tp:Option Addr} {tc:Nat}
theorem Tkf.up {l:Tks} (h:Tkf H l tp tc) (u:Up H H'):Tkf H' l tp tc:=⟨h.rep.up u,h.gd,h.short,h.few,h.num⟩
variable {i:Nat}
theorem WI {l:Tks} (h:i<l.length):l[i]=tkf l i:=by unfold tkf;rw [List.getD_eq_getElem?_getD,List.getElem?_eq_getElem h];rfl
theorem PL {l:Tks} (h:i<l.length):tkf l i∈l:=by rw [<-WI h];exact bU h
variable {q:Rq}
theorem gN {l:Tks} (K:Tkf H l tp tc) (hq:q.i<l.length):(q.nmV l).length<=400000:=by
 unfold Rq.nmV
 split
 ·exact K.short _ (PL hq)
 ·exact aO _
theorem XP (a b c:Value):∀ W,(Instr.field 108 (.agg [a,b,c].toArray) 0).run prg W=.ok a W:=λ_=>by kernel_rfl
theorem bR2 (a b c:Value):∀ W,(Instr.field 108 (.agg [a,b,c].toArray) 2).run prg W=.ok c W:=λ_=>by kernel_rfl
theorem k8 {k:UInt8} {m:Nat} (hm:m<256):decide (((k.toNat:Nat):Int)=(m:Int))=decide (k=UInt8.ofNat m):=by
 rw [bH,aD,aD]
 constructor
 ·intro e;exact aQ.1 (by rw [dW hm];omega)
 ·intro e;rw [e,dW hm]
theorem k80 {k:UInt8} :decide (((k.toNat:Nat):Int)=0)=decide (k=0):=k8 (m:=0) (by decide)
theorem k81 {k:UInt8} :decide (((k.toNat:Nat):Int)=1)=decide (k=1):=k8 (m:=1) (by decide)
theorem k82 {k:UInt8} :decide (((k.toNat:Nat):Int)=2)=decide (k=2):=k8 (m:=2) (by decide)
theorem k84 {k:UInt8} :decide (((k.toNat:Nat):Int)=4)=decide (k=4):=k8 (m:=4) (by decide)
variable {n:Nat}
theorem er0:decide (((n:Nat):Int)=0)=decide (n=0):=by rw [bH,aD,aD];omega
variable {w0 W:World} {bs:List Res} {ro rv:Value} {bd:Bool}
theorem xI {b:Nat} {l:Tks} {rd dn:Bool} (K:Tkf H l tp tc) (hq:q.i<l.length) (s:St H w0 (.box b [.slice tp l.length tc,iN q.i,ro,rv,.bool rd,.bool dn,.bool bd,iN q.off,iN q.er] 102::bs) W) :
 Calls prg 98 #[.pointer (some ⟨b,0,none⟩)] W λe W'=>∃ _:Unit,(True)/\e=.returned (.agg (cTk .u8 (tkf l q.i)).toArray)/\St H w0 (.box b [.slice tp l.length tc,iN q.i,ro,rv,.bool rd,.bool dn,.bool bd,iN q.off,iN q.er] 102::bs) W':=by
 have hcap:=K.rep.cap;obtain ⟨bE,oE,cE,hpE,rE,lE,mE⟩:=K.rep.elem (kN (f:=dTk .u8) hq);cases hpE;rw [WI hq] at rE;obtain ⟨rfl,_⟩:=PN rE;refine kC func98 rfl ntmps98 rfl s ?_;refine .sr<|.al wV Z λb2=>.nt<|.sq<|.fL 10 [(0,0),(1,0),(2,0),(3,0),(4,0),(5,0),(6,0),(7,0),(8,0),(9,0)]<|.mv Z<|.nC Z<|.fA Z pH<|.lD Z GM cP Z<|.mv Z<|.nC Z<|.fA Z gT<|.lD Z cS cP Z<|.yw (.indexSl aC0 Z Z Z (by omega) (q:=oE+q.i * 3) Z)<|.yw (.loadMW Z HZ mE Z)<|.fn (tl:=[_]) Z<|.sW .head Z Z wX (by simp [cTk,Value.oneCell',cH]) Z<|.nt<|.rt<|?_
 refine y8 Z (.cell Z HZ Hm rfl) λW s=>?_;exact ⟨(),Jt,Z,s.p2_1 [1] rfl⟩
theorem qD {b:Nat} {l:Tks} {rd dn:Bool} (K:Tkf H l tp tc) (hq:q.i<l.length) (c:Nat) (s:St H w0 (.box b [.slice tp l.length tc,iN q.i,ro,rv,.bool rd,.bool dn,.bool bd,iN q.off,iN q.er] 102::bs) W) :
 Calls prg 104 #[.pointer (some ⟨b,0,none⟩),iN c] W λe W'=>∃ _:Unit,(True)/\e=.returned (.tuple #[])/\St H w0 (.box b [.slice tp l.length tc,iN ((q.fail l c).i),ro,rv,.bool rd,.bool dn,.bool bd,iN ((q.fail l c).off),iN ((q.fail l c).er)] 102::bs) W':=by
 refine kC func104 rfl ntmps104 rfl s ?_;refine .sm Z<|.nC Z<|.fA Z iT<|.lD Z qI Hm Z<|.yw (.eql Z Z)<|.nt<|.ce Z (λh8=>?_) (λh8=>?_)
 ·have h0:q.er=0:=by omega
  have e1:q.fail l c=⟨q.i,(tkf l q.i).o,c⟩:=by unfold Rq.fail;rw [aL h0]
  rw [e1];refine .rg<|.mv Z<|.mv Z<|.mv Z<|.mv Z<|.cs (X:=Unit) sM Z (λW s=>xI K hq  (s.p1_1 [0] Z)) Z λ_ _=>.yw (.fld Z (bR2 _ _ _))<|.nC Z<|.fA Z iT<|.st .head Z Z aI5 Z (nb Z) Z<|.nC Z<|.fA Z rY<|.st .head Z Z iH Z (nb Z) Z<|.nl<|?_
  refine jA (.inr Z) rfl .nil rfl λW s=>⟨(),Jt,Z,?_⟩;exact s.p1_1 [0] rfl
 have h0:¬ q.er=0:=by omega
 have e1:q.fail l c=q:=by unfold Rq.fail;rw [aG h0]
 rw [e1];refine .sk<|?_
 refine jA (.inr Z) rfl .nil rfl λW s=>⟨(),Jt,Z,?_⟩;exact s.p1_1 [0] rfl
theorem DW {b:Nat} {l:Tks} {rd dn:Bool} (K:Tkf H l tp tc) (hq:q.i<l.length) (w:Str) (s:St H w0 (.box b [.slice tp l.length tc,iN q.i,ro,rv,.bool rd,.bool dn,.bool bd,iN q.off,iN q.er] 102::bs) W) :
 Calls prg 100 #[.pointer (some ⟨b,0,none⟩),cH w] W λe W'=>∃ _:Unit,(True)/\e=.returned (.bool (q.is l w))/\St H w0 (.box b [.slice tp l.length tc,iN q.i,ro,rv,.bool rd,.bool dn,.bool bd,iN q.off,iN q.er] 102::bs) W':=by
 refine kC func100 rfl ntmps100 rfl s ?_;refine .sr<|.a Z Z<|.ns<|.mv Z<|.cs (X:=Unit) sM Z (λW s=>xI K hq  (s.p1_1 [0] Z)) Z λ_ _=>.al wV Z λb5=>.sW .head Z Z wX (by simp [cTk,Value.oneCell',cH]) Z<|.ns<|.fA Z jF<|.lD Z nU Hm Z<|.yw (.eql Z Z)<|.mv Z<|.b2 (λh11=>?_) (λh11=>?_)
 ·refine .gG<|.gG<|.gG<|.yw (.pickT Z Z)<|.mv Z<|.gy (.fieldAddr Z kG)<|.gy (.load Z cZ Hm Z)<|.gy (.move Z)<|.gy (.eqS Z Z)<|.yw (.pickT Z Z)<|.az Z<|?_
  refine y9 Z Z λW s=>?_
  first
   | (exact ⟨(),Jt,(by unfold Rq.is;rw [<-k82,<-k84,h11,h16];first | rfl | (rw [aA]) | (rw [Bool.or_true,aA])),s.p2_1 [1] rfl⟩)
   | (exact ⟨(),Jt,(by unfold Rq.is;rw [<-k82,<-k84,h11];first | rfl | (rw [aA]) | (rw [Bool.or_true,aA])),s.p2_1 [1] rfl⟩)
   | (exact ⟨(),Jt,(by unfold Rq.is;rw [<-k82,<-k84,h16];first | rfl | (rw [aA]) | (rw [Bool.or_true,aA])),s.p2_1 [1] rfl⟩)
 refine .gy (.fieldAddr Z jF)<|.gy (.load Z nU Hm Z)<|.gy (.eql Z Z)<|.yw (.pickF Z Z)<|.mv Z<|.b2 (λh16=>?_) (λh16=>?_)
 ·refine .gy (.fieldAddr Z kG)<|.gy (.load Z cZ Hm Z)<|.gy (.move Z)<|.gy (.eqS Z Z)<|.yw (.pickT Z Z)<|.az Z<|?_
  refine y9 Z Z λW s=>?_
  first
   | (exact ⟨(),Jt,(by unfold Rq.is;rw [<-k82,<-k84,h11,h16];first | rfl | (rw [aA]) | (rw [Bool.or_true,aA])),s.p2_1 [1] rfl⟩)
   | (exact ⟨(),Jt,(by unfold Rq.is;rw [<-k82,<-k84,h11];first | rfl | (rw [aA]) | (rw [Bool.or_true,aA])),s.p2_1 [1] rfl⟩)
   | (exact ⟨(),Jt,(by unfold Rq.is;rw [<-k82,<-k84,h16];first | rfl | (rw [aA]) | (rw [Bool.or_true,aA])),s.p2_1 [1] rfl⟩)
 refine .gG<|.gG<|.gG<|.gG<|.yw (.pickF Z Z)<|.az Z<|?_
 refine y9 Z Z λW s=>?_
 first
  | (exact ⟨(),Jt,(by unfold Rq.is;rw [<-k82,<-k84,h11,h16];first | rfl | (rw [aA]) | (rw [Bool.or_true,aA])),s.p2_1 [1] rfl⟩)
  | (exact ⟨(),Jt,(by unfold Rq.is;rw [<-k82,<-k84,h11];first | rfl | (rw [aA]) | (rw [Bool.or_true,aA])),s.p2_1 [1] rfl⟩)
  | (exact ⟨(),Jt,(by unfold Rq.is;rw [<-k82,<-k84,h16];first | rfl | (rw [aA]) | (rw [Bool.or_true,aA])),s.p2_1 [1] rfl⟩)
theorem jN:dI prg 100=true:=by kernel_rfl
theorem iR:dI prg 104=true:=by kernel_rfl
theorem dH:dI prg 107=true:=by kernel_rfl
theorem eI {b:Nat} {l:Tks} {rd dn:Bool} (K:Tkf H l tp tc) (hq:q.i<l.length) (w:Str) (s:St H w0 (.box b [.slice tp l.length tc,iN q.i,ro,rv,.bool rd,.bool dn,.bool bd,iN q.off,iN q.er] 102::bs) W) :
 Calls prg 107 #[.pointer (some ⟨b,0,none⟩),cH w] W λe W'=>∃ _:Unit,(True)/\e=.returned (.bool (q.ac l w))/\St H w0 (.box b [.slice tp l.length tc,iN ((q.acS l w).i),ro,rv,.bool rd,.bool dn,.bool bd,iN ((q.acS l w).off),iN ((q.acS l w).er)] 102::bs) W':=by
 have hcap:=K.rep.cap;refine kC func107 rfl ntmps107 rfl s ?_;refine .sr<|.aq Z<|.sq<|.sm Z<|.nC Z<|.fA Z iT<|.lD Z qI Hm Z<|.yw (.neq Z Z)<|.mv Z<|.b2 (λh10=>?_) (λh10=>?_)
 ·have h0:¬ q.er=0:=by have:=aH h10;omega
  have e3:q.ac l w=false:=aB9 h0;have e1:q.acS l w=q:=by unfold Rq.acS;rw [aG (by rw [e3];decide)]
  rw [e1];refine .gG<|.gG<|.gG<|.gG<|.yw (.pickT Z Z)<|.nt<|.cT Z<|.sr<|.az Z<|.tR<|?_
  refine y9 Z Z λW s=>?_;exact ⟨(),Jt,(by rw [e3]),s.p1_1 [0] rfl⟩
 have h0:q.er=0:=by have:=aN h10;omega
 have ea:q.ac l w=q.is l w:=(DX h0).symm;refine .gy (.move Z)<|.gy (.move Z)<|.gd Z Z<|.cs (X:=Unit) jN Z (λW s=>DW K hq w (s.p1_1 [0] Z)) Z λ_ _=>.gy (.not Z)<|.yw (.pickF Z Z)<|.nt<|.cd Z (λh15=>?_) (λh15=>?_)
 ·have e3:q.ac l w=false:=by rw [ea];simpa using h15
  have e1:q.acS l w=q:=by unfold Rq.acS;rw [aG (by rw [e3];decide)]
  rw [e1];refine .sr<|.az Z<|.tR<|?_
  refine y9 Z Z λW s=>?_;exact ⟨(),Jt,(by rw [e3]),s.p1_1 [0] rfl⟩
 have e3:q.ac l w=true:=by rw [ea];simpa using h15
 have e1:q.acS l w=q.nx:=by unfold Rq.acS;rw [aL e3]
 rw [e1];have hi:=dC K.gd.last hq e3;have hi2:q.nx.i=q.i+1:=rfl;refine .sk<|.tN<|.sm Z<|.nC Z<|.fA Z gT<|.lD Z cS Hm Z<|.yw (.add Z Z (c:=((q.nx.i:Nat):Int)) ((w6 (by omega)).trans (by show _=((q.i+1:Nat):Int);omega)))<|.nC Z<|.fA Z gT<|.st .head Z Z iH Z (nb Z) Z<|.ns<|.az Z<|?_
 refine y9 Z Z λW s=>?_;exact ⟨(),Jt,(by rw [e3]),s.p1_1 [0] rfl⟩
variable {w:Str}
theorem kO {l:Tks} (h:q.ac l w=true):q.acS l w=q.nx:=by unfold Rq.acS;rw [aL h]
theorem kT {l:Tks} (h:q.ac l w=false):q.acS l w=q:=by unfold Rq.acS;rw [aG (by rw [h];decide)]
theorem rU {b:Nat} {l:Tks} {rd dn:Bool} (K:Tkf H l tp tc) (hq:q.i<l.length) (w:Str) (s:St H w0 (.box b [.slice tp l.length tc,iN q.i,ro,rv,.bool rd,.bool dn,.bool bd,iN q.off,iN q.er] 102::bs) W) :
 Calls prg 114 #[.pointer (some ⟨b,0,none⟩),cH w] W λe W'=>∃ _:Unit,(True)/\e=.returned (.tuple #[])/\St H w0 (.box b [.slice tp l.length tc,iN ((q.exS l w).i),ro,rv,.bool rd,.bool dn,.bool bd,iN ((q.exS l w).off),iN ((q.exS l w).er)] 102::bs) W':=by
 refine kC func114 rfl ntmps114 rfl s ?_;refine .sm Z<|.mv Z<|.cs (X:=Unit) dH Z (λW s=>eI K hq w (s.p1_1 [0] Z)) Z λ_ _=>.yw (.not Z)<|.nt<|.cd Z (λh7=>?_) (λh7=>?_)
 ·have hb:q.ac l w=false:=by simpa using h7
  have e1:q.exS l w=q.fail l 8:=NZ hb;rw [kT hb,e1];refine .rg<|.mv Z<|.cs (X:=Unit) iR Z (λW s=>qD K hq 8 (s.p1_1 [0] Z)) Z λ_ _=>.nl<|?_
  refine jA (.inr Z) rfl .nil rfl λW s=>⟨(),Jt,Z,?_⟩;exact s.p1_1 [0] rfl
 have hb:q.ac l w=true:=by simpa using h7
 have e1:q.exS l w=q.nx:=OB hb;rw [kO hb,e1];refine .sk<|?_
 refine jA (.inr Z) rfl .nil rfl λW s=>⟨(),Jt,Z,?_⟩;exact s.p1_1 [0] rfl
theorem DT {b:Nat} {l:Tks} {rd dn:Bool} (K:Tkf H l tp tc) (hq:q.i<l.length) (s:St H w0 (.box b [.slice tp l.length tc,iN q.i,ro,rv,.bool rd,.bool dn,.bool bd,iN q.off,iN q.er] 102::bs) W) :
 Calls prg 113 #[.pointer (some ⟨b,0,none⟩)] W λe W'=>∃ _:Unit,(True)/\e=.returned (cH (q.nmV l))/\St H w0 (.box b [.slice tp l.length tc,iN ((q.nmS l).i),ro,rv,.bool rd,.bool dn,.bool bd,iN ((q.nmS l).off),iN ((q.nmS l).er)] 102::bs) W':=by
 have hcap:=K.rep.cap;refine kC func113 rfl ntmps113 rfl s ?_;refine .sr<|.aq Z<|.sq<|.sm Z<|.nC Z<|.fA Z iT<|.lD Z qI Hm Z<|.yw (.neq Z Z)<|.mv Z<|.e2 (λh8=>?_) (λh8=>?_)
 ·have hbad:¬ q.nmK l=true:=λe=>by have:=(QT e).1;omega
  have e1:q.nmS l=q.fail l 8:=by unfold Rq.nmS;rw [aG hbad]
  have e2:q.nmV l=[]:=by unfold Rq.nmV;rw [aG hbad]
  rw [e1,e2];refine .gG<|.gG<|.gG<|.gG<|.yw (.pickT Z Z)<|.nt<|.cT Z<|.sm Z<|.cs (X:=Unit) iR Z (λW s=>qD K hq 8 (s.p1_1 [0] Z)) Z λ_ _=>.ns<|.az Z<|.tR<|?_
  refine y9 Z Z λW s=>?_;exact ⟨(),Jt,Z,s.p1_1 [0] rfl⟩
 have h0:q.er=0:=by omega
 refine .gy (.move Z)<|.gd Z Z<|.cs (X:=Unit) sM Z (λW s=>xI K hq  (s.p1_1 [0] Z)) Z λ_ _=>.gy (.fld Z (XP _ _ _))<|.gy (.neq Z Z)<|.yw (.pickF Z Z)<|.nt<|.ce Z (λh13=>?_) (λh13=>?_)
 ·have hbad:¬ q.nmK l=true:=λe=>by have:=(QT e).2;simp [this] at h13
  have e1:q.nmS l=q.fail l 8:=by unfold Rq.nmS;rw [aG hbad]
  have e2:q.nmV l=[]:=by unfold Rq.nmV;rw [aG hbad]
  rw [e1,e2];refine .sm Z<|.cs (X:=Unit) iR Z (λW s=>qD K hq 8 (s.p1_1 [0] Z)) Z λ_ _=>.ns<|.az Z<|.tR<|?_
  refine y9 Z Z λW s=>?_;exact ⟨(),Jt,Z,s.p1_1 [0] rfl⟩
 have hk:(tkf l q.i).k=1:=aQ.1 (by show (tkf l q.i).k.toNat=1;omega);have hok:q.nmK l=true:=by unfold Rq.nmK;rw [aR h0,aR hk];rfl
 have e1:q.nmS l=q.nx:=by unfold Rq.nmS;rw [aL hok]
 have e2:q.nmV l=(tkf l q.i).t:=by unfold Rq.nmV;rw [aL hok]
 rw [e1,e2];have hi:=WA K.gd.last hq hok;have hi2:q.nx.i=q.i+1:=rfl;obtain ⟨bE,oE,cE,hpE,rE,lE,mE⟩:=K.rep.elem (kN (f:=dTk .u8) hq);cases hpE;rw [WI hq] at rE;obtain ⟨rfl,_⟩:=PN rE;refine .sk<|.tN<|.sm Z<|.nC Z<|.fA Z gT<|.lD Z cS Hm Z<|.yw (.add Z Z (c:=((q.nx.i:Nat):Int)) ((w6 (by omega)).trans (by show _=((q.i+1:Nat):Int);omega)))<|.nC Z<|.fA Z gT<|.st .head Z Z iH Z (nb Z) Z<|.nt<|.sq<|.fL 12 [(0,0),(1,0),(2,0),(3,0),(4,0),(5,0),(6,0),(7,0),(8,0),(9,0),(10,0),(11,0)]<|.mv Z<|.nC Z<|.fA Z pH<|.lD Z GM Hm Z<|.mv Z<|.nC Z<|.fA Z gT<|.lD Z cS Hm Z<|.yw (.sub Z Z (c:=((q.i:Nat):Int)) ((w6 (by omega)).trans (by omega)))<|.yw (.indexSl aC0 Z Z Z (by omega) (q:=oE+q.i * 3) Z)<|.fA Z kG<|.yw (.loadM Z cZ mE (k:=1) Z Z)<|.fn (tl:=[_]) Z<|.az Z<|?_
 refine y9 Z Z λW s=>?_;exact ⟨(),Jt,Z,s.p1_1 [0] rfl⟩
end Go.Proofs.YtidclioghdbphaaGreatDoor
namespace Go.Plain
open Go.Lib

theorem digits_more (x:Nat) (h:¬ x<10):decDigits x=decDigits (x / 10)++[UInt8.ofNat (48+x % 10)]:=by
 rw [decDigits,MN h]
theorem digit_nat (d:Nat) (h:d<10):(UInt8.ofNat (48+d)).toNat=48+d:=by
 rw [mC];omega
theorem digits_are:∀ (u:Nat) (c:UInt8),c∈decDigits u->48<=c.toNat/\c.toNat<=57:=by
 intro u;induction u using Nat.strongRecOn with
 | _ u ih =>
  intro c hc
  by_cases h:u<10
  ·rw [decDigits_one h] at hc;obtain rfl:=bQ.1 hc;rw [digit_nat u h];omega
  ·rw [digits_more u h] at hc;rcases cC.1 hc with hc | hc
   ·exact ih (u / 10) (by omega) c hc
   ·obtain rfl:=bQ.1 hc;rw [digit_nat (u % 10) (by omega)];omega
end Go.Plain
namespace Go.Proofs.YtidclioghdbphaaGreatDoor
abbrev Kt:=UInt8 × Str
def kt (t:Tk):Kt:=(t.k,t.t)
def isK (w:Str) (x:Kt):Bool:=(x.1 == 2 || x.1 == 4) && decide (x.2=w)
def opK (lv:Nat) (x:Kt):Option UInt8:=((bO0 lv).find? λy=>isK y.1 x).map (·.2)
theorem fH (w:Str) (t:Tk) (r:List Tk):isT w (t::r)=isK w (kt t):=rfl
theorem aE8 (lv:Nat) (t:Tk) (r:List Tk):opAt lv (t::r)=opK lv (kt t):=rfl
def CR (n lv:Nat) (l:List Kt):List Kt:=if lv<n then (4,[40])::(l++[(4,[41])]) else l
def DP (op:UInt8):Kt:=(if op=22\/op=23 then 2 else 4,((eF op).tx.drop 1).dropLast)
def ktx (op:UInt8) (nm:Str) (n:Int64) (ls:List (Nat × List Kt)):List Kt :=
 if op=1 then [(3,Lib.itoa n.toInt)]
 else if op=5 then [(1,nm)]
 else if op=8 then [(2,[115,105,122,101]),(1,nm)]
 else if op=6 then (1,nm)::(4,[91])::((ls.getD 0 (0,[])).2++[(4,[93])])
 else if op=7 then (2,[104,97,115])::(1,nm)::(4,[91])::((ls.getD 0 (0,[])).2++[(4,[93])])
 else if op=9 then (4,[45])::CR 6 (ls.getD 0 (0,[])).1 (ls.getD 0 (0,[])).2
 else if op=10 then (2,[110,111,116])::CR 6 (ls.getD 0 (0,[])).1 (ls.getD 0 (0,[])).2
 else if (eF op).n=0 then [(2,(eF op).tx)]
 else CR (XF (eF op).lv) (ls.getD 0 (0,[])).1 (ls.getD 0 (0,[])).2++DP op::CR ((eF op).lv+1) (ls.getD 1 (0,[])).1 (ls.getD 1 (0,[])).2
mutual
def ktE:Ex->List Kt
 | .mk op nm n args=>ktx op nm n (bV1 args)
def bV1:List Ex->List (Nat × List Kt)
 | []=>[]
 | e::r=>((eF e.op).lv,ktE e)::bV1 r
end
def Ex.lv (e:Ex):Nat:=(eF e.op).lv
def Stp (j:Nat) (r:List Tk):Prop:=(∀ i,j<=i->i<=4->opAt i r=none)/\isT [91] r=false
variable {i j:Nat}
theorem Stp.up {r:List Tk} (h:Stp i r) (hij:i<=j):Stp j r:=⟨λk h1 h2=>h.1 k (by omega) h2,h.2⟩
theorem Stp.of {t:Tk} {r:List Tk} (h:∀ i∈List.range 5,j<=i->opK i (kt t)=none) (h2:isK [91] (kt t)=false):Stp j (t::r) :=
 ⟨λi h1 h3=>h i (bY.2 (by omega)) h1,h2⟩
theorem TK {l:List Tk} {a:Ex} {r:List Tk}:∀ (d lv j:Nat),j=lv+1+d->j<=5->pX j l=.ok a r->Stp (lv+1) r->pX lv l=pL lv a r
 | 0,lv,j,e,hj,h,_=>by
  rw [QM (by omega),show lv+1=j by omega,h];rfl
 | d+1,lv,j,e,hj,h,hs=>by
  have:=TK d (lv+1) j (by omega) hj h (hs.up (by omega));rw [QM (by omega),this,BW (hs.1 _ (aX _) (by omega))];rfl
def Rd (e:Ex):Prop:=∀ le r,le.map kt=ktE e->(∀ lv,lv<=4->lv+1<=e.lv->Stp (lv+1) r->pX lv (le++r)=if lv=2/\e.lv=3 then .ok e r else pL lv e r)/\(6<=e.lv->isT [91] r=false->pX 5 (le++r)=.ok e r)
theorem Rd.full {e:Ex} (h:Rd e) {le r:List Tk} (hk:le.map kt=ktE e) {lv:Nat} (h5:lv<=5) (hl:lv+1<=e.lv) (hs:Stp lv r):pX lv (le++r)=.ok e r:=by
 by_cases e5:lv=5
 ·subst e5;exact (h le r hk).2 hl hs.2
 ·rw [(h le r hk).1 lv (by omega) hl (hs.up (by omega)),BW (hs.1 lv (aX _) (by omega))]
  split <;> rfl
theorem Rd.of {e:Ex} (h6:6<=e.lv) (h:∀ le r,le.map kt=ktE e->isT [91] r=false->pX 5 (le++r)=.ok e r):Rd e:=λle r hk=>by
 refine ⟨λlv hl h1 hs=>?_,λ_=>h le r hk⟩;rw [aG (by omega)];exact TK (4 - lv) lv 5 (by omega) (by omega) (h le r hk hs.2) hs
theorem Rd.par {e:Ex} (h:Rd e) (h1:1<=e.lv) {le r:List Tk} (hk:le.map kt=(4,[40])::(ktE e++[(4,[41])])):pX 5 (le++r)=.ok e r:=by
 obtain ⟨t,l1,rfl,ht,hk⟩:=cL.1 hk;obtain ⟨l2,l3,rfl,h2,h3⟩:=hO.1 hk;obtain ⟨t2,l4,rfl,ht2,h4⟩:=cL.1 h3;obtain rfl:=eZ.1 h4;simp only [aT,aZ,bW];have hf:=h.full h2 (r:=t2::r) (lv:=0) (by omega) h1 (.of (by rw [ht2];decide) (by rw [ht2];decide));rw [CW,fH,fH,ht,aG (by decide),aG (by decide),qZ];have hk0:t.k=4:=congrArg Prod.fst ht;simp only [fH,ht];rw [aG (by rw [hk0];decide),aG (by decide),aG (by decide),aG (by decide),aG (by decide),aL (by decide),hf];show sK [41] (t2::r) _=_;rw [sK,fH,ht2,aL (by decide)]
 rfl
variable {n:Nat}
theorem Rd.opnd {e:Ex} (h:Rd e) (h1:1<=e.lv) {le r:List Tk} (hk:le.map kt=CR n e.lv (ktE e)) (hn:n<=6) (h0:0<n) (hs:Stp (n - 1) r):pX (n - 1) (le++r)=.ok e r:=by
 unfold CR at hk
 split at hk
 ·have hp:=h.par h1 hk (r:=r)
  by_cases e5:n=6
  ·subst e5;exact hp
  ·rw [TK (5 - n) (n - 1) 5 (by omega) (by omega) hp (hs.up (by omega)),BW (hs.1 _ (aX _) (by omega))]
 ·exact h.full hk (by omega) (by omega) hs
theorem Rd.left {e:Ex} (h:Rd e) (h1:1<=e.lv) {lv:Nat} {le r:List Tk} (hk:le.map kt=CR (lv+1) e.lv (ktE e)) (hn:lv<=4) (h2:lv≠2) (hs:Stp (lv+1) r):pX lv (le++r)=pL lv e r:=by
 unfold CR at hk
 split at hk
 ·exact TK (4 - lv) lv 5 (by omega) (by omega) (h.par h1 hk (r:=r)) hs
 ·rw [(h le r hk).1 lv hn (by omega) hs,aG (by omega)]
theorem xM (u:Nat):nY (Lib.decDigits u)=u:=by
 induction u using Nat.strongRecOn with
 | _ u ih =>
  by_cases h:u<10
  ·rw [Lib.decDigits_one h];simp only [nY,sH,xS,Plain.digit_nat u h];omega
  ·rw [Plain.digits_more u h];have:=ih (u / 10) (by omega);unfold nY at this|-;rw [mW,this];simp only [sH,xS,Plain.digit_nat (u % 10) (by omega)];omega
theorem aF2 {n:Int} (h:0<=n):nY (Lib.itoa n)=n.toNat:=by
 unfold Lib.itoa;rw [aG (by omega),xM]
theorem FG {op:UInt8} (h:QP op=true):op∈([1,2,3,4,5,6,7,8,9,10,11,12,13,14,15,16,17,18,19,20,21,22,23]:List UInt8):=by
 simp only [QP,aE,aD] at h;have key:∀ i∈List.range 24,1<=i->UInt8.ofNat i∈([1,2,3,4,5,6,7,8,9,10,11,12,13,14,15,16,17,18,19,20,21,22,23]:List UInt8):=by decide
 have:=key op.toNat (bY.2 (by omega)) h.1
 rwa [hI] at this
theorem KR {op:UInt8} (h:QP op=true):op=1\/op∈([11,12,13,14,15,16,17,18,19,20,21,22,23]:List UInt8)\/(op=2\/op=3\/op=4\/op=5\/op=6\/op=7\/op=8\/op=9\/op=10):=by
 have key:∀ o∈([1,2,3,4,5,6,7,8,9,10,11,12,13,14,15,16,17,18,19,20,21,22,23]:List UInt8),o=1\/o∈([11,12,13,14,15,16,17,18,19,20,21,22,23]:List UInt8)\/(o=2\/o=3\/o=4\/o=5\/o=6\/o=7\/o=8\/o=9\/o=10):=by decide
 exact key op (FG h)
theorem bU7 {op:UInt8} (h:QP op=true):1<=(eF op).lv:=by
 have key:∀ o∈([1,2,3,4,5,6,7,8,9,10,11,12,13,14,15,16,17,18,19,20,21,22,23]:List UInt8),1<=(eF o).lv:=by decide
 exact key op (FG h)
theorem args0 {l:List Ex} (h:l.length=0):l=[]:=bI h
theorem gZ {l:List Ex} (h:l.length=1):∃ a,l=[a]:=List.length_eq_one_iff.1 h
theorem oD {l:List Ex} (h:l.length=2):∃ a b,l=[a,b]:=by
 match l,h with
 | [a,b],_=>exact ⟨a,b,Z⟩
theorem UJ {n:Int64} (h:n.toInt=0):n=0:=dQ.1 (by rw [h];rfl)
def binOp (op:UInt8):Bool:=decide (11<=op.toNat) && decide (op.toNat<=23)
theorem yO:∀ op∈([11,12,13,14,15,16,17,18,19,20,21,22,23]:List UInt8),(eF op).n=2/\(eF op).nm=false/\1<=(eF op).lv/\(eF op).lv<=5/\opK ((eF op).lv - 1) (DP op)=some op/\isK [91] (DP op)=false /\
 (∀ i∈List.range 5,(eF op).lv<=i->opK i (DP op)=none)/\¬ op=1/\¬ op=5/\¬ op=8/\¬ op=6/\¬ op=7/\¬ op=9/\¬ op=10:=by decide
theorem RD {op:UInt8} (h:op∈([11,12,13,14,15,16,17,18,19,20,21,22,23]:List UInt8)) (nm:Str) (n:Int64) (a b:Ex) :
 ktE (.mk op nm n [a,b])=CR (XF (eF op).lv) a.lv (ktE a)++DP op::CR ((eF op).lv+1) b.lv (ktE b):=by
 obtain ⟨h1,_,_,_,_,_,_,g1,g2,g3,g4,g5,g6,g7⟩:=yO op h;rw [ktE,ktx,aG g1,aG g2,aG g3,aG g4,aG g5,aG g6,aG g7,aG (by omega)]
 rfl
theorem bN5 {op:UInt8} (h:op∈([11,12,13,14,15,16,17,18,19,20,21,22,23]:List UInt8)) {a b:Ex} (ha:Rd a) (hb:Rd b) (ha1:1<=a.lv) (hb1:1<=b.lv):Rd (opE op [a,b]):=by
 intro le r hk;obtain ⟨_,_,h3,h4,h5,h6,h7,_⟩:=yO op h;have hlv:(opE op [a,b]).lv=(eF op).lv:=rfl;rw [hlv];rw [show opE op [a,b]=.mk op [] 0 [a,b] from rfl,RD h] at hk;obtain ⟨la,l1,rfl,hla,hk⟩:=hO.1 hk;obtain ⟨t,lb,rfl,ht,hlb⟩:=cL.1 hk;generalize hL:(eF op).lv=L at *;refine ⟨?_,λh8=>absurd h8 (by omega)⟩;have hst:∀ q,Stp L (t::q):=λq=>.of (by rw [ht];exact h7) (by rw [ht];exact h6)
 -- at its own level
 have own:Stp L r->pX (L - 1) (la++t::lb++r)=if L - 1=2 then .ok (opE op [a,b]) r else pL (L - 1) (opE op [a,b]) r:=by
  intro hs;have hopt:∀ q,opAt (L - 1) (t::q)=some op:=λq=>by rw [aE8,ht];exact h5
  have hB:pX L (lb++r)=.ok b r:=by
   have:=hb.opnd hb1 (n:=L+1) hlb (by omega) (by omega) (r:=r) (by simpa using hs);simpa using this
  have hA:pX (L - 1) (la++(t::lb++r))=pL (L - 1) a (t::lb++r):=by
   by_cases h2:L=3
   ·subst h2;have:=ha.opnd ha1 (n:=4) (r:=t::lb++r) hla (by omega) (by omega) (hst _);rw [QM (by omega)];show (pX 3 _).bind _=_;rw [show (4:Nat) - 1=3 from rfl] at this;rw [this];rfl
   ·have e:XF L=L - 1+1:=by unfold XF;rw [aG h2];omega
    rw [e] at hla;exact ha.left ha1 hla (by omega) (by omega) (by rw [show L - 1+1=L by omega];exact hst _)
  rw [aZ,hA,aT,ZH (by omega) (hopt _)];show (pX (L - 1+1) (lb++r)).bind _=_;rw [show L - 1+1=L by omega,hB]
  rfl
 intro lv hl4 hl hs
 by_cases e:lv=L - 1
 ·subst e;rw [show L - 1+1=L by omega] at hs;rw [own hs];exact ifI (by omega)
 ·rw [aG (by omega)];refine TK (L - 2 - lv) lv (L - 1) (by omega) (by omega) ?_ hs;rw [own (hs.up (by omega)),BW (hs.1 _ (by omega) (by omega))]
  split <;> rfl
theorem RB {op:UInt8} {nm:Str} {n:Int64} {args:List Ex} {x:Kt} (h:ktE (.mk op nm n args)=[x]) {le:List Tk} (hk:le.map kt=ktE (.mk op nm n args)):∃ t,le=[t]/\kt t=x:=by
 rw [h] at hk;obtain ⟨t,l,rfl,ht,hl⟩:=cL.1 hk;obtain rfl:=eZ.1 hl;exact ⟨t,Z,ht⟩
theorem bK7 {op:UInt8} {a:Ex} (ha:Rd a) (h1:1<=a.lv) (hop:op=9\/op=10):Rd (opE op [a]):=by
 refine .of (by rcases hop with rfl | rfl <;> exact (by decide:6<=6)) λle r hk h91=>?_
 have key:∃ t l,le=t::l/\kt t=(if op=9 then (4,[45]) else (2,[110,111,116]))/\l.map kt=CR 6 a.lv (ktE a):=by
  rcases hop with rfl | rfl
  ·obtain ⟨t,l,rfl,ht,hl⟩:=cL.1 (show le.map kt=(4,[45])::CR 6 a.lv (ktE a) from hk);exact ⟨t,l,Z,ht,hl⟩
  ·obtain ⟨t,l,rfl,ht,hl⟩:=cL.1 (show le.map kt=(2,[110,111,116])::CR 6 a.lv (ktE a) from hk);exact ⟨t,l,Z,ht,hl⟩
 obtain ⟨t,l,rfl,ht,hl⟩:=key;have hA:pX 5 (l++r)=.ok a r:=ha.opnd h1 (n:=6) hl (by omega) (by omega) ⟨λi h1 h2=>by omega,h91⟩;rw [aT,CW];rcases hop with rfl | rfl
 ·rw [fH,ht,aL (by decide)];show (pX 5 (l++r)).bind _=_;rw [hA];rfl
 ·rw [fH,fH,ht,aG (by decide),aL (by decide)];show (pX 5 (l++r)).bind _=_;rw [hA];rfl
theorem aP4 {a:Ex} (ha:Rd a) (h1:1<=a.lv) {l r:List Tk} (hl:l.map kt=(4,[91])::(ktE a++[(4,[93])])):isT [91] (l++r)=true/\∀ (g:Ex->List Tk->Rs Ex),((pX 0 (l++r).tail).bind λx r4=>sK [93] r4 λr5=>g x r5)=g a r:=by
 obtain ⟨t,l1,rfl,ht,hk⟩:=cL.1 hl;obtain ⟨l2,l3,rfl,h2,h3⟩:=hO.1 hk;obtain ⟨t2,l4,rfl,ht2,h4⟩:=cL.1 h3;obtain rfl:=eZ.1 h4;refine ⟨by rw [aT,fH,ht];decide,λg=>?_⟩;have hf:=ha.full h2 (r:=t2::r) (lv:=0) (by omega) h1 (.of (by rw [ht2];decide) (by rw [ht2];decide));simp only [aT,aZ,bW,xQ];rw [hf];show sK [93] (t2::r) _=_;rw [sK,fH,ht2,aL (by decide)]
 rfl
theorem bN6 (e:Ex):Ex.all tK e=true->Rd e/\1<=e.lv:=by
 induction e using Ex.ind with
 | _ op nm n args ih =>
  intro h;rw [nT,aE] at h;obtain ⟨hf,hr⟩:=h;have ha:∀ a∈args,Rd a/\1<=a.lv:=λa m=>ih a m (iQ m hr);simp only [tK,aE,bC,aD] at hf;obtain ⟨⟨⟨hop,hl⟩,hnm⟩,hn⟩:=hf;refine ⟨?_,bU7 hop⟩;have hm:=FG hop
  by_cases h1:op=1
  ·subst h1;obtain rfl:=args0 hl;obtain rfl:nm=[]:=hnm.resolve_left (by decide);rw [aL rfl,aD] at hn;refine .of (show 6<=(eF 1).lv by decide) λle r hk _=>?_;obtain ⟨t,rfl,ht⟩:=RB (x:=(3,Lib.itoa n.toInt)) rfl hk;have hk3:t.k=3:=congrArg Prod.fst ht;have ht2:t.t=Lib.itoa n.toInt:=congrArg Prod.snd ht;have hlt:=n.toInt_lt;rw [aT,bW,CW,fH,fH,ht,aG (by simp [isK]),aG (by simp [isK]),qZ];rw [aL hk3,ht2,aF2 hn,aL (by omega)]
   congr 2
   exact dQ.1 (by rw [fU (by omega)];omega)
  rw [aG h1,aD] at hn;obtain rfl:=UJ hn
  by_cases hb:op∈([11,12,13,14,15,16,17,18,19,20,21,22,23]:List UInt8)
  ·obtain ⟨b1,b2,_⟩:=yO op hb;obtain ⟨a,b,rfl⟩:=oD (l:=args) (by omega)
   obtain rfl : nm = [] := by rcases hnm with e | e
                              ·rw [b2] at e;cases e
                              ·exact e
   have h3:=ha a (by simp);have h4:=ha b (by simp);exact bN5 hb h3.1 h4.1 h3.2 h4.2
  have hs:op=2\/op=3\/op=4\/op=5\/op=6\/op=7\/op=8\/op=9\/op=10:=((KR hop).resolve_left h1).resolve_left hb
  have cst:∀ (w:Str),op=2\/op=3\/op=4->w=(eF op).tx->Rd (.mk op nm 0 args):=by
   intro w ho hw
   have hnil:args=[]:=by
    rcases ho with rfl | rfl | rfl <;> exact args0 hl
   have hnm0:nm=[]:=by
    rcases ho with rfl | rfl | rfl <;> exact hnm.resolve_left (by decide)
   subst hnil hnm0;refine .of (by rcases ho with rfl | rfl | rfl <;> exact (by decide:6<=7)) λle r hk _=>?_;rcases ho with rfl | rfl | rfl
   all_goals
    obtain ⟨t,rfl,ht⟩:=RB rfl hk;have hk3:t.k=2:=congrArg Prod.fst ht;rw [aT,bW,CW,fH,fH,ht,aG (by decide),aG (by decide),qZ];simp only [fH,ht];rw [aG (by rw [hk3];decide)]
   ·rw [aL (by decide)];rfl
   ·rw [aG (by decide),aL (by decide)];rfl
   ·rw [aG (by decide),aG (by decide),aL (by decide)];rfl
  rcases hs with rfl | rfl | rfl | rfl | rfl | rfl | rfl | rfl | rfl
  ·exact cst _ (.inl Z) rfl
  ·exact cst _ (.inr (.inl Z)) rfl
  ·exact cst _ (.inr (.inr Z)) rfl
  ·obtain rfl:=args0 hl;refine .of (show 6<=(eF 5).lv by decide) λle r hk h91=>?_;obtain ⟨t,rfl,ht⟩:=RB (x:=(1,nm)) rfl hk;have hk1:t.k=1:=congrArg Prod.fst ht;have ht2:t.t=nm:=congrArg Prod.snd ht;have hno:∀ w,isK w (1,nm)=false:=λw=>by simp [isK]
   rw [aT,bW,CW,fH,fH,ht,hno,hno,aG (by decide),aG (by decide),qZ];simp only [fH,ht,hno];rw [aG (by rw [hk1];decide)];simp only [aI,bL];rw [aL hk1,h91,aG (by decide),ht2]
  ·obtain ⟨a,rfl⟩:=gZ hl;obtain ⟨ra,r1⟩:=ha a (by simp);refine .of (show 6<=(eF 6).lv by decide) λle r hk h91=>?_;obtain ⟨t,l,rfl,ht,hl⟩:=cL.1 (show le.map kt=(1,nm)::(4,[91])::(ktE a++[(4,[93])]) from hk);have hk1:t.k=1:=congrArg Prod.fst ht;have ht2:t.t=nm:=congrArg Prod.snd ht;have hno:∀ w,isK w (1,nm)=false:=λw=>by simp [isK]
   obtain ⟨k1,k2⟩:=aP4 ra r1 hl (r:=r);rw [aT,CW,fH,fH,ht,hno,hno,aG (by decide),aG (by decide),qZ];simp only [fH,ht,hno];rw [aG (by rw [hk1];decide)];simp only [aI,bL];rw [aL hk1,k1,aL rfl,k2,ht2]
  ·obtain ⟨a,rfl⟩:=gZ hl;obtain ⟨ra,r1⟩:=ha a (by simp);refine .of (show 6<=(eF 7).lv by decide) λle r hk h91=>?_;obtain ⟨t,l,rfl,ht,hl⟩:=cL.1 (show le.map kt=(2,[104,97,115])::(1,nm)::(4,[91])::(ktE a++[(4,[93])]) from hk);obtain ⟨t2,l2,rfl,ht2,hl⟩:=cL.1 hl;have hk1:t.k=2:=congrArg Prod.fst ht;have hk2:t2.k=1:=congrArg Prod.fst ht2;have ht3:t2.t=nm:=congrArg Prod.snd ht2;obtain ⟨k1,k2⟩:=aP4 ra r1 hl (r:=r);rw [aT,CW,fH,fH,ht,aG (by decide),aG (by decide),qZ];simp only [fH,ht];rw [aG (by rw [hk1];decide),aG (by decide),aG (by decide),aG (by decide),aG (by decide),aG (by decide),aL (by decide),aT,AH];rw [aL hk2,sK,k1,aL rfl,k2,ht3]
  ·obtain rfl:=args0 hl;refine .of (show 6<=(eF 8).lv by decide) λle r hk h91=>?_;obtain ⟨t,l,rfl,ht,hl⟩:=cL.1 (show le.map kt=(2,[115,105,122,101])::(1,nm)::[] from hk);obtain ⟨t2,l2,rfl,ht2,hl⟩:=cL.1 hl;obtain rfl:=eZ.1 hl;have hk1:t.k=2:=congrArg Prod.fst ht;have hk2:t2.k=1:=congrArg Prod.fst ht2;have ht3:t2.t=nm:=congrArg Prod.snd ht2;rw [aT,CW,fH,fH,ht,aG (by decide),aG (by decide),qZ];simp only [fH,ht];rw [aG (by rw [hk1];decide),aG (by decide),aG (by decide),aG (by decide),aL (by decide),aT,AH];rw [aL hk2,ht3];rfl
  ·obtain ⟨a,rfl⟩:=gZ hl;obtain ⟨ra,r1⟩:=ha a (by simp);obtain rfl:nm=[]:=hnm.resolve_left (by decide);exact bK7 ra r1 (.inl Z)
  ·obtain ⟨a,rfl⟩:=gZ hl;obtain ⟨ra,r1⟩:=ha a (by simp);obtain rfl:nm=[]:=hnm.resolve_left (by decide);exact bK7 ra r1 (.inr Z)
abbrev Pz (α:Type):=List Tk->Rs α
section
variable {α β:Type}
def gH (a:α):Pz α:=λr=>.ok a r
def dJ (p:Pz α) (f:α->Pz β):Pz β:=λr=>(p r).bind f
def gNd (w:Str):Pz Unit:=λr=>if isT w r then .ok () r.tail else .er r 8
def gNm:Pz Str:=λr=>match r with | []=>.er r 8 | t::q=>if t.k=1 then .ok t.t q else .er r 8
def gNu:Pz Int64:=λr=>match r with | []=>.er r 8 | t::q=>if t.k=3 then (if nY t.t<=9223372036854775807 then .ok (Int64.ofNat (nY t.t)) q else .er r 2) else .er r 8
def kQ (w:Str) (p q:Pz α):Pz α:=λr=>if isT w r then p r.tail else q r
def zL (w:Str) (p:Pz α):Nat->Pz (List α)
 | 0=>λr=>.er r 99
 | f+1=>kQ w (dJ p λa=>dJ (zL w p f) λl=>gH (a::l)) (gH [])
def AJ (w:Str) (p:Pz α):Pz (List α):=λr=>zL w p (r.length+1) r
end
def gEx:Pz Ex:=pX 0
def HB (b:Pz (List Sm)):Pz (List Sm):=dJ (gNd [123]) λ_=>dJ b λl=>dJ (gNd [125]) λ_=>gH l
def aG2 (b:Pz (List Sm)):Pz (List Sm):=kQ [101,108,115,101] (HB b) (gH [])
def UL (b:Pz (List Sm)):Pz (List Sm):=kQ [101,108,115,101] (HB b) (dJ (gNd [59]) λ_=>gH [])
def BH {α:Type} (p:Pz α):Pz (List α):=dJ (gNd [40]) λ_=>kQ [41] (gH []) (dJ p λa=>dJ (AJ [44] p) λl=>dJ (gNd [41]) λ_=>gH (a::l))
def gSt (b:Pz (List Sm)):Pz Sm :=
 kQ [105,102] (dJ gEx λe=>dJ (HB b) λt=>dJ (aG2 b) λl=>gH (.mk 4 [] [] [e] t l))<|kQ [119,104,105,108,101] (dJ gEx λe=>dJ (HB b) λt=>gH (.mk 5 [] [] [e] t []))<|kQ [115,116,111,114,101] (dJ gEx λe=>dJ (gNd [61]) λ_=>dJ gEx λe2=>dJ (UL b) λl=>gH (.mk 8 [] [] [e,e2] [] l))<|kQ [102,101,116,99,104] (dJ gNm λn=>dJ (gNd [61]) λ_=>dJ gEx λe=>dJ (UL b) λl=>gH (.mk 9 n [] [e] [] l))<|kQ [115,101,110,100] (dJ gNm λn=>dJ (gNd [46]) λ_=>dJ gNm λh=>dJ (BH gEx) λl=>dJ (gNd [59]) λ_=>gH (.mk 6 n h l [] []))<|kQ [97,102,116,101,114] (dJ gEx λe=>dJ (gNd [100,111]) λ_=>dJ gNm λh=>dJ (BH gEx) λl=>dJ (gNd [59]) λ_=>gH (.mk 7 [] h (e::l) [] []))<|kQ [115,116,111,112] (dJ (gNd [59]) λ_=>gH (.mk 10 [] [] [] [] []))<|kQ [100,101,108,101,116,101] (dJ gNm λn=>dJ (gNd [91]) λ_=>dJ gEx λe=>dJ (gNd [93]) λ_=>dJ (gNd [59]) λ_=>gH (.mk 3 n [] [e] [] []))<|dJ gNm λn=>kQ [91] (dJ gEx λe=>dJ (gNd [93]) λ_=>dJ (gNd [61]) λ_=>dJ gEx λe2=>dJ (gNd [59]) λ_=>gH (.mk 2 n [] [e,e2] [] []))
  (dJ (gNd [61]) λ_=>dJ gEx λe=>dJ (gNd [59]) λ_=>gH (.mk 1 n [] [e] [] []))
def gBF:Nat->Pz (List Sm)
 | 0=>λr=>.er r 99
 | f+1=>λr=>if isT [125] r then .ok [] r else (gSt (gBF f) r).bind λs r1=>(gBF f r1).bind λl r2=>.ok (s::l) r2
def gB:Pz (List Sm):=λr=>gBF (r.length+1) r
def aT9:Pz Int64:=kQ [45] (dJ gNu λv=>gH (-v)) gNu
def gHd:Pz Hd:=dJ gNm λn=>dJ (BH gNm) λl=>dJ (HB gB) λb=>gH ⟨n,l,b⟩
/-! ### Rules that consume -/
section
variable {α β:Type}
def Shr (p:Pz α):Prop:=∀ r a r',p r=.ok a r'->r'.length<=r.length
def Shs (p:Pz α):Prop:=∀ r a r',p r=.ok a r'->r'.length<r.length
theorem Shs.le {p:Pz α} (h:Shs p):Shr p:=λr a r' e=>oV (h r a r' e)
theorem Shr.pure (a:α):Shr (gH a):=λr a r' e=>by injection e with _ e;subst e;exact aX _
theorem Shr.bind {p:Pz α} {f:α->Pz β} (h:Shr p) (k:∀ a,Shr (f a)):Shr (dJ p f):=λr b r' e=>by
 obtain ⟨a,q,h1,h2⟩:=Rs.bind_ok e;have:=h _ _ _ h1;have:=k _ _ _ _ h2;omega
theorem Shs.bind {p:Pz α} {f:α->Pz β} (h:Shs p) (k:∀ a,Shr (f a)):Shs (dJ p f):=λr b r' e=>by
 obtain ⟨a,q,h1,h2⟩:=Rs.bind_ok e;have:=h _ _ _ h1;have:=k _ _ _ _ h2;omega
theorem Shs.nd (w:Str):Shs (gNd w):=λr a r' e=>by
 unfold gNd at e
 split at e
 ·rename_i h;injection e with _ e;subst e;have:=pK h;omega
 ·cases e
theorem Shs.nm:Shs gNm:=λr a r' e=>by
 unfold gNm at e
 split at e
 ·cases e
 ·split at e
  ·injection e with _ e;subst e;simp
  ·cases e
theorem Shs.nu:Shs gNu:=λr a r' e=>by
 unfold gNu at e
 split at e
 ·cases e
 ·split at e
  ·split at e
   ·injection e with _ e;subst e;simp
   ·cases e
  ·cases e
theorem Shs.ex:Shs gEx:=λr a r' e=>(AX _).1 _ _ _ _ e
theorem Shr.alt {w:Str} {p q:Pz α} (h:Shr p) (k:Shr q):Shr (kQ w p q):=λr a r' e=>by
 unfold kQ at e
 split at e
 ·rename_i h2;have:=pK h2;have:=h _ _ _ e;omega
 ·exact k _ _ _ e
theorem Shs.alt {w:Str} {p q:Pz α} (h:Shr p) (k:Shs q):Shs (kQ w p q):=λr a r' e=>by
 unfold kQ at e
 split at e
 ·rename_i h2;have:=pK h2;have:=h _ _ _ e;omega
 ·exact k _ _ _ e
theorem Shr.many {w:Str} {p:Pz α} (h:Shr p):Shr (AJ w p):=by
 have key:∀ f,Shr (zL w p f):=λf=>by
  induction f with
  | zero=>intro r a r' e;cases e
  | succ f ih=>exact .alt (.bind h λa=>.bind ih λl=>.pure _) (.pure _)
 exact λr a r' e=>key _ _ _ _ e
theorem IJ {w:Str} {p:Pz α} (h:Shr p):∀ (f g:Nat) (r:List Tk),r.length<f->r.length<g->zL w p f r=zL w p g r
 | 0,_,_,k,_=>by omega
 | _,0,_,_,k=>by omega
 | f+1,g+1,r,k1,k2=>by
  unfold zL kQ
  split
  ·rename_i e;have:=pK e;refine Rs.bind_congr rfl λa q e2=>?_;have:=h _ _ _ e2;exact Rs.bind_congr (IJ h f g q (by omega) (by omega)) λ_ _ _=>rfl
  ·rfl
theorem LG {w:Str} {p:Pz α} (h:Shr p):AJ w p=kQ w (dJ p λa=>dJ (AJ w p) λl=>gH (a::l)) (gH []):=funext λr=>by
 unfold AJ
 conv=>lhs;unfold zL
 unfold kQ
 split
 ·rename_i e;have:=pK e;refine Rs.bind_congr rfl λa q e2=>?_;have:=h _ _ _ e2;exact Rs.bind_congr (IJ h _ _ q (by omega) (by omega)) λ_ _ _=>rfl
 ·rfl
theorem Shs.list {p:Pz α} (h:Shr p):Shs (BH p):=.bind (.nd _) λ_=>.alt (.pure _) (.bind h λ_=>.bind (.many h) λ_=>.bind (Shs.nd _).le λ_=>.pure _)
/-! ### Rules that agree on short lists of tokens -/
def Agz (n:Nat) (p q:Pz α):Prop:=∀ r,r.length<=n->p r=q r
theorem Agz.rfl' {n:Nat} {p:Pz α}:Agz n p p:=λ_ _=>rfl
theorem Agz.bind {n:Nat} {p q:Pz α} {f g:α->Pz β} (hp:Shr p) (h:Agz n p q) (k:∀ a,Agz n (f a) (g a)):Agz n (dJ p f) (dJ q g):=λr hr =>
 Rs.bind_congr (h r hr) λa r' e=>k a r' (bD (hp _ _ _ e) hr)
theorem Agz.alt {n:Nat} {w:Str} {p q p' q':Pz α} (h:Agz (n - 1) p p') (k:Agz n q q'):Agz n (kQ w p q) (kQ w p' q'):=λr hr=>by
 unfold kQ
 split
 ·rename_i e;have:=pK e;exact h _ (by omega)
 ·exact k r hr
theorem Agz.altr {n:Nat} {w:Str} {p q p' q':Pz α} (h:Agz n p p') (k:Agz n q q'):Agz n (kQ w p q) (kQ w p' q'):=.alt (λr hr=>h r (by omega)) k
end
theorem Shs.blk {b:Pz (List Sm)} (h:Shr b):Shs (HB b):=.bind (.nd _) λ_=>.bind h λ_=>.bind (Shs.nd _).le λ_=>.pure _
theorem Shr.els {b:Pz (List Sm)} (h:Shr b):Shr (aG2 b):=.alt (Shs.blk h).le (.pure _)
theorem Shr.oth {b:Pz (List Sm)} (h:Shr b):Shr (UL b):=.alt (Shs.blk h).le (.bind (Shs.nd _).le λ_=>.pure _)
theorem Shs.st {b:Pz (List Sm)} (h:Shr b):Shs (gSt b) :=
 .alt (.bind Shs.ex.le λ_=>.bind (Shs.blk h).le λ_=>.bind (.els h) λ_=>.pure _)<|.alt (.bind Shs.ex.le λ_=>.bind (Shs.blk h).le λ_=>.pure _)<|.alt (.bind Shs.ex.le λ_=>.bind (Shs.nd _).le λ_=>.bind Shs.ex.le λ_=>.bind (.oth h) λ_=>.pure _)<|.alt (.bind Shs.nm.le λ_=>.bind (Shs.nd _).le λ_=>.bind Shs.ex.le λ_=>.bind (.oth h) λ_=>.pure _)<|.alt (.bind Shs.nm.le λ_=>.bind (Shs.nd _).le λ_=>.bind Shs.nm.le λ_=>.bind (Shs.list Shs.ex.le).le λ_=>.bind (Shs.nd _).le λ_=>.pure _)<|.alt (.bind Shs.ex.le λ_=>.bind (Shs.nd _).le λ_=>.bind Shs.nm.le λ_=>.bind (Shs.list Shs.ex.le).le λ_=>.bind (Shs.nd _).le λ_=>.pure _)<|.alt (.bind (Shs.nd _).le λ_=>.pure _)<|.alt (.bind Shs.nm.le λ_=>.bind (Shs.nd _).le λ_=>.bind Shs.ex.le λ_=>.bind (Shs.nd _).le λ_=>.bind (Shs.nd _).le λ_=>.pure _)<|.bind .nm λ_=>.alt (.bind Shs.ex.le λ_=>.bind (Shs.nd _).le λ_=>.bind (Shs.nd _).le λ_=>.bind Shs.ex.le λ_=>.bind (Shs.nd _).le λ_=>.pure _) (.bind (Shs.nd _).le λ_=>.bind Shs.ex.le λ_=>.bind (Shs.nd _).le λ_=>.pure _)
theorem Agz.blk {b c:Pz (List Sm)} (h:Agz n b c) (hb:Shr b):Agz n (HB b) (HB c):=.bind (Shs.nd _).le .rfl' λ_=>.bind hb h λ_=>.rfl'
theorem Agz.els {b c:Pz (List Sm)} (h:Agz n b c) (hb:Shr b):Agz n (aG2 b) (aG2 c):=.altr (.blk h hb) .rfl'
theorem Agz.oth {b c:Pz (List Sm)} (h:Agz n b c) (hb:Shr b):Agz n (UL b) (UL c):=.altr (.blk h hb) .rfl'
theorem Agz.st {b c:Pz (List Sm)} (h:Agz (n - 1) b c) (hb:Shr b):Agz n (gSt b) (gSt c) :=
 .alt (.bind Shs.ex.le .rfl' λ_=>.bind (Shs.blk hb).le (.blk h hb) λ_=>.bind (.els hb) (.els h hb) λ_=>.rfl')<|.alt (.bind Shs.ex.le .rfl' λ_=>.bind (Shs.blk hb).le (.blk h hb) λ_=>.rfl')<|.alt (.bind Shs.ex.le .rfl' λ_=>.bind (Shs.nd _).le .rfl' λ_=>.bind Shs.ex.le .rfl' λ_=>.bind (.oth hb) (.oth h hb) λ_=>.rfl')<|.alt (.bind Shs.nm.le .rfl' λ_=>.bind (Shs.nd _).le .rfl' λ_=>.bind Shs.ex.le .rfl' λ_=>.bind (.oth hb) (.oth h hb) λ_=>.rfl') .rfl'
theorem zM:∀ f,Shr (gBF f)
 | 0=>λ_ _ _ e=>by cases e
 | f+1=>λr a r' e=>by
  unfold gBF at e
  split at e
  ·injection e with _ e;subst e;exact aX _
  ·obtain ⟨s,q,h1,h2⟩:=Rs.bind_ok e;obtain ⟨l,q2,h3,h4⟩:=Rs.bind_ok h2;injection h4 with _ h4;subst h4
   have:=(Shs.st (zM f)) _ _ _ h1;have:=zM f _ _ _ h3;omega
theorem Shr.b:Shr gB:=λ_ _ _ e=>zM _ _ _ _ e
theorem FQ:∀ (f g:Nat) (r:List Tk),r.length<f->r.length<g->gBF f r=gBF g r
 | 0,_,_,k,_=>by omega
 | _,0,_,_,k=>by omega
 | f+1,g+1,[],_,_=>rfl
 | f+1,g+1,t::r,k1,k2=>by
  unfold gBF;simp only [aJ] at k1 k2;refine ifC rfl (Rs.bind_congr (Agz.st (n:=(t::r).length) (λq hq=>?_) (zM f) _ (aX _)) λs q e=>?_)
  ·simp only [aJ] at hq;exact FQ f g q (by omega) (by omega)
  ·have:=(Shs.st (zM f)) _ _ _ e;simp only [aJ] at this;exact Rs.bind_congr (FQ f g q (by omega) (by omega)) λ_ _ _=>rfl
theorem UM (r:List Tk):gB r=if isT [125] r then .ok [] r else (gSt gB r).bind λs r1=>(gB r1).bind λl r2=>.ok (s::l) r2:=by
 match r with
 | []=>rfl
 | t::r =>
  conv=>lhs;unfold gB;unfold gBF
  refine ifC rfl (Rs.bind_congr (Agz.st (n:=(t::r).length) (λq hq=>?_) (zM _) _ (aX _)) λs q e=>?_)
  ·simp only [aJ] at hq;exact FQ _ _ q (by simp only [aJ];omega) (by omega)
  ·have:=(Shs.st (zM _)) _ _ _ e;exact Rs.bind_congr (FQ _ _ q (by omega) (by omega)) λ_ _ _=>rfl
end Go.Proofs.YtidclioghdbphaaGreatDoor
