/- Texts of the proof, one behind the other. -/
import Derived.Test.YthhoebdlfjffkaaGreatDoorMe
set_option linter.all false
set_option maxRecDepth 100000
namespace Go.Sx
open Go.RowKit Go.Par
theorem St.put1 {H:Hp} {w0 W:World} {bs bs':List Res} {x y:Res} (h:St H w0 bs W) (u:Upd bs x y bs') (hy:y.ok w0.heap.size W) (hb:∀ b,y.blk=some b→x.blk=some b):St H w0 bs' W :=
 h.upd u h.ext (Nat.le_refl _) (fun _ _ _=>rfl) hy (fun b e=>.inl (hb b e))
/-! ### A drawn region without an operation that waits for all others: each order of the heavy ones -/
structure AY (ops:Array Oper) (n:Nat):Prop where
 all:n=ops.size
 sel:∀ (j:Nat) (o:Oper) (cs:Array SelectCase) (b:Bool),ops[j]? = some o→o.op≠.select cs b
 back:∀ i o,ops[i]? = some o→∀ e∈o.after,Region.binds .any e=true→e.on<i
 apart:∀ j k,j<n→k<n→j≠k→∀ d,dD ops j=some d→dD ops k≠some d
 look:∀ i o,i<n→ops[i]? = some o→∀ t∈o.looksAt ops,∀ j,j<n→dD ops j=some t→Region.waitsFor .any ops i j=true
def QO (ops:Array Oper) (n:Nat):Bool :=
 Region.noSelect ops && decide (n=ops.size) &&
 (List.range ops.size).all (fun i=>((ops[i]?).map fun o=>o.after.all fun e=>!Region.binds .any e || decide (e.on<i)).getD true) &&
 (List.range n).all (fun i=>(List.range n).all fun j=>decide (i=j) || (dD ops i).isNone || dD ops i != dD ops j) &&
 (List.range n).all (fun i=>((ops[i]?).map fun o=>(o.looksAt ops).all fun t=>(List.range n).all fun j=>dD ops j != some t || Region.waitsFor .any ops i j).getD true)
theorem AY.of {ops:Array Oper} {n:Nat} (h:QO ops n=true):AY ops n:=by
 simp only [QO,Bool.and_eq_true,decide_eq_true_eq] at h;obtain ⟨⟨⟨⟨h1,h2⟩,h5⟩,h6⟩,h7⟩:=h;refine ⟨h2,Region.noSelect_spec h1,?_,?_,?_⟩
 ·intro i o ho e he hb;have hi:i<ops.size:=(Array.getElem?_eq_some_iff.1 ho).1;have:=List.all_eq_true.1 h5 i (List.mem_range.2 hi);simp only [ho,Option.map_some,Option.getD_some,Array.all_eq_true_iff_forall_mem] at this;have:=this e he;simpa [hb] using this
 ·intro j k hj hk hne d hd;have:=List.all_eq_true.1 (List.all_eq_true.1 h6 j (List.mem_range.2 hj)) k (List.mem_range.2 hk);simp only [hd,hne,decide_false,Bool.false_or,Option.isNone_some,bne_iff_ne] at this;exact fun e=>this e.symm
 ·intro i o hi ho t ht j hj hd;have:=List.all_eq_true.1 h7 i (List.mem_range.2 hi);simp only [ho,Option.map_some,Option.getD_some] at this;have:=List.all_eq_true.1 (List.all_eq_true.1 this t ht) j (List.mem_range.2 hj);simpa [hd] using this
section
variable {dfs:List Deferred} {P:Program} {ops:Array Oper} {w0:World} {n N:Nat}
variable {l:List Oper} {a0:Act} {E:Sl→Hp→List Res→Prop} {Q:Exit→Act→World→Prop} {listed:Array Bool} {a:Act} {W:World} {val:Nat→Value} {dec:Nat→Bool} {D A:List Nat} {L:Sl} {H:Hp} {bs:List Res} {pa:List (Nat × Oper × Value)}
theorem nA (F:AY ops n) {a0:Act} {v1 v2:Nat→Value} {S1 S2:Nat→Bool} {i:Nat} {o:Oper} (hi:i<n) (ho:ops[i]? = some o)
 (h:∀ j,j<n→Region.waitsFor .any ops i j=true→S1 j=true∧S2 j=true∧v1 j=v2 j) (t:Tmp) (ht:t∈o.looksAt ops) :
 (frm ops v1 S1 n a0).eval (.tmp t)=(frm ops v2 S2 n a0).eval (.tmp t):=by
 by_cases hw:∃ j,j<n∧dD ops j=some t
 ·obtain ⟨j,hj,hd⟩:=hw;obtain ⟨h1,h2,h3⟩:=h j hj (F.look i o hi ho t ht j hj hd);rw [qG _ S1 a0 t j h1 hd n hj (fun k hk hne e=>F.apart k j hk hj hne t e hd),qG _ S2 a0 t j h2 hd n hj (fun k hk hne e=>F.apart k j hk hj hne t e hd),h3]
 ·rw [lL _ S1 a0 t n (fun k hk _ hd=>hw ⟨k,hk,hd⟩),lL _ S2 a0 t n (fun k hk _ hd=>hw ⟨k,hk,hd⟩)]
theorem DI (F:AY ops n) {i:Nat} {o:Oper} {v:Value} (hi:i<n) (ho:ops[i]? = some o) (hd:dec i=false) :
 frm ops (upd val i v) (upd dec i true) n a0=(frm ops val dec n a0).put o.dst v:=by
 have e1:dD ops i=o.dst:=by simp [dD,ho]
 rw [gO (upd val i v) dec (upd dec i true) a0 i (cU _ _ _) hd (fun k hk=>aU _ _ hk) n hi F.apart,cU,e1]
 congr 1
 refine dL _ _ _ _ a0 n fun k _=>⟨rfl,fun hk=>aU _ _ fun e=>?_⟩;subst e;rw [hd] at hk;cases hk
theorem GT.decideE (F:AY ops n) {i:Nat} {o:Oper} (I:GT dfs P ops l w0 n N a0 E listed a W val dec D L H bs pa) (hi:i<n) (ho:ops[i]? = some o) (hiD:D.contains i=false) (hwt:((List.range n).all fun j=>!Region.waitsFor .any ops i j || D.contains j)=true)
 {v:Value} (hy:∀ a W,Fr dfs N L a→St H w0 bs W→Yq P ops o v a W) (hN:∀ t,o.dst=some t→t<N) :
 GT dfs P ops l w0 n N a0 E listed a W (upd val i v) (upd dec i true) (i::D) (putL o.dst v L) H bs ((i,o,v)::pa):=by
 have hdi:dec i=false:=(I.set i).trans hiD;have hdeps:∀ j,j<n→Region.waitsFor .any ops i j=true→dec j=true:=fun j hj hw=>(I.set j).trans (qH hwt hj hw)
 have hii:∀ j,j<n→Region.waitsFor .any ops i j=true→j≠i:=fun j hj hw e=>by
  have:=hdeps j hj hw;rw [e,hdi] at this;cases this
 have hli:st listed i=false:=by
  cases h:st listed i with
  | false=>rfl
  | true=>have:=I.sub i hi h;rw [hdi] at this;cases this
 have hput:=DI (a0:=a0) (val:=val) (v:=v) F hi ho hdi;refine ⟨I.head,?_,?_,?_,I.world,?_,?_,tI I.set,?_⟩
 ·rw [I.frame];refine dL _ _ _ _ a0 n fun k _=>⟨rfl,fun hk=>(aU _ _ fun e=>?_).symm⟩;subst e;rw [hli] at hk;cases hk
 ·rw [hput];exact I.full.putL v hN
 ·intro j hj hs
  by_cases e:j=i
  ·subst e;exact cU _ _ _
  ·rw [aU _ _ e];exact I.sub j hj hs
 ·intro j oj hj hoj hd hs W hW
  by_cases e:j=i
  ·subst e;obtain rfl:oj=o:=Option.some.inj (hoj.symm.trans ho);rw [cU];refine Yq.same (fun cs b=>F.sel j oj cs b ho) (fun t ht=>?_) (hy _ W I.full hW);refine nA F hj ho (fun k hk hw=>?_) t ht;have hkd:=hdeps k hk hw;have hki:=hii k hk hw;exact ⟨by rw [aU _ _ hki];exact hkd,hkd,aU _ _ hki⟩
  ·rw [aU _ _ e] at hd ⊢;refine Yq.same (fun cs b=>F.sel j oj cs b hoj) (fun t ht=>?_) (I.light j oj hj hoj hd hs W hW);refine nA F hj hoj (fun k hk hw=>?_) t ht;have hkd:=I.deps j k hj hk hd hw;have hki:k≠i:=fun e=>by subst e;rw [hdi] at hkd;cases hkd
   exact ⟨by rw [aU _ _ hki];exact hkd,hkd,aU _ _ hki⟩
 ·intro j oj hj hoj hd hs
  by_cases e:j=i
  ·subst e;obtain rfl:oj=o:=Option.some.inj (hoj.symm.trans ho);rw [cU];exact .head _
  ·rw [aU _ _ e] at hd ⊢;exact .tail _ (I.past j oj hj hoj hd hs)
 ·intro j k hj hk hd hw
  by_cases e:j=i
  ·subst e;rw [aU _ _ (hii k hk hw)];exact hdeps k hk hw
  ·rw [aU _ _ e] at hd;have:=I.deps j k hj hk hd hw
   by_cases e2:k=i
   ·subst e2;exact cU _ _ _
   ·rw [aU _ _ e2];exact this
theorem GT.stepE (F:AY ops n) {i:Nat} {o:Oper} {W':World} (I:GT dfs P ops l w0 n N a0 E listed a W val dec D L H bs pa) (hi:i<n) (ho:ops[i]? = some o) (hr:i∈Region.ready .any ops listed) (hd:dec i=true) (hx:Ext W W') :
 GT dfs P ops l w0 n N a0 E (listed.setIfInBounds i true) (a.put o.dst (val i)) W' val dec D L H bs pa:=by
 have hun:st listed i=false:=(mem_ready.1 hr).1;have e1:dD ops i=o.dst:=by simp [dD,ho]
 refine ⟨I.head.set hr hi,?_,I.full,?_,I.world.more hx,?_,?_,I.set,I.deps⟩
 ·rw [I.frame,gO val (st listed) (st (listed.setIfInBounds i true)) a0 i aY hun (fun k hk=>cO hk) n hi F.apart,e1]
 ·intro j hj hs
  by_cases e:j=i
  ·subst e;exact hd
  ·rw [cO e] at hs;exact I.sub j hj hs
 ·intro j oj hj hoj hdj hs;have e:j≠i:=fun e=>by subst e;rw [aY] at hs;cases hs
  rw [cO e] at hs;exact I.light j oj hj hoj hdj hs
 ·intro j oj hj hoj hdj hs;have e:j≠i:=fun e=>by subst e;rw [aY] at hs;cases hs
  rw [cO e] at hs;exact I.past j oj hj hoj hdj hs
theorem GT.heavyE (F:AY ops n) {i k:Nat} {o:Oper} {v:Value} {W':World} {H':Hp} {bs':List Res} (I:GT dfs P ops l w0 n N a0 E listed a W val dec D L H bs pa) (hi:i<n) (ho:ops[i]? = some o) (hiD:D.contains i=false) (hwt:((List.range n).all fun j=>!Region.waitsFor .any ops i j || D.contains j)=true) (hk1:(!(k == 1) || D.all fun j=>hU ops n i j)=true) (hN:∀ t,o.dst=some t→t<N) (hr:i∈Region.ready .any ops listed)
 (hs:St H' w0 bs' W') (hws:k=1∨(∀ W,St H' w0 bs' W→St H w0 bs W)∨eG dfs P ops n w0 N L H' bs' i pa) :
 GT dfs P ops l w0 n N a0 E (listed.setIfInBounds i true) (a.put o.dst v) W' (upd val i v) (upd dec i true) (i::D) (putL o.dst v L) H' bs' pa:=by
 have hdi:dec i=false:=(I.set i).trans hiD;have hdeps:∀ j,j<n→Region.waitsFor .any ops i j=true→dec j=true:=fun j hj hw=>(I.set j).trans (qH hwt hj hw)
 have hii:∀ j,j<n→Region.waitsFor .any ops i j=true→j≠i:=fun j hj hw e=>by
  have:=hdeps j hj hw;rw [e,hdi] at this;cases this
 have hun:st listed i=false:=(mem_ready.1 hr).1;have e1:dD ops i=o.dst:=by simp [dD,ho]
 have hput:=DI (a0:=a0) (val:=val) (v:=v) F hi ho hdi;refine ⟨I.head.set hr hi,?_,?_,?_,hs,?_,?_,tI I.set,?_⟩
 ·rw [I.frame,gO (upd val i v) (st listed) (st (listed.setIfInBounds i true)) a0 i aY hun (fun k hk=>cO hk) n hi F.apart,e1,cU]
  congr 1
  refine dL _ _ _ _ a0 n fun k _=>⟨rfl,fun hk=>(aU _ _ fun e=>?_).symm⟩;subst e;rw [hun] at hk;cases hk
 ·rw [hput];exact I.full.putL v hN
 ·intro j hj hs
  by_cases e:j=i
  ·subst e;exact cU _ _ _
  ·rw [aU _ _ e];rw [cO e] at hs;exact I.sub j hj hs
 ·intro j oj hj hoj hd hs W hW;have e:j≠i:=fun e=>by subst e;rw [aY] at hs;cases hs
  rw [cO e] at hs;rw [aU _ _ e] at hd ⊢
  have hdone:hU ops n i j=true→False:=fun h1=>by
   obtain ⟨_,oi,hoi,hall⟩:=mem_ready.1 hr
   have h2:=gC I.head n i j h1 (fun ok hok x hx hb=>by
    obtain rfl:ok=oi:=Option.some.inj (hok.symm.trans hoi);exact hall x hx hb)
   rw [getD_both hs] at h2;cases h2
  have hy:Yq P ops oj (val j) (frm ops val dec n a0) W:=by
   rcases hws with hk | hw | hw
   ·subst hk;have hjD:j∈D:=by have:=(I.set j).symm.trans hd;simpa using this
    simp only [beq_self_eq_true,Bool.not_true,Bool.false_or] at hk1;exact (hdone (List.all_eq_true.1 hk1 j hjD)).elim
   ·exact I.light j oj hj hoj hd hs W (hw W hW)
   ·rcases hw.at (I.past j oj hj hoj hd hs) with h1 | h1
    ·exact (hdone h1).elim
    ·exact h1 _ W I.full hW
  refine Yq.same (fun cs b=>F.sel j oj cs b hoj) (fun t ht=>?_) hy;refine nA F hj hoj (fun k hk hw=>?_) t ht;have hkd:=I.deps j k hj hk hd hw;have hki:k≠i:=fun e=>by subst e;rw [hdi] at hkd;cases hkd
  exact ⟨by rw [aU _ _ hki];exact hkd,hkd,aU _ _ hki⟩
 ·intro j oj hj hoj hd hs;have e:j≠i:=fun e=>by subst e;rw [aY] at hs;cases hs
  rw [cO e] at hs;rw [aU _ _ e] at hd ⊢;exact I.past j oj hj hoj hd hs
 ·intro j k hj hk hd hw
  by_cases e:j=i
  ·subst e;rw [aU _ _ (hii k hk hw)];exact hdeps k hk hw
  ·rw [aU _ _ e] at hd;have:=I.deps j k hj hk hd hw
   by_cases e2:k=i
   ·subst e2;exact cU _ _ _
   ·rw [aU _ _ e2];exact this
theorem DK (hl:ops=l.toArray) (F:AY ops n) (hend:∀ L H bs,E L H bs→At dfs N L H w0 bs (Q .normal)) :
 ∀ (m:Nat) (p:Pi0) (listed:Array Bool) (a:Act) (W:World) (val:Nat→Value) (dec:Nat→Bool) (D:List Nat) (L:Sl) (H:Hp) (bs:List Res) (pa:List (Nat × Oper × Value)),cnt (st listed) n=m→okT ops n D [] p=true →
  dA dfs P ops n w0 N E (kC l p) pa L H bs→GT dfs P ops l w0 n N a0 E listed a W val dec D L H bs pa→wpAny P .any ops Q (m+(ops.size - n)) listed a W:=by
 have hop:∀ i,i<n→ops[i]? = some l[i]! := fun i hi=>by
  have h1:i<ops.size:=by have:=F.all;omega
  subst hl;have h2:i<l.length:=by simpa using h1
  simp [h2]
 intro m;induction m with
 | zero =>
  intro p;induction p with
  | done =>
   intro listed a W val dec D L H bs pa hm hok hF I;have hall:=iC _ n hm;have hsz:ops.size - n=0:=by have:=F.all;omega
   rw [hsz]
   have hrd:Region.ready .any ops listed=[]:=List.eq_nil_iff_forall_not_mem.2 fun k hk=>by
    obtain ⟨h1,o,h2,_⟩:=mem_ready.1 hk;have h3:k<ops.size:=(Array.getElem?_eq_some_iff.1 h2).1;have h4:=hall k (by have:=F.all;omega);have h5:k<listed.size:=by rw [I.head.size];exact h3
    simp [st,h5] at h1 h4;rw [h4] at h1;cases h1
   have hfr:a=frm ops val dec n a0:=by
    rw [I.frame];exact dL _ _ _ _ a0 n (fun k hk=>⟨by rw [hall k hk,I.sub k hk (hall k hk)],fun _=>rfl⟩)
   rw [hfr];exact At.ae (n:=N) (L:=L) hrd (hend L H bs hF) _ W I.full I.world
  | no =>
   intro listed a W val dec D L H bs pa hm hok hF I;simp [okT] at hok
  | light i r ih =>
   intro listed a W val dec D L H bs pa hm hok hF I;have hall:=iC _ n hm;simp only [okT,Bool.and_eq_true,decide_eq_true_eq,Bool.not_eq_true'] at hok;have:=I.sub i hok.1.1.1.2 (hall i hok.1.1.1.2);rw [I.set i,hok.1.1.2] at this;cases this
  | alt i k r q ih1 ih2 =>
   intro listed a W val dec D L H bs pa hm hok hF I;have hall:=iC _ n hm;simp only [okT,Bool.and_eq_true,decide_eq_true_eq,Bool.not_eq_true'] at hok;have:=I.sub i hok.1.1.1.1.1 (hall i hok.1.1.1.1.1);rw [I.set i,hok.1.1.1.1.2] at this;cases this
 | succ m ih =>
  have one_step:∀ (p:Pi0) (listed:Array Bool) (a:Act) (W:World) (val:Nat→Value) (dec:Nat→Bool) (D:List Nat) (L:Sl) (H:Hp) (bs:List Res) (pa:List (Nat × Oper × Value)),cnt (st listed) n=m+1→okT ops n D [] p=true →
   dA dfs P ops n w0 N E (kC l p) pa L H bs→GT dfs P ops l w0 n N a0 E listed a W val dec D L H bs pa→(p=.done∨p=.no∨∃ i k r q,p=.alt i k r q)→wpAny P .any ops Q (m+1+(ops.size - n)) listed a W:=by
   intro p listed a W val dec D L H bs pa hm hok hF I hp;obtain ⟨k0,hk0,hun0,hbelow⟩:=pC (st listed) n (by omega);have hk0s:k0<ops.size:=by have:=F.all;omega
   have hready0:k0∈Region.ready .any ops listed:=by
    refine mem_ready.2 ⟨hun0,ops[k0],Array.getElem?_eq_getElem hk0s,fun e he hb=>?_⟩;have hlt:=F.back k0 _ (Array.getElem?_eq_getElem hk0s) e he hb;have:=hbelow e.on hlt;have hsz:e.on<listed.size:=by rw [I.head.size];omega
    simpa [st,hsz] using this
   rw [show m+1+(ops.size - n)=(m+(ops.size - n))+1 by omega];refine ⟨fun h0=>(by rw [h0] at hready0;cases hready0),fun j hj=>?_⟩
   have hjn:j<n:=by
    rcases Nat.lt_or_ge j n with h | h
    ·exact h
    ·exfalso
     obtain ⟨_,oj,hoj,_⟩:=mem_ready.1 hj;have h3:j<ops.size:=(Array.getElem?_eq_some_iff.1 hoj).1;have:=F.all;omega
   obtain ⟨hun,oj,hoj,hall⟩:=mem_ready.1 hj
   have hcnt:cnt (st (listed.setIfInBounds j true)) n=m:=by
    have:=kV (st listed) (st (listed.setIfInBounds j true)) j aY hun (fun k hk=>cO hk) n hjn;omega
   have hS:∀ k,k<n→Region.waitsFor .any ops j k=true→st listed k=true:=by
    intro k hk hw;obtain ⟨oi,hoi,e,he,hb,hon⟩:=Region.waitsFor_spec hw;obtain rfl:oi=oj:=Option.some.inj (hoi.symm.trans hoj);have h1:=hall e he hb;rw [hon] at h1;have hsz:k<listed.size:=by rw [I.head.size];have:=F.all;omega
    simp [hsz] at h1;simp [st,hsz,h1]
   have hev:∀ t∈oj.looksAt ops,a.eval (.tmp t)=(frm ops val dec n a0).eval (.tmp t):=fun t ht=>by
    rw [I.frame];exact nA F hjn hoj (fun k hk hw=>⟨hS k hk hw,I.sub k hk (hS k hk hw),rfl⟩) t ht
   cases hd:dec j with
   | true =>
    have hy:Yq P ops oj (val j) a W:=Yq.same (fun cs b=>F.sel j oj cs b hoj) hev (I.light j oj hjn hoj hd hun W I.world);exact hy.wpOp hoj fun W' hx=>ih p _ _ _ _ _ _ _ _ _ _ hcnt hok hF (I.stepE F hjn hoj hj hd hx)
   | false =>
    have hjD:D.contains j=false:=(I.set j).symm.trans hd
    have hch:p=.no∨∃ i k r q',p=.alt i k r q':=by
     rcases hp with rfl | rfl | h
     ·exfalso
      simp only [okT,Bool.and_eq_true] at hok;have:=List.all_eq_true.1 hok.2 j (List.mem_range.2 hjn);rw [hjD] at this;cases this
     ·exact .inl Z
     ·exact .inr h
    obtain ⟨k,r,h1,h2,h3,h4,h5⟩:=wM hl hjn hjD (fun i hi hin=>by
     cases hre:hU ops n j i with
     | false=>rfl
     | true =>
      have h2:=gC I.head n j i hre (fun ok hok e he hb=>by
       obtain rfl:ok=oj:=Option.some.inj (hok.symm.trans hoj);exact hall e he hb)
      have h3:st listed i=false:=by
       cases h:st listed i with
       | false=>rfl
       | true=>have:=I.sub i hin h;rw [I.set i,hi] at this;cases this
      rw [getD_both h3] at h2;cases h2) p [] hch hok (fun i hi=>by cases hi) hF
    have hoj2:=hop j hjn;obtain rfl:oj=l[j]! := Option.some.inj (hoj.symm.trans hoj2);refine vM hoj (fun cs b=>F.sel j _ cs b hoj) hev (fun b W' ⟨v,H',bs',hf,_⟩=>hf.defers) I.full.defers ?_ (h5 _ W I.full I.world);rintro v W' ⟨v',H',bs',hf,hs,hw,hp'⟩
    have hvv:putL (l[j]!).dst v' L=putL (l[j]!).dst v L:=by
     cases hdst:(l[j]!).dst with
     | none=>rfl
     | some t =>
      rw [hdst] at hf;have h1:=hf.slot t v' (by unfold putL look;rw [Nat.beq_refl,cond_true]);have h2:t<N:=h4 t hdst;have h3:=(I.full.put (by simpa [Nat.blt_eq] using h2) v).slot t v (by unfold look;rw [Nat.beq_refl,cond_true]);rw [h3] at h1;rw [h1]
    rw [hvv] at hp';exact ih r _ _ _ _ _ _ _ _ _ _ hcnt h3 hp' (I.heavyE F hjn hoj hjD h1 h2 h4 hj hs hw)
  intro p;induction p with
  | done=>exact fun listed a W val dec D L H bs pa hm hok hF I=>one_step _ listed a W val dec D L H bs pa hm hok hF I (.inl rfl)
  | no=>exact fun listed a W val dec D L H bs pa hm hok hF I=>one_step _ listed a W val dec D L H bs pa hm hok hF I (.inr (.inl rfl))
  | alt i k r q _ _=>exact fun listed a W val dec D L H bs pa hm hok hF I=>one_step _ listed a W val dec D L H bs pa hm hok hF I (.inr (.inr ⟨_,_,_,_,rfl⟩))
  | light i r ihr =>
   intro listed a W val dec D L H bs pa hm hok hF I;simp only [okT,Bool.and_eq_true,decide_eq_true_eq,Bool.not_eq_true'] at hok;obtain ⟨⟨⟨⟨_,hi⟩,hiD⟩,hwt⟩,hok'⟩:=hok;unfold kC dA at hF;obtain ⟨v,hy,hN,hF'⟩:=hF;exact ihr listed a W _ _ _ _ H bs _ hm hok' hF' (I.decideE F hi (hop i hi) hiD hwt hy hN)
theorem VG {id:Nat} {l:List Oper} {p:PlT} {Q:Exit→Act→World→Prop} {L:Sl} {H:Hp} {bs:List Res} (n:Nat) (p0:Pi0) (hm:P.follows .mixedOrders=true) (hB:(QO l.toArray n && okT l.toArray n [] [] p0)=true) (ht:kC l p0=p)
 (h:dA dfs P l.toArray n w0 N (fun L H bs=>At dfs N L H w0 bs (Q .normal)) p [] L H bs):At dfs N L H w0 bs ((Code.region id l.toArray true).wp P Q):=by
 simp only [Bool.and_eq_true] at hB;obtain ⟨h1,h2⟩:=hB;have F:=AY.of h1;have hlt:n=l.length:=by simpa using F.all
 subst ht;intro a W f s;refine wp_region_any hm ?_;have hsz:l.toArray.size=l.length:=by simp
 have hc0:∀ m,m≤n→cnt (st (Array.replicate l.toArray.size false)) m=m:=by
  intro m;induction m with
  | zero=>intro _;rfl
  | succ m ih =>
   intro hm;unfold cnt;rw [ih (by omega)]
   have:st (Array.replicate l.toArray.size false) m=false:=by
    have:m<l.length:=by omega
    simp [st,this]
   rw [this];simp
 have hfrm:∀ (val:Nat→Value) (m:Nat),frm l.toArray val (fun _=>false) m a=a:=fun val m=>by
  induction m with
  | zero=>rfl
  | succ m ih=>unfold frm;simp [ih]
 have hall:∀ m,m≤n→∀ k,k<m→st (Array.replicate l.toArray.size false) k=false:=fun m hm k hk=>by
  have:k<l.length:=by omega
  simp [st,this]
 have hh:HeadInv .any l.toArray n (Array.replicate l.toArray.size false):=by
  refine ⟨by simp,fun j oj hj hl=>?_,fun t ht ht'=>?_⟩
  ·exfalso
   rcases Nat.lt_or_ge j l.length with h | h
   ·simp [h] at hl
   ·simp [h] at hl
  ·have:t<l.length:=by simpa using ht'
   simp [this]
 have key:=DK (Q:=Q) (a0:=a) (l:=l) rfl F (fun L H bs h=>h) n p0 (Array.replicate l.toArray.size false) a _ (fun _=>undef) (fun _=>false) [] L H bs [] (hc0 n (Nat.le_refl _)) h2 h
  ⟨hh,?_,by rw [hfrm];exact f,?_,s.more ((Ext.refl W).drew),fun _ _ _ _ h=>(by cases h),fun _ _ _ _ h=>(by cases h),fun _=>rfl,fun _ _ _ _ h=>(by cases h)⟩
 ·have:n+(l.toArray.size - n)=l.toArray.size:=by rw [hsz];omega
  rw [this] at key;exact key
 ·rw [dL (fun _=>undef) (fun _=>undef) _ (fun _=>false) a n (fun k hk=>⟨hall n (Nat.le_refl _) k hk,fun _=>rfl⟩),hfrm]
 ·intro i hi hs;rw [hall n (Nat.le_refl _) i hi] at hs;cases hs
end
section
variable {dfs:List Deferred} {P:Program} {n:Nat} {L:Sl} {H:Hp} {w0:World} {bs:List Res} {Q:Exit→Act→World→Prop} {ops:Array Oper} {rest:List Oper} {K:Act→World→Prop}
variable {d:Option Tmp} {ty:TypeId} {pos:String} {aft:Array Edge} {v:Value} {t:Tmp} {x y:Operand} {T:TypeId}
theorem TU {g off k c size:Nat} {e:TypeId} {xs vs:List Value} {bs':List Res} (hp:ev L x=some (.pointer (some ⟨g,off,none⟩))) (hv:ev L y=some (.agg vs.toArray)) (hT:bL P T=some vs.length) (h1:∀ u∈vs,u.oneCell'=true)
 (hm:Upd bs (.row e size (.slice (some ⟨g,0,none⟩) k c) k xs) (.row e size (.slice (some ⟨g,0,none⟩) k c) k (dJ xs off vs)) bs') (ho:off+vs.length≤xs.length) (h:At dfs n L H w0 bs' K) :
 At dfs n L H w0 bs (one P ops Q ⟨none,.store T x y,ty,pos,aft,none⟩ K):=by
 intro a W f s;have ho1:W.ownsRow w0.heap.size e size (.slice (some ⟨g,0,none⟩) k c) k xs:=(s.own _ hm.mem).1;rcases ho1.2 with ⟨hr,_⟩ | ⟨g',cap,cur,hr,hbg,hgc,hnc,hcm,hcs,htake⟩
 ·cases hr
 ·injection hr with e1 _ e3
  injection e1 with e1
  injection e1 with e1
  subst e1 e3;obtain ⟨more,hmo⟩:∃ more,more=cur.toList.drop (k * size):=⟨_,rfl⟩;have hcur:cur.toList=xs++more:=by rw [hmo,← htake,List.take_append_drop]
  have hcur2:cur=(xs++more).toArray:=by rw [← hcur]
  obtain ⟨b1,u1,u2⟩:=hm.mid (.box g (xs++more) e);obtain ⟨b2,u3,u4⟩:=u2.mid (.box g (dJ (xs++more) off vs) e);have s1:St H w0 b1 W:=s.put1 u1 ⟨hbg,by rw [hgc,← hcur2]⟩ (fun b e=>e);refine EF hp hv hT rfl h1 u3 (by rw [List.length_append];omega) ?_ a W f s1;intro a W f s2;have ob:=(s2.own _ u4.mem).1;have e4:dJ (xs++more) off vs=dJ xs off vs++more:=rQ vs xs more off ho;have hz:xs.length=k * size:=ho1.1;refine h a W f (s2.put1 u4 ⟨by rw [lX];exact hz,.inr ⟨g,c,(dJ (xs++more) off vs).toArray,rfl,ob.1,ob.2,hnc,hcm,?_,?_⟩⟩ (fun b e=>e))
  ·rw [List.size_toArray,lX,← hcur];simpa using hcs
  ·rw [e4];show List.take (k * size) (dJ xs off vs++more)=dJ xs off vs;rw [List.take_append_of_le_length (by rw [lX];omega),List.take_of_length_le (by rw [lX];omega)]
variable {N hn i kk:Nat} {pa:List (Nat × Oper × Value)} {E:Sl→Hp→List Res→Prop} {q:PlT} {bs':List Res}
theorem iI.sR {g off k c size:Nat} {e:TypeId} {xs vs:List Value} (hp:ev L x=some (.pointer (some ⟨g,off,none⟩))) (hv:ev L y=some (.agg vs.toArray)) (hT:bL P T=some vs.length) (h1:∀ u∈vs,u.oneCell'=true)
 (hm:Upd bs (.row e size (.slice (some ⟨g,0,none⟩) k c) k xs) (.row e size (.slice (some ⟨g,0,none⟩) k c) k (dJ xs off vs)) bs') (ho:off+vs.length≤xs.length)
 (hr:eG dfs P ops hn w0 N L H bs' i pa) (h:dA dfs P ops hn w0 N E q pa L H bs'):iI dfs P ops hn w0 N E i kk ⟨none,.store T x y,ty,pos,aft,none⟩ q pa L H bs :=
 ⟨fun _ e=>(by cases e),TU hp hv hT h1 hm ho (iI.into0 hr h)⟩
theorem iI.st {b off:Nat} {l l':List Value} {t':TypeId} (hm:Upd bs (.box b l t') (.box b l' t') bs') (hp:ev L x=some (.pointer (some ⟨b,off,none⟩))) (hv:ev L y=some v) (hT:bL P T=some 1) (h1:v.oneCell'=true) (ho:off<l.length) (hl:l.set off v=l')
 (hr:eG dfs P ops hn w0 N L H bs' i pa) (h:dA dfs P ops hn w0 N E q pa L H bs'):iI dfs P ops hn w0 N E i kk ⟨none,.store T x y,ty,pos,aft,none⟩ q pa L H bs :=
 ⟨fun _ e=>(by cases e),store hp hv hT h1 hm ho hl (iI.into0 hr h)⟩
theorem iI.apE {e:TypeId} {size bytes m c k:Nat} {p:Option Addr} {r:Value} {xs:List Value} {ds:List D} {bs':List Value→Value→List Res} (hT:gZ P T=some (e,size,bytes)) (hx:ev L x=some r)
 (hm:∀ news r',Upd bs (.row e size r k xs) (.row e size r' (k+m) (xs++news)) (bs' news r')) (hy:ev L y=some (.slice p m c)) (hr:Rep H (.seq size ds) [.slice p m c]) (hpos:0<k+m)
 (h63:k+m≤maxLen) (hb:(k+m) * bytes≤140737488355328) (ht:Nat.blt t N=true)
 (hr2:∀ news r',eG dfs P ops hn w0 N L H (bs' news r') i pa) (h:∀ news g c,aL H size ds news→dA dfs P ops hn w0 N E q pa ((t,.slice (some ⟨g,0,none⟩) (k+m) c)::L) H (bs' news (.slice (some ⟨g,0,none⟩) (k+m) c))) :
 iI dfs P ops hn w0 N E i 2 ⟨some t,.call ⟨.builtin .append,#[x,y],#[T,T]⟩,ty,pos,aft,none⟩ q pa L H bs :=
 ⟨gH ht,uD hT hx hm hy hr h63 hb ht fun news r' hz=>At.rs (hm news r').new hpos fun g c e=>by subst e;exact iI.into (.inr<|.inr<|hr2 _ _) (h news g c hz)⟩
theorem dA.fe {Q:Exit→Act→World→Prop} (h:At dfs N L H w0 bs (Q .normal)):dA dfs P ops hn w0 N (fun L H bs=>At dfs N L H w0 bs (Q .normal)) .done pa L H bs:=h
theorem At.fx {id:Nat} {l:List Oper} {p:PlT} (nn:Nat) (p0:Pi0) (hm:P.follows .mixedOrders=true) (hB:(QO l.toArray nn && okT l.toArray nn [] [] p0)=true) (ht:kC l p0=p)
 (h:dA dfs P l.toArray nn w0 n (fun L H bs=>At dfs n L H w0 bs (Q .normal)) p [] L H bs):At dfs n L H w0 bs ((Code.region id l.toArray true).wp P Q):=VG nn p0 hm hB ht h
end
end Go.Sx
namespace Go.Proofs.YthhoebdlfjffkaaGreatDoor
theorem MC {α:Type} {g:Pz α} {t:Str} (hz:Cz g) (h:(sgZ g t).e=0):(∃ a,g (sg0 t).r=.ok a [])∧(sgZ g t).o=0:=by
 have h0:sg0 t=⟨(sg0 t).r,0,0⟩:=by
  by_cases k:20000<t.length
  ·exfalso
   have e0:sg0 t=⟨[],3,0⟩:=by unfold sg0;rw [if_pos k]
   unfold sgZ at h;rw [e0,kA (by decide)] at h;unfold Sg.cl at h;rw [if_pos rfl] at h;exact absurd (show (3:Nat)=0 from h) (by decide)
  ·unfold sg0;rw [if_neg k]
 cases hg:g (sg0 t).r with
 | er r c =>
  have hu:up t.length g (sg0 t)=⟨r,c,QT t.length r⟩:=by
   rw [h0];unfold up;rw [if_pos rfl];show (match g (sg0 t).r with | .ok _ r=>_ | .er r c=>_)=_;rw [hg]
  unfold sgZ at h;rw [hu] at h;have hc:=hz _ _ _ hg;unfold Sg.cl at h
  split at h
  ·exact absurd h hc
  ·unfold Sg.fail at h;rw [if_neg hc] at h;exact absurd h hc
 | ok a r =>
  have hu:up t.length g (sg0 t)=⟨r,0,0⟩:=by
   rw [h0];unfold up;rw [if_pos rfl];show (match g (sg0 t).r with | .ok _ r=>_ | .er r c=>_)=_;rw [hg]
  unfold sgZ at h ⊢;rw [hu] at h ⊢
  by_cases hr:r=[]
  ·subst hr;exact ⟨⟨a,rfl⟩,rfl⟩
  ·exfalso
   unfold Sg.cl at h;rw [if_neg hr] at h;exact absurd h (by unfold Sg.fail;simp)
end Go.Proofs.YthhoebdlfjffkaaGreatDoor
namespace Go.Proofs.YthhoebdlfjffkaaGreatDoor
open Go.RowKit Go.Par Go.Sx
theorem jS (H:Hp):Rep H (dEx .u8 (opE 0 [])) [.int .u8 0,.string ⟨#[]⟩,.int .i64 0,.slice none 0 0]:=dM (op:=0) (nm:=[]) (n:=0) (args:=[]) (by decide) (Rep.empty (p:=none) (c:=0) (by decide))
theorem dT {H:Hp} {z k:Nat} {ds:List D} {d0 d:D} {xs news vs:List Value} (hz:aL H z ds xs) (hn:aL H z [d0] news) (hd:Rep H d vs) (hl:vs.length=z) (hk:ds.length=k):aL H z (ds++[d]) (dJ (xs++news) (k * z) vs):=by
 subst hk;have h:=aL.put hd hl (hz.app hn) (i:=ds.length) (by simp)
 rwa [List.set_append_right _ _ (Nat.le_refl _),Nat.sub_self,List.set_cons_zero] at h
inductive kZ (n:Nat) (q:Sg):List Str→Sg→List Ex→Prop
 | one {e:Ex}:vl (gX 0) q e→kZ n q [] (up n (gX 0) q) [e]
 | more {L:List Str} {q1:Sg} {l:List Ex} {w:Str} {e:Ex}:kZ n q L q1 l→vl (gX 0) (up n (gNd w) q1) e→kZ n q (L++[w]) (up n (gX 0) (up n (gNd w) q1)) (l++[e])
theorem kZ.len {n:Nat} {q q1:Sg} {L:List Str} {l:List Ex} (h:kZ n q L q1 l):l.length=L.length+1:=by
 induction h with
 | one _=>rfl
 | more _ _ ih=>simp [ih]
theorem kZ.step {n:Nat} {q q1:Sg} {L:List Str} {l:List Ex} {i:Nat} {e:Ex} (hi:i<L.length) (h:kZ n q (L.take i) q1 l) (he:vl (gX 0) (up n (gNd L[i]) q1) e):kZ n q (L.take (i+1)) (up n (gX 0) (up n (gNd L[i]) q1)) (l++[e]):=by
 rw [bK hi];exact .more h he
theorem sI {H:Hp} {w0 W:World} {bs:List Res} {b n:Nat} {ts:List Tk} {tp:Option Addr} {tc:Nat} {t0 t1 t2 t3:Value} {q:Sg} (K:Tkm H ts tp tc) (hq:q.r<:+ts) (bS bP:Nat) (c0 c1 c2 c4 c5:Value) (es:List Ex) (vp:Option Addr) (vc:Nat) (xs:List Value) (L:List Str) (hL:∀ w∈L,w∈words∨w∈symbols) (sp:Option Addr) (sc:Nat) (hs:Rep H (.seq 1 (L.map wK)) [.slice sp L.length sc]) (hz:aL H 4 (es.map (dEx .u8)) xs) (hk:es.length+L.length≤1000000)
 (s:St H w0 (.row 27 4 (.slice vp es.length vc) es.length xs::.box b [.slice tp ts.length tc,.int .i64 (bT ts q:Nat),.int .i64 (n:Nat),t0,t1,t2,t3,.int .i64 (q.o:Nat),.int .i64 (q.e:Nat)] 99::.box bS [c0,c1,c2,.slice vp es.length vc,c4,c5] 208::.box bP [.pointer (some ⟨b,0,none⟩)] 65::bs) W) :
 Calls Tryz.prog 174 #[.slice sp L.length sc,.pointer (some ⟨bS,0,none⟩),.pointer (some ⟨bP,0,none⟩)] W fun e W'=>∃ z:List Ex × Nat × Option Addr × Nat × List Value × Hp × Sg,(kZ n q L z.2.2.2.2.2.2 z.1∧z.2.1=es.length+z.1.length∧HUp w0 H z.2.2.2.2.2.1∧aL z.2.2.2.2.2.1 4 ((es++z.1).map (dEx .u8)) z.2.2.2.2.1∧z.2.2.2.2.2.2.r<:+ts)∧e=.returned (.tuple #[]) ∧
  St z.2.2.2.2.2.1 w0 (.row 27 4 (.slice z.2.2.1 z.2.1 z.2.2.2.1) z.2.1 z.2.2.2.2.1::.box b [.slice tp ts.length tc,.int .i64 (bT ts z.2.2.2.2.2.2:Nat),.int .i64 (n:Nat),t0,t1,t2,t3,.int .i64 (z.2.2.2.2.2.2.o:Nat),.int .i64 (z.2.2.2.2.2.2.e:Nat)] 99::.box bS [c0,c1,c2,.slice z.2.2.1 z.2.1 z.2.2.2.1,c4,c5] 208::.box bP [.pointer (some ⟨b,0,none⟩)] 65::bs) W':=by
 have hx0:=hz.len;rw [List.length_map] at hx0;have hscap:=hs.cap;refine Sx.enterS Tryz.func174 rfl Tryz.ntmps174 rfl s ?_;refine .cu (X:=List Ex × Nat × Option Addr × Nat × List Value × Hp × Sg) [(0,_),(1,_),(2,_)] ⟨rfl,rfl,rfl,trivial⟩ (fun z=>[]) (fun z=>z.2.2.2.2.2.1) (fun z=>(.row 27 4 (.slice z.2.2.1 z.2.1 z.2.2.2.1) z.2.1 z.2.2.2.2.1::.box b [.slice tp ts.length tc,.int .i64 (bT ts z.2.2.2.2.2.2:Nat),.int .i64 (n:Nat),t0,t1,t2,t3,.int .i64 (z.2.2.2.2.2.2.o:Nat),.int .i64 (z.2.2.2.2.2.2.e:Nat)] 99::.box bS [c0,c1,c2,.slice z.2.2.1 z.2.1 z.2.2.2.1,c4,c5] 208::.box bP [.pointer (some ⟨b,0,none⟩)] 65::bs)) (fun z=>kZ n q (L.take (0)) z.2.2.2.2.2.2 z.1∧z.2.1=es.length+z.1.length∧HUp w0 H z.2.2.2.2.2.1∧aL z.2.2.2.2.2.1 4 ((es++z.1).map (dEx .u8)) z.2.2.2.2.1∧z.2.2.2.2.2.2.r<:+ts) ?_ fun z hC=>?_
 ·
  refine .fx (p:=.light _ _ (.light _ _ (.light _ _ (.light _ _ (.alt _ _ _ (.alt _ _ _ (.alt _ _ _ (.light _ _ (.light _ _ (.alt _ _ _ (.alt _ _ _ (.done) (.no)) (.alt _ _ _ (.alt _ _ _ (.done) (.no)) (.no))))) (.no)) (.no)) (.alt _ _ _ (.alt _ _ _ (.alt _ _ _ (.light _ _ (.light _ _ (.alt _ _ _ (.alt _ _ _ (.done) (.no)) (.alt _ _ _ (.alt _ _ _ (.done) (.no)) (.no))))) (.no)) (.no)) (.no))))))) 11 (.light 0 (.light 1 (.light 2 (.light 4 (.alt 3 2 (.alt 5 0 (.alt 6 2 (.light 7 (.light 9 (.alt 8 2 (.alt 10 2 (.done) (.no)) (.alt 10 2 (.alt 8 2 (.done) (.no)) (.no))))) (.no)) (.no)) (.alt 5 0 (.alt 3 2 (.alt 6 2 (.light 7 (.light 9 (.alt 8 2 (.alt 10 2 (.done) (.no)) (.alt 10 2 (.alt 8 2 (.done) (.no)) (.no))))) (.no)) (.no)) (.no))))))) (by kernel_rfl) (by kernel_rfl) Z<|.yw (.fieldAddr Z Fx.field208_3)<|.yw (.load Z Fx.agg25 cC Z)<|.yw (.load Z Fx.agg65 gN Z)<|.yw (.lenSl Fx.sl25 Z)<|.h ?_ (.h ?_ .nn)
  ·
   refine .c3 (X:=Ex × List Value × Hp) Fx.call23 Z (fun W s=>fV K hq (s.p4_4 [1,0,2,3] Z)) Z (fun _ _=>(.yv (.lenSl Fx.sl25 Z)<|.dn<|.yv (.load Z Fx.agg25 cC Z)<|.yv (.fieldAddr Z Fx.field208_3)<|.nl)) fun z1 hz1=>?_;obtain ⟨a1,c1,H1⟩:=z1;obtain ⟨hv1,u1,r1⟩:=hz1;dsimp only at hv1 u1 r1 ⊢;obtain ⟨x1,x2,x3,x4,rfl⟩:=jJ (eJ r1);refine .h1<|.blF Z (Fx.bsl25_1 _ _ _ _) Z fun b11 H3 u3 m3=>.h1<|.apE Fx.row25 Z (fun _ _=>bQ) Z (Rep.mk (n:=1) (c:=1) (ds:=[dEx .u8 (opE 0 [])]) m3 (.single (jS _) Z) Z (Nat.le_refl _) (by decide)) (by omega) (by simp only [maxLen];omega) (by omega) Z (fun _ _=>(.dn<|.dn<|.dn<|.dn<|.nl)) fun news g12 cc12 hn=>.yw (.indexSl Fx.sl25 Z Z (i:=es.length) Z (by omega) (q:=es.length * 4) (by omega))<|.yw (.fieldAddr Z Fx.field208_3)<|.h ?_ (.h ?_ .nn)
   ·
    exact .sR Z Z Fx.size27 (Rep.one r1) bQ (by have:=hn.len;simp only [List.length_append,List.length_cons,List.length_nil] at * <;> omega) (.yv (.fieldAddr Z Fx.field208_3)<|.dn<|.dn<|.dn<|.dn<|.dn<|.nl) <|.h1<|.st cJ Z Z Fx.size25 Z (nb Z) Z ((.dn<|.yv (.indexSl Fx.sl25 Z Z (i:=es.length) Z (by omega) (q:=es.length * 4) (by omega))<|.dn<|.dn<|.dn<|.dn<|.nl))<|.fe<|.tN<|.me ([a1],es.length+1,some ⟨g12,0,none⟩,cc12,dJ (xs++news) (es.length * 4) [x1,x2,x3,x4],H3,up n (gX 0) q) trivial ⟨rfl,rfl,rfl,trivial⟩ (fun _ s=>(s.p4_4 [1,0,2,3] Z)) ⟨.one hv1,rfl,u1.trans u3,(by rw [List.map_append];exact dT (hz.up (u1.trans u3).up) hn (r1.up u3.up) Z (by simp)),(Suf.ex 0).up hq⟩
   exact .st cJ Z Z Fx.size25 Z (nb Z) Z ((.dn<|.yv (.indexSl Fx.sl25 Z Z (i:=es.length) Z (by omega) (q:=es.length * 4) (by omega))<|.dn<|.dn<|.dn<|.dn<|.nl))<|.h1<|.sR Z Z Fx.size27 (Rep.one r1) bQ (by have:=hn.len;simp only [List.length_append,List.length_cons,List.length_nil] at * <;> omega) (.yv (.fieldAddr Z Fx.field208_3)<|.dn<|.dn<|.dn<|.dn<|.dn<|.nl) <|.fe<|.tN<|.me ([a1],es.length+1,some ⟨g12,0,none⟩,cc12,dJ (xs++news) (es.length * 4) [x1,x2,x3,x4],H3,up n (gX 0) q) trivial ⟨rfl,rfl,rfl,trivial⟩ (fun _ s=>(s.p4_4 [1,0,2,3] Z)) ⟨.one hv1,rfl,u1.trans u3,(by rw [List.map_append];exact dT (hz.up (u1.trans u3).up) hn (r1.up u3.up) Z (by simp)),(Suf.ex 0).up hq⟩
  refine .blF Z (Fx.bsl25_1 _ _ _ _) Z fun b11 H3 u3 m3=>.h1<|.c3 (X:=Ex × List Value × Hp) Fx.call23 Z (fun W s=>fV (K.up u3.up) hq (s.p4_4 [1,0,2,3] Z)) Z (fun _ _=>(.yv (.lenSl Fx.sl25 Z)<|.dn<|.yv (.load Z Fx.agg25 cC Z)<|.yv (.fieldAddr Z Fx.field208_3)<|.nl)) fun z1 hz1=>?_
  obtain ⟨a1,c1,H1⟩:=z1;obtain ⟨hv1,u1,r1⟩:=hz1;dsimp only at hv1 u1 r1 ⊢;obtain ⟨x1,x2,x3,x4,rfl⟩:=jJ (eJ r1);refine .h1<|.apE Fx.row25 Z (fun _ _=>bQ) Z (Rep.mk (n:=1) (c:=1) (ds:=[dEx .u8 (opE 0 [])]) (m3.up u1.up) (.single (jS _) Z) Z (Nat.le_refl _) (by decide)) (by omega) (by simp only [maxLen];omega) (by omega) Z (fun _ _=>(.dn<|.dn<|.dn<|.dn<|.nl)) fun news g12 cc12 hn=>.yw (.indexSl Fx.sl25 Z Z (i:=es.length) Z (by omega) (q:=es.length * 4) (by omega))<|.yw (.fieldAddr Z Fx.field208_3)<|.h ?_ (.h ?_ .nn)
  ·
   exact .sR Z Z Fx.size27 (Rep.one r1) bQ (by have:=hn.len;simp only [List.length_append,List.length_cons,List.length_nil] at * <;> omega) (.yv (.fieldAddr Z Fx.field208_3)<|.dn<|.dn<|.dn<|.dn<|.dn<|.nl) <|.h1<|.st cJ Z Z Fx.size25 Z (nb Z) Z ((.dn<|.yv (.indexSl Fx.sl25 Z Z (i:=es.length) Z (by omega) (q:=es.length * 4) (by omega))<|.dn<|.dn<|.dn<|.dn<|.nl))<|.fe<|.tN<|.me ([a1],es.length+1,some ⟨g12,0,none⟩,cc12,dJ (xs++news) (es.length * 4) [x1,x2,x3,x4],H1,up n (gX 0) q) trivial ⟨rfl,rfl,rfl,trivial⟩ (fun _ s=>(s.p4_4 [1,0,2,3] Z)) ⟨.one hv1,rfl,u3.trans u1,(by rw [List.map_append];exact dT (hz.up (u3.trans u1).up) hn (r1) Z (by simp)),(Suf.ex 0).up hq⟩
  exact .st cJ Z Z Fx.size25 Z (nb Z) Z ((.dn<|.yv (.indexSl Fx.sl25 Z Z (i:=es.length) Z (by omega) (q:=es.length * 4) (by omega))<|.dn<|.dn<|.dn<|.dn<|.nl))<|.h1<|.sR Z Z Fx.size27 (Rep.one r1) bQ (by have:=hn.len;simp only [List.length_append,List.length_cons,List.length_nil] at * <;> omega) (.yv (.fieldAddr Z Fx.field208_3)<|.dn<|.dn<|.dn<|.dn<|.dn<|.nl) <|.fe<|.tN<|.me ([a1],es.length+1,some ⟨g12,0,none⟩,cc12,dJ (xs++news) (es.length * 4) [x1,x2,x3,x4],H1,up n (gX 0) q) trivial ⟨rfl,rfl,rfl,trivial⟩ (fun _ s=>(s.p4_4 [1,0,2,3] Z)) ⟨.one hv1,rfl,u3.trans u1,(by rw [List.map_append];exact dT (hz.up (u3.trans u1).up) hn (r1) Z (by simp)),(Suf.ex 0).up hq⟩
 obtain ⟨l,k,p,c,xs,H4,q1⟩:=z;obtain ⟨hR,hkk,u4,hz4,hq1⟩:=hC;dsimp only at hR hkk u4 hz4 hq1 ⊢;have K4:=K.up u4.up;clear hz;refine .sr<|.mv Z<|.yw (.lenSl Fx.sl52 Z)<|.mv Z<|.nt<|.bk<|.lp (X:=Nat × List Ex × Nat × Option Addr × Nat × List Value × Hp × Sg) [(1,_),(2,_),(15,_),(16,_)] ⟨rfl,rfl,rfl,rfl,trivial⟩ (bs) (fun y=>[(17,.int .i64 (y.1:Nat))]) (fun y=>y.2.2.2.2.2.2.1) (fun y=>[.row 27 4 (.slice y.2.2.2.1 y.2.2.1 y.2.2.2.2.1) y.2.2.1 y.2.2.2.2.2.1,.box b [.slice tp ts.length tc,.int .i64 (bT ts y.2.2.2.2.2.2.2:Nat),.int .i64 (n:Nat),t0,t1,t2,t3,.int .i64 (y.2.2.2.2.2.2.2.o:Nat),.int .i64 (y.2.2.2.2.2.2.2.e:Nat)] 99,.box bS [c0,c1,c2,.slice y.2.2.2.1 y.2.2.1 y.2.2.2.2.1,c4,c5] 208,.box bP [.pointer (some ⟨b,0,none⟩)] 65]) (fun y=>y.1≤L.length∧kZ n q (L.take (y.1)) y.2.2.2.2.2.2.2 y.2.1∧y.2.2.1=es.length+y.2.1.length∧HUp w0 H y.2.2.2.2.2.2.1∧aL y.2.2.2.2.2.2.1 4 ((es++y.2.1).map (dEx .u8)) y.2.2.2.2.2.1∧y.2.2.2.2.2.2.2.r<:+ts) (fun y=>L.length - y.1) (0,l,k,p,c,xs,H4,q1) (fun _ s=>s) ⟨rfl,trivial⟩ ⟨Nat.zero_le _,hR,hkk,u4,hz4,hq1⟩ fun y hC=>?_
 obtain ⟨i,l,k,p,c,xs,H6,q6⟩:=y;obtain ⟨hi0,hR6,hk6,u6,hz6,hq6⟩:=hC;dsimp only at hi0 hR6 hk6 u6 hz6 hq6 ⊢;have K6:=K.up u6.up;have hl6:=hR6.len;rw [List.length_take] at hl6;have hx6:=hz6.len;rw [List.length_map,List.length_append] at hx6;refine .sr<|.yw (.lss Z Z)<|.nt<|.sq<|.cd Z (fun h18=>?_) (fun h18=>?_)
 ·try simp only [dt] at h18
  have hi:i<L.length:=by omega
  obtain ⟨bE,oE,cE,hpE,rE,lE,mE⟩:=(hs.up u6.up).elem (bB (f:=wK) hi);cases hpE;obtain rfl:=IW rE;refine .sk<|.tN<|.sq<|.bk<|.sr<|.yw (.indexSl Fx.sl52 Z Z Z (by omega) (q:=oE+i * 1) Z)<|.yw (.loadM Z Fx.agg9 mE (k:=0) Z Z)<|.a Z Z<|.ns<|.yw (.load Z Fx.agg65 gN Z)<|.mv Z<|.cs (X:=Unit) Fx.call73 Z (fun W s=>aP K6 hq6 L[i] (hL _ (List.getElem_mem hi)) (s.p4_4 [1,0,2,3] Z)) Z fun _ _=>.nt<|.fx (p:=.light _ _ (.light _ _ (.light _ _ (.light _ _ (.alt _ _ _ (.alt _ _ _ (.alt _ _ _ (.light _ _ (.light _ _ (.alt _ _ _ (.alt _ _ _ (.done) (.no)) (.alt _ _ _ (.alt _ _ _ (.done) (.no)) (.no))))) (.no)) (.no)) (.alt _ _ _ (.alt _ _ _ (.alt _ _ _ (.light _ _ (.light _ _ (.alt _ _ _ (.alt _ _ _ (.done) (.no)) (.alt _ _ _ (.alt _ _ _ (.done) (.no)) (.no))))) (.no)) (.no)) (.no))))))) 11 (.light 0 (.light 1 (.light 2 (.light 4 (.alt 3 2 (.alt 5 0 (.alt 6 2 (.light 7 (.light 9 (.alt 8 2 (.alt 10 2 (.done) (.no)) (.alt 10 2 (.alt 8 2 (.done) (.no)) (.no))))) (.no)) (.no)) (.alt 5 0 (.alt 3 2 (.alt 6 2 (.light 7 (.light 9 (.alt 8 2 (.alt 10 2 (.done) (.no)) (.alt 10 2 (.alt 8 2 (.done) (.no)) (.no))))) (.no)) (.no)) (.no))))))) (by kernel_rfl) (by kernel_rfl) Z<|.yw (.fieldAddr Z Fx.field208_3)<|.yw (.load Z Fx.agg25 cC Z)<|.yw (.load Z Fx.agg65 gN Z)<|.yw (.lenSl Fx.sl25 Z)<|.h ?_ (.h ?_ .nn)
  ·
   refine .c3 (X:=Ex × List Value × Hp) Fx.call23 Z (fun W s=>fV K6 ((Suf.nd _).up hq6) (s.p4_4 [0,1,2,3] Z)) Z (fun _ _=>(.yv (.lenSl Fx.sl25 Z)<|.dn<|.yv (.load Z Fx.agg25 cC Z)<|.yv (.fieldAddr Z Fx.field208_3)<|.nl)) fun z1 hz1=>?_;obtain ⟨a15,c1,H15⟩:=z1;obtain ⟨hv15,u15,r15⟩:=hz1;dsimp only at hv15 u15 r15 ⊢;obtain ⟨x15,x25,x35,x45,rfl⟩:=jJ (eJ r15);refine .h1<|.blF Z (Fx.bsl25_1 _ _ _ _) Z fun b29 H35 u35 m35=>.h1<|.apE Fx.row25 Z (fun _ _=>bQ) Z (Rep.mk (n:=1) (c:=1) (ds:=[dEx .u8 (opE 0 [])]) m35 (.single (jS _) Z) Z (Nat.le_refl _) (by decide)) (by omega) (by simp only [maxLen];omega) (by omega) Z (fun _ _=>(.dn<|.dn<|.dn<|.dn<|.nl)) fun news5 g30 cc30 hn5=>.yw (.indexSl Fx.sl25 Z Z (i:=k) Z (by omega) (q:=k * 4) (by omega))<|.yw (.fieldAddr Z Fx.field208_3)<|.h ?_ (.h ?_ .nn)
   ·
    exact .sR Z Z Fx.size27 (Rep.one r15) bQ (by have:=hn5.len;simp only [List.length_append,List.length_cons,List.length_nil] at * <;> omega) (.yv (.fieldAddr Z Fx.field208_3)<|.dn<|.dn<|.dn<|.dn<|.dn<|.nl) <|.h1<|.st cJ Z Z Fx.size25 Z (nb Z) Z ((.dn<|.yv (.indexSl Fx.sl25 Z Z (i:=k) Z (by omega) (q:=k * 4) (by omega))<|.dn<|.dn<|.dn<|.dn<|.nl))<|.fe<|.bN<|.tN<|.rg<|.yw (.add Z Z (w6 (by omega)))<|.mv Z<|.nt<|.ag (x:=(i,l,k,p,c,xs,H6,q6)) (i+1,l++[a15],k+1,some ⟨g30,0,none⟩,cc30,dJ (xs++news5) (k * 4) [x15,x25,x35,x45],H35,up n (gX 0) (up n (gNd L[i]) q6)) ⟨rfl,trivial⟩ ⟨rfl,rfl,rfl,rfl,trivial⟩ (fun _ s=>(s.p4_4 [1,0,2,3] Z)) ⟨by show i+1≤_;omega,hR6.step hi hv15,(by dsimp only;rw [List.length_append];simp only [List.length_cons,List.length_nil];omega),u6.trans (u15.trans u35),(by dsimp only;rw [← List.append_assoc,List.map_append];exact dT (hz6.up (u15.trans u35).up) hn5 (r15.up u35.up) Z (by simp;omega)),(Suf.ex 0).up ((Suf.nd _).up hq6)⟩ (by show L.length - (i+1)<L.length - i;omega)
   exact .st cJ Z Z Fx.size25 Z (nb Z) Z ((.dn<|.yv (.indexSl Fx.sl25 Z Z (i:=k) Z (by omega) (q:=k * 4) (by omega))<|.dn<|.dn<|.dn<|.dn<|.nl))<|.h1<|.sR Z Z Fx.size27 (Rep.one r15) bQ (by have:=hn5.len;simp only [List.length_append,List.length_cons,List.length_nil] at * <;> omega) (.yv (.fieldAddr Z Fx.field208_3)<|.dn<|.dn<|.dn<|.dn<|.dn<|.nl) <|.fe<|.bN<|.tN<|.rg<|.yw (.add Z Z (w6 (by omega)))<|.mv Z<|.nt<|.ag (x:=(i,l,k,p,c,xs,H6,q6)) (i+1,l++[a15],k+1,some ⟨g30,0,none⟩,cc30,dJ (xs++news5) (k * 4) [x15,x25,x35,x45],H35,up n (gX 0) (up n (gNd L[i]) q6)) ⟨rfl,trivial⟩ ⟨rfl,rfl,rfl,rfl,trivial⟩ (fun _ s=>(s.p4_4 [1,0,2,3] Z)) ⟨by show i+1≤_;omega,hR6.step hi hv15,(by dsimp only;rw [List.length_append];simp only [List.length_cons,List.length_nil];omega),u6.trans (u15.trans u35),(by dsimp only;rw [← List.append_assoc,List.map_append];exact dT (hz6.up (u15.trans u35).up) hn5 (r15.up u35.up) Z (by simp;omega)),(Suf.ex 0).up ((Suf.nd _).up hq6)⟩ (by show L.length - (i+1)<L.length - i;omega)
  refine .blF Z (Fx.bsl25_1 _ _ _ _) Z fun b29 H35 u35 m35=>.h1<|.c3 (X:=Ex × List Value × Hp) Fx.call23 Z (fun W s=>fV (K6.up u35.up) ((Suf.nd _).up hq6) (s.p4_4 [0,1,2,3] Z)) Z (fun _ _=>(.yv (.lenSl Fx.sl25 Z)<|.dn<|.yv (.load Z Fx.agg25 cC Z)<|.yv (.fieldAddr Z Fx.field208_3)<|.nl)) fun z1 hz1=>?_
  obtain ⟨a15,c1,H15⟩:=z1;obtain ⟨hv15,u15,r15⟩:=hz1;dsimp only at hv15 u15 r15 ⊢;obtain ⟨x15,x25,x35,x45,rfl⟩:=jJ (eJ r15);refine .h1<|.apE Fx.row25 Z (fun _ _=>bQ) Z (Rep.mk (n:=1) (c:=1) (ds:=[dEx .u8 (opE 0 [])]) (m35.up u15.up) (.single (jS _) Z) Z (Nat.le_refl _) (by decide)) (by omega) (by simp only [maxLen];omega) (by omega) Z (fun _ _=>(.dn<|.dn<|.dn<|.dn<|.nl)) fun news5 g30 cc30 hn5=>.yw (.indexSl Fx.sl25 Z Z (i:=k) Z (by omega) (q:=k * 4) (by omega))<|.yw (.fieldAddr Z Fx.field208_3)<|.h ?_ (.h ?_ .nn)
  ·
   exact .sR Z Z Fx.size27 (Rep.one r15) bQ (by have:=hn5.len;simp only [List.length_append,List.length_cons,List.length_nil] at * <;> omega) (.yv (.fieldAddr Z Fx.field208_3)<|.dn<|.dn<|.dn<|.dn<|.dn<|.nl) <|.h1<|.st cJ Z Z Fx.size25 Z (nb Z) Z ((.dn<|.yv (.indexSl Fx.sl25 Z Z (i:=k) Z (by omega) (q:=k * 4) (by omega))<|.dn<|.dn<|.dn<|.dn<|.nl))<|.fe<|.bN<|.tN<|.rg<|.yw (.add Z Z (w6 (by omega)))<|.mv Z<|.nt<|.ag (x:=(i,l,k,p,c,xs,H6,q6)) (i+1,l++[a15],k+1,some ⟨g30,0,none⟩,cc30,dJ (xs++news5) (k * 4) [x15,x25,x35,x45],H15,up n (gX 0) (up n (gNd L[i]) q6)) ⟨rfl,trivial⟩ ⟨rfl,rfl,rfl,rfl,trivial⟩ (fun _ s=>(s.p4_4 [1,0,2,3] Z)) ⟨by show i+1≤_;omega,hR6.step hi hv15,(by dsimp only;rw [List.length_append];simp only [List.length_cons,List.length_nil];omega),u6.trans (u35.trans u15),(by dsimp only;rw [← List.append_assoc,List.map_append];exact dT (hz6.up (u35.trans u15).up) hn5 (r15) Z (by simp;omega)),(Suf.ex 0).up ((Suf.nd _).up hq6)⟩ (by show L.length - (i+1)<L.length - i;omega)
  exact .st cJ Z Z Fx.size25 Z (nb Z) Z ((.dn<|.yv (.indexSl Fx.sl25 Z Z (i:=k) Z (by omega) (q:=k * 4) (by omega))<|.dn<|.dn<|.dn<|.dn<|.nl))<|.h1<|.sR Z Z Fx.size27 (Rep.one r15) bQ (by have:=hn5.len;simp only [List.length_append,List.length_cons,List.length_nil] at * <;> omega) (.yv (.fieldAddr Z Fx.field208_3)<|.dn<|.dn<|.dn<|.dn<|.dn<|.nl) <|.fe<|.bN<|.tN<|.rg<|.yw (.add Z Z (w6 (by omega)))<|.mv Z<|.nt<|.ag (x:=(i,l,k,p,c,xs,H6,q6)) (i+1,l++[a15],k+1,some ⟨g30,0,none⟩,cc30,dJ (xs++news5) (k * 4) [x15,x25,x35,x45],H15,up n (gX 0) (up n (gNd L[i]) q6)) ⟨rfl,trivial⟩ ⟨rfl,rfl,rfl,rfl,trivial⟩ (fun _ s=>(s.p4_4 [1,0,2,3] Z)) ⟨by show i+1≤_;omega,hR6.step hi hv15,(by dsimp only;rw [List.length_append];simp only [List.length_cons,List.length_nil];omega),u6.trans (u35.trans u15),(by dsimp only;rw [← List.append_assoc,List.map_append];exact dT (hz6.up (u35.trans u15).up) hn5 (r15) Z (by simp;omega)),(Suf.ex 0).up ((Suf.nd _).up hq6)⟩ (by show L.length - (i+1)<L.length - i;omega)
 try simp only [df] at h18
 obtain rfl:i=L.length:=by omega
 rw [List.take_length] at hR6;refine .ex<|.tE<|.tE<|.bE<|?_
 refine Sx.retN (.inr rfl) rfl .nil rfl fun W s=>⟨(l,k,p,c,xs,H6,q6),⟨hR6,hk6,u6,hz6,hq6⟩,rfl,?_⟩;exact s.p4_4 [0,1,2,3] rfl
theorem Fx.agg118:dF Tryz.prog 118=some none:=by kernel_rfl
theorem Fx.call174:aM Tryz.prog 174=Bool.true:=by kernel_rfl
theorem Fx.call175:aM Tryz.prog 175=Bool.true:=by kernel_rfl
theorem kZ.nil {n:Nat} {q q1:Sg} {l:List Ex} (h:kZ n q [] q1 l):q1=up n (gX 0) q∧∃ e,l=[e]∧vl (gX 0) q e:=by
 generalize hL:([]:List Str)=L at h;cases h with
 | one hv=>exact ⟨rfl,_,rfl,hv⟩
 | more _ _=>simp at hL
theorem MU {H:Hp} {w0 W:World} {bs:List Res} {b n:Nat} {ts:List Tk} {tp:Option Addr} {tc:Nat} {t0 t1 t2 t3:Value} {q:Sg} (K:Tkm H ts tp tc) (hq:q.r<:+ts) (bS bP bF:Nat) (c0 c1 c2 c4 c5:Value) (es:List Ex) (k0:Nat) (hk0:k0=es.length) (vp:Option Addr) (vc:Nat) (xs0:List Value) (hz:aL H 4 (es.map (dEx .u8)) xs0) (hk:k0≤1000000) (s:St H w0 (.row 27 4 (.slice vp k0 vc) k0 xs0::.box b [.slice tp ts.length tc,.int .i64 (bT ts q:Nat),.int .i64 (n:Nat),t0,t1,t2,t3,.int .i64 (q.o:Nat),.int .i64 (q.e:Nat)] 99::.box bS [c0,c1,c2,.slice vp k0 vc,c4,c5] 208::.box bP [.pointer (some ⟨b,0,none⟩)] 65::.box bF [.func (.func 174) #[] #[.pointer (some ⟨bS,0,none⟩),.pointer (some ⟨bP,0,none⟩)]] 118::bs) W) :
 Calls Tryz.prog 175 #[.pointer (some ⟨bF,0,none⟩)] W fun e W'=>∃ z:Ex × Nat × Option Addr × Nat × List Value × Hp,(vl (gX 0) q z.1∧z.2.1=es.length+1∧HUp w0 H z.2.2.2.2.2∧aL z.2.2.2.2.2 4 ((es++[z.1]).map (dEx .u8)) z.2.2.2.2.1)∧e=.returned (.tuple #[])∧St z.2.2.2.2.2 w0 (.row 27 4 (.slice z.2.2.1 z.2.1 z.2.2.2.1) z.2.1 z.2.2.2.2.1::.box b [.slice tp ts.length tc,.int .i64 (bT ts (up n (gX 0) q):Nat),.int .i64 (n:Nat),t0,t1,t2,t3,.int .i64 ((up n (gX 0) q).o:Nat),.int .i64 ((up n (gX 0) q).e:Nat)] 99::.box bS [c0,c1,c2,.slice z.2.2.1 z.2.1 z.2.2.2.1,c4,c5] 208::.box bP [.pointer (some ⟨b,0,none⟩)] 65::.box bF [.func (.func 174) #[] #[.pointer (some ⟨bS,0,none⟩),.pointer (some ⟨bP,0,none⟩)]] 118::bs) W':=by
 subst hk0;refine Sx.enterS Tryz.func175 rfl Tryz.ntmps175 rfl s ?_;refine .rg<|.yw (.load Z Fx.agg118 tC Z)<|.sv (X:=List Ex × Nat × Option Addr × Nat × List Value × Hp × Sg) (fi:=[]) (ca:=[.pointer (some ⟨bS,0,none⟩),.pointer (some ⟨bP,0,none⟩)]) Z Fx.call174 Z (fun W s=>sI K hq bS bP c0 c1 c2 c4 c5 es vp vc xs0 [] (fun w h=>by cases h) none 0 (Rep.empty (p:=none) (c:=0) (by decide)) hz (by simp only [List.length_nil];omega) (s.p5_5 [0,1,2,3,4] Z)) Z fun z2 hz2=>?_
 obtain ⟨l2,k2,p2,c2',xs2,H2,q2⟩:=z2;obtain ⟨hR,hk2,u2,hz2,hq2⟩:=hz2;dsimp only at hR hk2 u2 hz2 hq2 ⊢;obtain ⟨rfl,e2,rfl,hv2⟩:=kZ.nil hR;refine .nl<|?_
 refine Sx.retN (.inr rfl) rfl .nil rfl fun W s=>⟨(e2,k2,p2,c2',xs2,H2),⟨hv2,hk2,u2,hz2⟩,rfl,?_⟩;exact s.p5_5 [0,1,2,3,4] rfl
theorem HA {H:Hp} {w0 W:World} {bs:List Res} {b n:Nat} {ts:List Tk} {tp:Option Addr} {tc:Nat} {t0 t1 t2 t3:Value} {q:Sg} (K:Tkm H ts tp tc) (hq:q.r<:+ts) (bS bP bF:Nat) (c0 c1 c2 c4 c5:Value) (es:List Ex) (k0:Nat) (hk0:k0=es.length) (vp:Option Addr) (vc:Nat) (xs0:List Value) (hz:aL H 4 (es.map (dEx .u8)) xs0) (hk:k0+q.mu≤900000) (s:St H w0 (.row 27 4 (.slice vp k0 vc) k0 xs0::.box b [.slice tp ts.length tc,.int .i64 (bT ts q:Nat),.int .i64 (n:Nat),t0,t1,t2,t3,.int .i64 (q.o:Nat),.int .i64 (q.e:Nat)] 99::.box bS [c0,c1,c2,.slice vp k0 vc,c4,c5] 208::.box bP [.pointer (some ⟨b,0,none⟩)] 65::.box bF [.func (.func 174) #[] #[.pointer (some ⟨bS,0,none⟩),.pointer (some ⟨bP,0,none⟩)]] 118::bs) W) :
 Calls Tryz.prog 147 #[.pointer (some ⟨b,0,none⟩),.func (.func 175) #[] #[.pointer (some ⟨bF,0,none⟩)]] W fun e W'=>∃ z:List Ex × Nat × Option Addr × Nat × List Value × Hp,(vl (dY (gX 0)) q z.1∧z.2.1=es.length+z.1.length∧HUp w0 H z.2.2.2.2.2∧aL z.2.2.2.2.2 4 ((es++z.1).map (dEx .u8)) z.2.2.2.2.1)∧e=.returned (.tuple #[])∧St z.2.2.2.2.2 w0 (.row 27 4 (.slice z.2.2.1 z.2.1 z.2.2.2.1) z.2.1 z.2.2.2.2.1::.box b [.slice tp ts.length tc,.int .i64 (bT ts (up n (dY (gX 0)) q):Nat),.int .i64 (n:Nat),t0,t1,t2,t3,.int .i64 ((up n (dY (gX 0)) q).o:Nat),.int .i64 ((up n (dY (gX 0)) q).e:Nat)] 99::.box bS [c0,c1,c2,.slice z.2.2.1 z.2.1 z.2.2.2.1,c4,c5] 208::.box bP [.pointer (some ⟨b,0,none⟩)] 65::.box bF [.func (.func 174) #[] #[.pointer (some ⟨bS,0,none⟩),.pointer (some ⟨bP,0,none⟩)]] 118::bs) W':=by
 refine Sx.enterS Tryz.func147 rfl Tryz.ntmps147 rfl s ?_;refine .sr<|.mv Z<|.cs (X:=Unit) Fx.call73 Z (fun W s=>aP K hq [40] (by decide +kernel) (s.p5_5 [1,0,2,3,4] Z)) Z fun _ _=>.nt<|.sq<|.sr<|.mv Z<|.cs (X:=Unit) Fx.call72 Z (fun W s=>bM K ((Suf.nd _).up hq) [41] (by decide +kernel) (s.p5_5 [0,1,2,3,4] Z)) Z fun _ _=>.nt<|.cd Z (fun h7=>?_) (fun h7=>?_)
 ·rw [fJ h7];refine .rt<|.tR<|?_
  refine Sx.retN (.inl rfl) rfl .nil rfl fun W s=>⟨([],k0,vp,vc,xs0,H),⟨(by unfold dY;exact aC (n:=n) (x:=()) aG (bY h7 aX)),hk0,.refl,(by rw [List.append_nil];exact hz)⟩,rfl,?_⟩;rw [show up n (dY (gX 0)) q=(up n (gNd [40]) q).tl by unfold dY;rw [aA (x:=()) (Cz.nd _) aG,cQ h7,aZ]];exact s.p5_5 [1,0,2,3,4] rfl
 rw [fK h7];refine .sk<|.tN<|.sr<|.mv Z<|.sv (X:=Ex × Nat × Option Addr × Nat × List Value × Hp) (fi:=[]) (ca:=[.pointer (some ⟨bF,0,none⟩)]) Z Fx.call175 Z (fun W s=>MU K ((Suf.nd _).up hq) bS bP bF c0 c1 c2 c4 c5 es k0 hk0 vp vc xs0 hz (by omega) (s.p5_5 [1,0,2,3,4] Z)) Z fun z1 hz1=>?_
 obtain ⟨e1,k1,p1,c1',xs1,H1⟩:=z1;obtain ⟨hv1,hk1,u1,hz1⟩:=hz1;dsimp only at hv1 hk1 u1 hz1 ⊢;have K1:=K.up u1.up;refine .nt<|.sq<|.bk<|.lp (X:=List Ex × Nat × Option Addr × Nat × List Value × Hp × Sg) [(0,_),(1,_)] ⟨rfl,rfl,trivial⟩ (_::_::bs) (fun y=>[]) (fun y=>y.2.2.2.2.2.1) (fun y=>[.row 27 4 (.slice y.2.2.1 y.2.1 y.2.2.2.1) y.2.1 y.2.2.2.2.1,.box b [.slice tp ts.length tc,.int .i64 (bT ts y.2.2.2.2.2.2:Nat),.int .i64 (n:Nat),t0,t1,t2,t3,.int .i64 (y.2.2.2.2.2.2.o:Nat),.int .i64 (y.2.2.2.2.2.2.e:Nat)] 99,.box bS [c0,c1,c2,.slice y.2.2.1 y.2.1 y.2.2.2.1,c4,c5] 208]) (fun y=>∃ l,y.1=e1::l∧MnI n [44] (gX 0) (up n (gX 0) (up n (gNd [40]) q)) l y.2.2.2.2.2.2∧y.2.1=es.length+y.1.length∧HUp w0 H y.2.2.2.2.2.1∧aL y.2.2.2.2.2.1 4 ((es++y.1).map (dEx .u8)) y.2.2.2.2.1∧y.2.2.2.2.2.2.r<:+ts) (fun y=>y.2.2.2.2.2.2.mu) ([e1],k1,p1,c1',xs1,H1,up n (gX 0) (up n (gNd [40]) q)) (fun _ s=>s) trivial ⟨[],rfl,MnI.start,hk1,u1,hz1,(Suf.ex 0).up ((Suf.nd _).up hq)⟩ fun y hC=>?_
 obtain ⟨l0,k,p,c,xs,H2,q2⟩:=y;obtain ⟨l,hl0,hI,hkl,u2,hzl,hq2⟩:=hC;dsimp only at hl0 hI hkl u2 hzl hq2 ⊢;subst hl0;have K2:=K.up u2.up;have hlen:=hI.len;have hmu2:=eN (n:=n) (s:=(up n (gNd [40]) q)) (Shs.gx 0).le (Cz.ex 0);have hmu1:=eN (n:=n) (s:=q) (Shs.nd [40]).le (Cz.nd [40]);rw [List.length_cons] at hkl;refine .sq<|.sr<|.mv Z<|.cs (X:=Unit) Fx.call72 Z (fun W s=>bM K2 hq2 [44] (by decide +kernel) (s.p5_5 [1,0,2,3,4] Z)) Z fun _ _=>.nt<|.cd Z (fun h11=>?_) (fun h11=>?_)
 ·rw [fJ h11];refine .sk<|.tN<|.bk<|.rg<|.mv Z<|.sv (X:=Ex × Nat × Option Addr × Nat × List Value × Hp) (fi:=[]) (ca:=[.pointer (some ⟨bF,0,none⟩)]) Z Fx.call175 Z (fun W s=>MU K2 (Suf.tl hq2) bS bP bF c0 c1 c2 c4 c5 (es++(e1::l)) k (by rw [List.length_append,List.length_cons];exact hkl) p c xs hzl (by omega) (s.p5_5 [1,0,2,3,4] Z)) Z fun z3 hz3=>?_
  obtain ⟨e3,k3,p3,c3,xs3,H3⟩:=z3;obtain ⟨hv3,hk3,u3,hz3⟩:=hz3;dsimp only at hv3 hk3 u3 hz3 ⊢;exact .nl<|.bN<|.tN<|.ag (x:=(e1::l,k,p,c,xs,H2,q2)) ((e1::l)++[e3],k3,p3,c3,xs3,H3,up n (gX 0) q2.tl) trivial ⟨rfl,rfl,trivial⟩ (fun _ s=>s) ⟨l++[e3],rfl,(hI.step (Shs.gx 0).le (Cz.ex 0) h11 hv3).1,(by dsimp only;rw [List.length_append] at hk3;simp only [List.length_append,List.length_cons,List.length_nil] at *;omega),u2.trans u3,(by dsimp only;rw [← List.append_assoc];exact hz3),(Suf.ex 0).up (Suf.tl hq2)⟩ (hI.step (Shs.gx 0).le (Cz.ex 0) h11 hv3).2
 rw [fK h11];obtain ⟨eS,hvS⟩:=hI.stop (Shs.gx 0).le h11;refine .ex<|.tE<|.tE<|.bE<|.tN<|.rg<|.mv Z<|.cs (X:=Unit) Fx.call73 Z (fun W s=>aP K2 hq2 [41] (by decide +kernel) (s.p5_5 [0,1,2,3,4] Z)) Z fun _ _=>.nl<|?_
 refine Sx.retN (.inr rfl) rfl .nil rfl fun W s=>⟨(e1::l,k,p,c,xs,H2),⟨(by unfold dY;exact aC (n:=n) (x:=()) aG (aJ h7 (aC (n:=n) hv1 (aC (n:=n) hvS (aC (n:=n) (x:=()) aG aX))))),(by dsimp only;rw [List.length_cons];exact hkl),u2,hzl⟩,rfl,?_⟩;rw [show up n (dY (gX 0)) q=up n (gNd [41]) q2 by unfold dY;rw [aA (x:=()) (Cz.nd _) aG,aK h7,aA (Cz.ex _) hv1,aA (.many (Cz.ex _)) hvS,eS,aA (x:=()) (Cz.nd _) aG,aZ]];exact s.p5_5 [1,0,2,3,4] rfl
theorem Fx.size206:bL Tryz.prog 206=some 1:=by kernel_rfl
def hG:Pz Sm:=cM [100,101,108,101,116,101] (aF gNm fun n=>aF (gNd [91]) fun _=>aF (gX 0) fun e=>aF (gNd [93]) fun _=>aO (.mk 3 n [] [e] [] []))<|aF gNm fun n=>cM [91] (aF (gX 0) fun e=>aF (gNd [93]) fun _=>aF (gNd [61]) fun _=>aF (gX 0) fun e2=>aO (.mk 2 n [] [e,e2] [] []))
 (aF (gNd [61]) fun _=>aF (gX 0) fun e=>aO (.mk 1 n [] [e] [] []))
theorem OM {H:Hp} {w0 W:World} {bs:List Res} {b n:Nat} {ts:List Tk} {tp:Option Addr} {tc:Nat} {t0 t1 t2 t3:Value} {q:Sg} (K:Tkm H ts tp tc) (hq:q.r<:+ts) (w:Str) (hw:w∈words∨w∈symbols) (h:ac w q=true) (s:St H w0 (.box b [.slice tp ts.length tc,.int .i64 (bT ts q:Nat),.int .i64 (n:Nat),t0,t1,t2,t3,.int .i64 (q.o:Nat),.int .i64 (q.e:Nat)] 99::bs) W):Calls Tryz.prog 73 #[.pointer (some ⟨b,0,none⟩),aB w] W fun e W'=>∃ _:Unit,(True)∧e=.returned (.tuple #[])∧St H w0 (.box b [.slice tp ts.length tc,.int .i64 (bT ts q.tl:Nat),.int .i64 (n:Nat),t0,t1,t2,t3,.int .i64 (q.tl.o:Nat),.int .i64 (q.tl.e:Nat)] 99::bs) W':=by
 have h1:=aP K hq w hw s;rw [yX h] at h1;exact h1
theorem KP {H:Hp} {w0 W:World} {bs:List Res} {b n:Nat} {ts:List Tk} {tp:Option Addr} {tc:Nat} {t0 t1 t2 t3:Value} {q:Sg} (K:Tkm H ts tp tc) (hq:q.r<:+ts) (bS:Nat) (c0 c1 c2 c4 c5:Value) (vp:Option Addr) (vc:Nat) (s:St H w0 (.row 27 4 (.slice vp 0 vc) 0 []::.box b [.slice tp ts.length tc,.int .i64 (bT ts q:Nat),.int .i64 (n:Nat),t0,t1,t2,t3,.int .i64 (q.o:Nat),.int .i64 (q.e:Nat)] 99::.box bS [c0,c1,c2,.slice vp 0 vc,c4,c5] 208::bs) W) :
 Calls Tryz.prog 177 #[.pointer (some ⟨b,0,none⟩),.pointer (some ⟨bS,0,none⟩)] W fun e W'=>∃ z:UInt8 × Str × List Ex × Nat × Option Addr × Nat × List Value × Hp,(vl hG q (.mk z.1 z.2.1 [] z.2.2.1 [] [])∧z.2.1.length≤1000000∧z.2.2.2.1=z.2.2.1.length∧HUp w0 H z.2.2.2.2.2.2.2∧aL z.2.2.2.2.2.2.2 4 (z.2.2.1.map (dEx .u8)) z.2.2.2.2.2.2.1)∧e=.returned (.tuple #[]) ∧
  St z.2.2.2.2.2.2.2 w0 (.row 27 4 (.slice z.2.2.2.2.1 z.2.2.2.1 z.2.2.2.2.2.1) z.2.2.2.1 z.2.2.2.2.2.2.1::.box b [.slice tp ts.length tc,.int .i64 (bT ts (up n hG q):Nat),.int .i64 (n:Nat),t0,t1,t2,t3,.int .i64 ((up n hG q).o:Nat),.int .i64 ((up n hG q).e:Nat)] 99::.box bS [.int .u8 z.1.toNat,aB z.2.1,c2,.slice z.2.2.2.2.1 z.2.2.2.1 z.2.2.2.2.2.1,c4,c5] 208::bs) W':=by
 refine Sx.enterS Tryz.func177 rfl Tryz.ntmps177 rfl s ?_;refine .sr<|.mv Z<|.yw (.nilCheck Z)<|.yw (.fieldAddr Z Fx.field208_0)<|.st cJ Z Z Fx.size206 Z (nb Z) Z<|.ns<|.mv Z<|.cs (X:=Unit) Fx.call72 Z (fun W s=>bM K hq [100,101,108,101,116,101] (by decide +kernel) (s.p3_3 [1,0,2] Z)) Z fun _ _=>.a Z Z<|.ns<|.mv Z<|.mv Z<|.cs (X:=Str) Fx.call74 Z (fun W s=>fO K (IC hq)  (s.p3_3 [0,1,2] Z)) Z fun nm hnm=>.yw (.nilCheck Z)<|.yw (.fieldAddr Z Fx.field208_1)<|.st cJ Z Z Fx.size9 Z (nb Z) Z<|.nt<|.sq<|.sr<|.mv Z<|.mv Z<|.b2 (fun h16=>?_) (fun h16=>?_)
 ·rw [fJ h16] at hnm ⊢;refine .gG<|.gG<|.yw (.pickT Z Z)<|.nt<|.cT Z<|.sr<|.mv Z<|.yw (.nilCheck Z)<|.yw (.fieldAddr Z Fx.field208_0)<|.st cJ Z Z Fx.size206 Z (nb Z) Z<|.ns<|.mv Z<|.cs (X:=Unit) Fx.call73 Z (fun W s=>aP K (Suf.nm.up (Suf.tl hq)) [91] (by decide +kernel) (s.p3_3 [0,1,2] Z)) Z fun _ _=>.nt<|.cu (X:=Ex × Option Addr × Nat × List Value × Hp) [(0,_),(1,_),(4,_)] ⟨rfl,rfl,rfl,trivial⟩ (fun z=>[]) (fun z=>z.2.2.2.2) (fun z=>(.row 27 4 (.slice z.2.1 1 z.2.2.1) 1 z.2.2.2.1::.box b [.slice tp ts.length tc,.int .i64 (bT ts (up n (gX 0) (up n (gNd [91]) (up n gNm q.tl))):Nat),.int .i64 (n:Nat),t0,t1,t2,t3,.int .i64 ((up n (gX 0) (up n (gNd [91]) (up n gNm q.tl))).o:Nat),.int .i64 ((up n (gX 0) (up n (gNd [91]) (up n gNm q.tl))).e:Nat)] 99::.box bS [.int .u8 2,aB nm,c2,.slice z.2.1 1 z.2.2.1,c4,c5] 208::bs)) (fun z=>vl (gX 0) (up n (gNd [91]) (up n gNm q.tl)) z.1∧HUp w0 H z.2.2.2.2∧aL z.2.2.2.2 4 [dEx .u8 z.1] z.2.2.2.1) ?_ fun z hC=>?_
  ·
   refine .fx (p:=.light _ _ (.light _ _ (.light _ _ (.light _ _ (.light _ _ (.light _ _ (.alt _ _ _ (.alt _ _ _ (.alt _ _ _ (.light _ _ (.light _ _ (.light _ _ (.alt _ _ _ (.alt _ _ _ (.done) (.no)) (.alt _ _ _ (.alt _ _ _ (.done) (.no)) (.no)))))) (.no)) (.no)) (.alt _ _ _ (.alt _ _ _ (.alt _ _ _ (.light _ _ (.light _ _ (.light _ _ (.alt _ _ _ (.alt _ _ _ (.done) (.no)) (.alt _ _ _ (.alt _ _ _ (.done) (.no)) (.no)))))) (.no)) (.no)) (.no))))))))) 14 (.light 0 (.light 1 (.light 2 (.light 3 (.light 4 (.light 6 (.alt 5 2 (.alt 7 0 (.alt 8 2 (.light 9 (.light 11 (.light 12 (.alt 10 2 (.alt 13 2 (.done) (.no)) (.alt 13 2 (.alt 10 2 (.done) (.no)) (.no)))))) (.no)) (.no)) (.alt 7 0 (.alt 5 2 (.alt 8 2 (.light 9 (.light 11 (.light 12 (.alt 10 2 (.alt 13 2 (.done) (.no)) (.alt 13 2 (.alt 10 2 (.done) (.no)) (.no)))))) (.no)) (.no)) (.no))))))))) (by kernel_rfl) (by kernel_rfl) Z<|.mv Z<|.yw (.nilCheck Z)<|.yw (.fieldAddr Z Fx.field208_3)<|.yw (.load Z Fx.agg25 cC Z)<|.mv Z<|.yw (.lenSl Fx.sl25 Z)<|.h ?_ (.h ?_ .nn)
   ·
    refine .c3 (X:=Ex × List Value × Hp) Fx.call23 Z (fun W s=>fV K ((Suf.nd _).up (Suf.nm.up (Suf.tl hq))) (s.p3_3 [0,1,2] Z)) Z (fun _ _=>(.yv (.lenSl Fx.sl25 Z)<|.dn<|.yv (.load Z Fx.agg25 cC Z)<|.yv (.fieldAddr Z Fx.field208_3)<|.yv (.nilCheck Z)<|.yv (.move Z)<|.nl)) fun z1 hz1=>?_;obtain ⟨a1,c1,H1⟩:=z1;obtain ⟨hv1,u1,r1⟩:=hz1;dsimp only at hv1 u1 r1 ⊢;obtain ⟨x1,x2,x3,x4,rfl⟩:=jJ (eJ r1);refine .h1<|.blF Z (Fx.bsl25_1 _ _ _ _) Z fun b32 H3 u3 m3=>.h1<|.apE Fx.row25 Z (fun _ _=>bQ) Z (Rep.mk (n:=1) (c:=1) (ds:=[dEx .u8 (opE 0 [])]) m3 (.single (jS _) Z) Z (Nat.le_refl _) (by decide)) (by omega) (by simp only [maxLen];omega) (by omega) Z (fun _ _=>(.dn<|.dn<|.dn<|.dn<|.dn<|.dn<|.nl)) fun news g33 cc33 hn=>.yw (.indexSl Fx.sl25 Z Z (i:=0) Z (by omega) (q:=0 * 4) (by omega))<|.yw (.nilCheck Z)<|.yw (.fieldAddr Z Fx.field208_3)<|.h ?_ (.h ?_ .nn)
    ·
     exact .sR Z Z Fx.size27 (Rep.one r1) bQ (by have:=hn.len;simp only [List.length_append,List.length_cons,List.length_nil] at * <;> omega) (.yv (.fieldAddr Z Fx.field208_3)<|.yv (.nilCheck Z)<|.dn<|.dn<|.dn<|.dn<|.dn<|.dn<|.dn<|.nl) <|.h1<|.st cJ Z Z Fx.size25 Z (nb Z) Z ((.dn<|.dn<|.yv (.indexSl Fx.sl25 Z Z (i:=0) Z (by omega) (q:=0 * 4) (by omega))<|.dn<|.dn<|.dn<|.dn<|.dn<|.dn<|.nl))<|.fe<|.tN<|.me (a1,some ⟨g33,0,none⟩,cc33,dJ ([]++news) (0 * 4) [x1,x2,x3,x4],H3) trivial ⟨rfl,rfl,rfl,trivial⟩ (fun _ s=>(s.p3_3 [1,0,2] Z)) ⟨hv1,(u1.trans u3),dT (ds:=[]) aL.nil hn (r1.up u3.up) Z Z⟩
    exact .st cJ Z Z Fx.size25 Z (nb Z) Z ((.dn<|.dn<|.yv (.indexSl Fx.sl25 Z Z (i:=0) Z (by omega) (q:=0 * 4) (by omega))<|.dn<|.dn<|.dn<|.dn<|.dn<|.dn<|.nl))<|.h1<|.sR Z Z Fx.size27 (Rep.one r1) bQ (by have:=hn.len;simp only [List.length_append,List.length_cons,List.length_nil] at * <;> omega) (.yv (.fieldAddr Z Fx.field208_3)<|.yv (.nilCheck Z)<|.dn<|.dn<|.dn<|.dn<|.dn<|.dn<|.dn<|.nl) <|.fe<|.tN<|.me (a1,some ⟨g33,0,none⟩,cc33,dJ ([]++news) (0 * 4) [x1,x2,x3,x4],H3) trivial ⟨rfl,rfl,rfl,trivial⟩ (fun _ s=>(s.p3_3 [1,0,2] Z)) ⟨hv1,(u1.trans u3),dT (ds:=[]) aL.nil hn (r1.up u3.up) Z Z⟩
   refine .blF Z (Fx.bsl25_1 _ _ _ _) Z fun b32 H3 u3 m3=>.h1<|.c3 (X:=Ex × List Value × Hp) Fx.call23 Z (fun W s=>fV (K.up u3.up) ((Suf.nd _).up (Suf.nm.up (Suf.tl hq))) (s.p3_3 [0,1,2] Z)) Z (fun _ _=>(.yv (.lenSl Fx.sl25 Z)<|.dn<|.yv (.load Z Fx.agg25 cC Z)<|.yv (.fieldAddr Z Fx.field208_3)<|.yv (.nilCheck Z)<|.yv (.move Z)<|.nl)) fun z1 hz1=>?_
   obtain ⟨a1,c1,H1⟩:=z1;obtain ⟨hv1,u1,r1⟩:=hz1;dsimp only at hv1 u1 r1 ⊢;obtain ⟨x1,x2,x3,x4,rfl⟩:=jJ (eJ r1);refine .h1<|.apE Fx.row25 Z (fun _ _=>bQ) Z (Rep.mk (n:=1) (c:=1) (ds:=[dEx .u8 (opE 0 [])]) (m3.up u1.up) (.single (jS _) Z) Z (Nat.le_refl _) (by decide)) (by omega) (by simp only [maxLen];omega) (by omega) Z (fun _ _=>(.dn<|.dn<|.dn<|.dn<|.dn<|.dn<|.nl)) fun news g33 cc33 hn=>.yw (.indexSl Fx.sl25 Z Z (i:=0) Z (by omega) (q:=0 * 4) (by omega))<|.yw (.nilCheck Z)<|.yw (.fieldAddr Z Fx.field208_3)<|.h ?_ (.h ?_ .nn)
   ·
    exact .sR Z Z Fx.size27 (Rep.one r1) bQ (by have:=hn.len;simp only [List.length_append,List.length_cons,List.length_nil] at * <;> omega) (.yv (.fieldAddr Z Fx.field208_3)<|.yv (.nilCheck Z)<|.dn<|.dn<|.dn<|.dn<|.dn<|.dn<|.dn<|.nl) <|.h1<|.st cJ Z Z Fx.size25 Z (nb Z) Z ((.dn<|.dn<|.yv (.indexSl Fx.sl25 Z Z (i:=0) Z (by omega) (q:=0 * 4) (by omega))<|.dn<|.dn<|.dn<|.dn<|.dn<|.dn<|.nl))<|.fe<|.tN<|.me (a1,some ⟨g33,0,none⟩,cc33,dJ ([]++news) (0 * 4) [x1,x2,x3,x4],H1) trivial ⟨rfl,rfl,rfl,trivial⟩ (fun _ s=>(s.p3_3 [1,0,2] Z)) ⟨hv1,(u3.trans u1),dT (ds:=[]) aL.nil hn r1 Z Z⟩
   exact .st cJ Z Z Fx.size25 Z (nb Z) Z ((.dn<|.dn<|.yv (.indexSl Fx.sl25 Z Z (i:=0) Z (by omega) (q:=0 * 4) (by omega))<|.dn<|.dn<|.dn<|.dn<|.dn<|.dn<|.nl))<|.h1<|.sR Z Z Fx.size27 (Rep.one r1) bQ (by have:=hn.len;simp only [List.length_append,List.length_cons,List.length_nil] at * <;> omega) (.yv (.fieldAddr Z Fx.field208_3)<|.yv (.nilCheck Z)<|.dn<|.dn<|.dn<|.dn<|.dn<|.dn<|.dn<|.nl) <|.fe<|.tN<|.me (a1,some ⟨g33,0,none⟩,cc33,dJ ([]++news) (0 * 4) [x1,x2,x3,x4],H1) trivial ⟨rfl,rfl,rfl,trivial⟩ (fun _ s=>(s.p3_3 [1,0,2] Z)) ⟨hv1,(u3.trans u1),dT (ds:=[]) aL.nil hn r1 Z Z⟩
  obtain ⟨e6,p6,c6,xs6,H6⟩:=z;obtain ⟨hv6,u6,hz6⟩:=hC;dsimp only at hv6 u6 hz6 ⊢;have K6:=K.up u6.up;have hx6:=hz6.len;refine .rg<|.mv Z<|.cs (X:=Unit) Fx.call73 Z (fun W s=>aP K6 ((Suf.ex 0).up ((Suf.nd _).up (Suf.nm.up (Suf.tl hq)))) [93] (by decide +kernel) (s.p3_3 [1,0,2] Z)) Z fun _ _=>.nt<|.sq<|.sr<|.mv Z<|.nt<|.cd Z (fun h39=>?_) (fun h39=>?_)
  ·skip
   refine .sr<|.mv Z<|.yw (.nilCheck Z)<|.yw (.fieldAddr Z Fx.field208_0)<|.st cJ Z Z Fx.size206 Z (nb Z) Z<|.nt<|.rt<|.tR<|?_
   refine Sx.retN (.inl rfl) rfl .nil rfl fun W s=>⟨(3,nm,[e6],1,p6,c6,xs6,H6),⟨by unfold hG;exact bY h16 (aC (n:=n) hnm.1 (aC (n:=n) (x:=()) aG (aC (n:=n) hv6 (aC (n:=n) (x:=()) aG aX)))),hnm.2,rfl,u6,hz6⟩,rfl,?_⟩;rw [show up n hG q=up n (gNd [93]) (up n (gX 0) (up n (gNd [91]) (up n gNm q.tl))) by unfold hG;rw [cQ h16,aA Cz.nm hnm.1,aA (x:=()) (Cz.nd _) aG,aA (Cz.ex _) hv6,aA (x:=()) (Cz.nd _) aG,aZ]];exact s.p3_3 [1,0,2] rfl
  exact absurd (h39.symm.trans h16) (by decide)
 rw [fK h16] at hnm ⊢;refine .gd Z Z<|.yw (.move Z)<|.gd Z Z<|.cs (X:=Unit) Fx.call118 Z (fun W s=>NV K (Suf.nm.up hq) [91] (by decide +kernel) (s.p3_3 [0,1,2] Z)) Z fun _ _=>.yw (.pickF Z Z)<|.nt<|.cd Z (fun h19=>?_) (fun h19=>?_)
 ·skip
  refine .sr<|.mv Z<|.yw (.nilCheck Z)<|.yw (.fieldAddr Z Fx.field208_0)<|.st cJ Z Z Fx.size206 Z (nb Z) Z<|.ns<|.mv Z<|.cs (X:=Unit) Fx.call73 Z (fun W s=>OM K (Suf.nm.up hq) [91] (by decide +kernel) h19 (s.p3_3 [0,1,2] Z)) Z fun _ _=>.nt<|.cu (X:=Ex × Option Addr × Nat × List Value × Hp) [(0,_),(1,_),(4,_)] ⟨rfl,rfl,rfl,trivial⟩ (fun z=>[]) (fun z=>z.2.2.2.2) (fun z=>(.row 27 4 (.slice z.2.1 1 z.2.2.1) 1 z.2.2.2.1::.box b [.slice tp ts.length tc,.int .i64 (bT ts (up n (gX 0) (up n gNm q).tl):Nat),.int .i64 (n:Nat),t0,t1,t2,t3,.int .i64 ((up n (gX 0) (up n gNm q).tl).o:Nat),.int .i64 ((up n (gX 0) (up n gNm q).tl).e:Nat)] 99::.box bS [.int .u8 2,aB nm,c2,.slice z.2.1 1 z.2.2.1,c4,c5] 208::bs)) (fun z=>vl (gX 0) (up n gNm q).tl z.1∧HUp w0 H z.2.2.2.2∧aL z.2.2.2.2 4 [dEx .u8 z.1] z.2.2.2.1) ?_ fun z hC=>?_
  ·
   refine .fx (p:=.light _ _ (.light _ _ (.light _ _ (.light _ _ (.light _ _ (.light _ _ (.alt _ _ _ (.alt _ _ _ (.alt _ _ _ (.light _ _ (.light _ _ (.light _ _ (.alt _ _ _ (.alt _ _ _ (.done) (.no)) (.alt _ _ _ (.alt _ _ _ (.done) (.no)) (.no)))))) (.no)) (.no)) (.alt _ _ _ (.alt _ _ _ (.alt _ _ _ (.light _ _ (.light _ _ (.light _ _ (.alt _ _ _ (.alt _ _ _ (.done) (.no)) (.alt _ _ _ (.alt _ _ _ (.done) (.no)) (.no)))))) (.no)) (.no)) (.no))))))))) 14 (.light 0 (.light 1 (.light 2 (.light 3 (.light 4 (.light 6 (.alt 5 2 (.alt 7 0 (.alt 8 2 (.light 9 (.light 11 (.light 12 (.alt 10 2 (.alt 13 2 (.done) (.no)) (.alt 13 2 (.alt 10 2 (.done) (.no)) (.no)))))) (.no)) (.no)) (.alt 7 0 (.alt 5 2 (.alt 8 2 (.light 9 (.light 11 (.light 12 (.alt 10 2 (.alt 13 2 (.done) (.no)) (.alt 13 2 (.alt 10 2 (.done) (.no)) (.no)))))) (.no)) (.no)) (.no))))))))) (by kernel_rfl) (by kernel_rfl) Z<|.mv Z<|.yw (.nilCheck Z)<|.yw (.fieldAddr Z Fx.field208_3)<|.yw (.load Z Fx.agg25 cC Z)<|.mv Z<|.yw (.lenSl Fx.sl25 Z)<|.h ?_ (.h ?_ .nn)
   ·
    refine .c3 (X:=Ex × List Value × Hp) Fx.call23 Z (fun W s=>fV K (Suf.tl (Suf.nm.up hq)) (s.p3_3 [0,1,2] Z)) Z (fun _ _=>(.yv (.lenSl Fx.sl25 Z)<|.dn<|.yv (.load Z Fx.agg25 cC Z)<|.yv (.fieldAddr Z Fx.field208_3)<|.yv (.nilCheck Z)<|.yv (.move Z)<|.nl)) fun z1 hz1=>?_;obtain ⟨a1,c1,H1⟩:=z1;obtain ⟨hv1,u1,r1⟩:=hz1;dsimp only at hv1 u1 r1 ⊢;obtain ⟨x1,x2,x3,x4,rfl⟩:=jJ (eJ r1);refine .h1<|.blF Z (Fx.bsl25_1 _ _ _ _) Z fun b32 H3 u3 m3=>.h1<|.apE Fx.row25 Z (fun _ _=>bQ) Z (Rep.mk (n:=1) (c:=1) (ds:=[dEx .u8 (opE 0 [])]) m3 (.single (jS _) Z) Z (Nat.le_refl _) (by decide)) (by omega) (by simp only [maxLen];omega) (by omega) Z (fun _ _=>(.dn<|.dn<|.dn<|.dn<|.dn<|.dn<|.nl)) fun news g33 cc33 hn=>.yw (.indexSl Fx.sl25 Z Z (i:=0) Z (by omega) (q:=0 * 4) (by omega))<|.yw (.nilCheck Z)<|.yw (.fieldAddr Z Fx.field208_3)<|.h ?_ (.h ?_ .nn)
    ·
     exact .sR Z Z Fx.size27 (Rep.one r1) bQ (by have:=hn.len;simp only [List.length_append,List.length_cons,List.length_nil] at * <;> omega) (.yv (.fieldAddr Z Fx.field208_3)<|.yv (.nilCheck Z)<|.dn<|.dn<|.dn<|.dn<|.dn<|.dn<|.dn<|.nl) <|.h1<|.st cJ Z Z Fx.size25 Z (nb Z) Z ((.dn<|.dn<|.yv (.indexSl Fx.sl25 Z Z (i:=0) Z (by omega) (q:=0 * 4) (by omega))<|.dn<|.dn<|.dn<|.dn<|.dn<|.dn<|.nl))<|.fe<|.tN<|.me (a1,some ⟨g33,0,none⟩,cc33,dJ ([]++news) (0 * 4) [x1,x2,x3,x4],H3) trivial ⟨rfl,rfl,rfl,trivial⟩ (fun _ s=>(s.p3_3 [1,0,2] Z)) ⟨hv1,(u1.trans u3),dT (ds:=[]) aL.nil hn (r1.up u3.up) Z Z⟩
    exact .st cJ Z Z Fx.size25 Z (nb Z) Z ((.dn<|.dn<|.yv (.indexSl Fx.sl25 Z Z (i:=0) Z (by omega) (q:=0 * 4) (by omega))<|.dn<|.dn<|.dn<|.dn<|.dn<|.dn<|.nl))<|.h1<|.sR Z Z Fx.size27 (Rep.one r1) bQ (by have:=hn.len;simp only [List.length_append,List.length_cons,List.length_nil] at * <;> omega) (.yv (.fieldAddr Z Fx.field208_3)<|.yv (.nilCheck Z)<|.dn<|.dn<|.dn<|.dn<|.dn<|.dn<|.dn<|.nl) <|.fe<|.tN<|.me (a1,some ⟨g33,0,none⟩,cc33,dJ ([]++news) (0 * 4) [x1,x2,x3,x4],H3) trivial ⟨rfl,rfl,rfl,trivial⟩ (fun _ s=>(s.p3_3 [1,0,2] Z)) ⟨hv1,(u1.trans u3),dT (ds:=[]) aL.nil hn (r1.up u3.up) Z Z⟩
   refine .blF Z (Fx.bsl25_1 _ _ _ _) Z fun b32 H3 u3 m3=>.h1<|.c3 (X:=Ex × List Value × Hp) Fx.call23 Z (fun W s=>fV (K.up u3.up) (Suf.tl (Suf.nm.up hq)) (s.p3_3 [0,1,2] Z)) Z (fun _ _=>(.yv (.lenSl Fx.sl25 Z)<|.dn<|.yv (.load Z Fx.agg25 cC Z)<|.yv (.fieldAddr Z Fx.field208_3)<|.yv (.nilCheck Z)<|.yv (.move Z)<|.nl)) fun z1 hz1=>?_
   obtain ⟨a1,c1,H1⟩:=z1;obtain ⟨hv1,u1,r1⟩:=hz1;dsimp only at hv1 u1 r1 ⊢;obtain ⟨x1,x2,x3,x4,rfl⟩:=jJ (eJ r1);refine .h1<|.apE Fx.row25 Z (fun _ _=>bQ) Z (Rep.mk (n:=1) (c:=1) (ds:=[dEx .u8 (opE 0 [])]) (m3.up u1.up) (.single (jS _) Z) Z (Nat.le_refl _) (by decide)) (by omega) (by simp only [maxLen];omega) (by omega) Z (fun _ _=>(.dn<|.dn<|.dn<|.dn<|.dn<|.dn<|.nl)) fun news g33 cc33 hn=>.yw (.indexSl Fx.sl25 Z Z (i:=0) Z (by omega) (q:=0 * 4) (by omega))<|.yw (.nilCheck Z)<|.yw (.fieldAddr Z Fx.field208_3)<|.h ?_ (.h ?_ .nn)
   ·
    exact .sR Z Z Fx.size27 (Rep.one r1) bQ (by have:=hn.len;simp only [List.length_append,List.length_cons,List.length_nil] at * <;> omega) (.yv (.fieldAddr Z Fx.field208_3)<|.yv (.nilCheck Z)<|.dn<|.dn<|.dn<|.dn<|.dn<|.dn<|.dn<|.nl) <|.h1<|.st cJ Z Z Fx.size25 Z (nb Z) Z ((.dn<|.dn<|.yv (.indexSl Fx.sl25 Z Z (i:=0) Z (by omega) (q:=0 * 4) (by omega))<|.dn<|.dn<|.dn<|.dn<|.dn<|.dn<|.nl))<|.fe<|.tN<|.me (a1,some ⟨g33,0,none⟩,cc33,dJ ([]++news) (0 * 4) [x1,x2,x3,x4],H1) trivial ⟨rfl,rfl,rfl,trivial⟩ (fun _ s=>(s.p3_3 [1,0,2] Z)) ⟨hv1,(u3.trans u1),dT (ds:=[]) aL.nil hn r1 Z Z⟩
   exact .st cJ Z Z Fx.size25 Z (nb Z) Z ((.dn<|.dn<|.yv (.indexSl Fx.sl25 Z Z (i:=0) Z (by omega) (q:=0 * 4) (by omega))<|.dn<|.dn<|.dn<|.dn<|.dn<|.dn<|.nl))<|.h1<|.sR Z Z Fx.size27 (Rep.one r1) bQ (by have:=hn.len;simp only [List.length_append,List.length_cons,List.length_nil] at * <;> omega) (.yv (.fieldAddr Z Fx.field208_3)<|.yv (.nilCheck Z)<|.dn<|.dn<|.dn<|.dn<|.dn<|.dn<|.dn<|.nl) <|.fe<|.tN<|.me (a1,some ⟨g33,0,none⟩,cc33,dJ ([]++news) (0 * 4) [x1,x2,x3,x4],H1) trivial ⟨rfl,rfl,rfl,trivial⟩ (fun _ s=>(s.p3_3 [1,0,2] Z)) ⟨hv1,(u3.trans u1),dT (ds:=[]) aL.nil hn r1 Z Z⟩
  obtain ⟨e6,p6,c6,xs6,H6⟩:=z;obtain ⟨hv6,u6,hz6⟩:=hC;dsimp only at hv6 u6 hz6 ⊢;have K6:=K.up u6.up;have hx6:=hz6.len;refine .rg<|.mv Z<|.cs (X:=Unit) Fx.call73 Z (fun W s=>aP K6 ((Suf.ex 0).up (Suf.tl (Suf.nm.up hq))) [93] (by decide +kernel) (s.p3_3 [1,0,2] Z)) Z fun _ _=>.nt<|.sq<|.sr<|.mv Z<|.nt<|.cd Z (fun h39=>?_) (fun h39=>?_)
  ·exact absurd (h39.symm.trans h16) (by decide)
  skip
  refine .sk<|.tN<|.sr<|.mv Z<|.cs (X:=Unit) Fx.call73 Z (fun W s=>aP K6 ((Suf.nd _).up ((Suf.ex 0).up (Suf.tl (Suf.nm.up hq)))) [61] (by decide +kernel) (s.p3_3 [0,1,2] Z)) Z fun _ _=>.nt<|.fx (p:=.light _ _ (.light _ _ (.light _ _ (.light _ _ (.light _ _ (.light _ _ (.alt _ _ _ (.alt _ _ _ (.alt _ _ _ (.light _ _ (.light _ _ (.light _ _ (.alt _ _ _ (.alt _ _ _ (.done) (.no)) (.alt _ _ _ (.alt _ _ _ (.done) (.no)) (.no)))))) (.no)) (.no)) (.alt _ _ _ (.alt _ _ _ (.alt _ _ _ (.light _ _ (.light _ _ (.light _ _ (.alt _ _ _ (.alt _ _ _ (.done) (.no)) (.alt _ _ _ (.alt _ _ _ (.done) (.no)) (.no)))))) (.no)) (.no)) (.no))))))))) 14 (.light 0 (.light 1 (.light 2 (.light 3 (.light 4 (.light 6 (.alt 5 2 (.alt 7 0 (.alt 8 2 (.light 9 (.light 11 (.light 12 (.alt 10 2 (.alt 13 2 (.done) (.no)) (.alt 13 2 (.alt 10 2 (.done) (.no)) (.no)))))) (.no)) (.no)) (.alt 7 0 (.alt 5 2 (.alt 8 2 (.light 9 (.light 11 (.light 12 (.alt 10 2 (.alt 13 2 (.done) (.no)) (.alt 13 2 (.alt 10 2 (.done) (.no)) (.no)))))) (.no)) (.no)) (.no))))))))) (by kernel_rfl) (by kernel_rfl) Z<|.mv Z<|.yw (.nilCheck Z)<|.yw (.fieldAddr Z Fx.field208_3)<|.yw (.load Z Fx.agg25 cC Z)<|.mv Z<|.yw (.lenSl Fx.sl25 Z)<|.h ?_ (.h ?_ .nn)
  ·
   refine .c3 (X:=Ex × List Value × Hp) Fx.call23 Z (fun W s=>fV K6 ((Suf.nd _).up ((Suf.nd _).up ((Suf.ex 0).up (Suf.tl (Suf.nm.up hq))))) (s.p3_3 [0,1,2] Z)) Z (fun _ _=>(.yv (.lenSl Fx.sl25 Z)<|.dn<|.yv (.load Z Fx.agg25 cC Z)<|.yv (.fieldAddr Z Fx.field208_3)<|.yv (.nilCheck Z)<|.yv (.move Z)<|.nl)) fun z1 hz1=>?_;obtain ⟨a15,c1,H15⟩:=z1;obtain ⟨hv15,u15,r15⟩:=hz1;dsimp only at hv15 u15 r15 ⊢;obtain ⟨x15,x25,x35,x45,rfl⟩:=jJ (eJ r15);refine .h1<|.blF Z (Fx.bsl25_1 _ _ _ _) Z fun b52 H35 u35 m35=>.h1<|.apE Fx.row25 Z (fun _ _=>bQ) Z (Rep.mk (n:=1) (c:=1) (ds:=[dEx .u8 (opE 0 [])]) m35 (.single (jS _) Z) Z (Nat.le_refl _) (by decide)) (by omega) (by simp only [maxLen];omega) (by omega) Z (fun _ _=>(.dn<|.dn<|.dn<|.dn<|.dn<|.dn<|.nl)) fun news5 g53 cc53 hn5=>.yw (.indexSl Fx.sl25 Z Z (i:=1) Z (by omega) (q:=1 * 4) (by omega))<|.yw (.nilCheck Z)<|.yw (.fieldAddr Z Fx.field208_3)<|.h ?_ (.h ?_ .nn)
   ·
    refine .sR Z Z Fx.size27 (Rep.one r15) bQ (by have:=hn5.len;simp only [List.length_append,List.length_cons,List.length_nil] at * <;> omega) (.yv (.fieldAddr Z Fx.field208_3)<|.yv (.nilCheck Z)<|.dn<|.dn<|.dn<|.dn<|.dn<|.dn<|.dn<|.nl) <|.h1<|.st cJ Z Z Fx.size25 Z (nb Z) Z ((.dn<|.dn<|.yv (.indexSl Fx.sl25 Z Z (i:=1) Z (by omega) (q:=1 * 4) (by omega))<|.dn<|.dn<|.dn<|.dn<|.dn<|.dn<|.nl))<|.fe<|?_
    refine Sx.retN (.inr rfl) rfl .nil rfl fun W s=>⟨(2,nm,[e6,a15],2,some ⟨g53,0,none⟩,cc53,dJ (xs6++news5) (1 * 4) [x15,x25,x35,x45],H35),⟨by unfold hG;exact aJ h16 (aC (n:=n) hnm.1 (bY h19 (aC (n:=n) hv6 (aC (n:=n) (x:=()) aG (aC (n:=n) (x:=()) aG (aC (n:=n) hv15 aX)))))),hnm.2,rfl,u6.trans (u15.trans u35),dT (ds:=[dEx .u8 e6]) (hz6.up (u15.trans u35).up) hn5 (r15.up u35.up) rfl rfl⟩,rfl,?_⟩;rw [show up n hG q=up n (gX 0) (up n (gNd [61]) (up n (gNd [93]) (up n (gX 0) (up n gNm q).tl))) by unfold hG;rw [aK h16,aA Cz.nm hnm.1,cQ h19,aA (Cz.ex _) hv6,aA (x:=()) (Cz.nd _) aG,aA (x:=()) (Cz.nd _) aG,aA (Cz.ex _) hv15,aZ]];exact s.p3_3 [1,0,2] rfl
   refine .st cJ Z Z Fx.size25 Z (nb Z) Z ((.dn<|.dn<|.yv (.indexSl Fx.sl25 Z Z (i:=1) Z (by omega) (q:=1 * 4) (by omega))<|.dn<|.dn<|.dn<|.dn<|.dn<|.dn<|.nl))<|.h1<|.sR Z Z Fx.size27 (Rep.one r15) bQ (by have:=hn5.len;simp only [List.length_append,List.length_cons,List.length_nil] at * <;> omega) (.yv (.fieldAddr Z Fx.field208_3)<|.yv (.nilCheck Z)<|.dn<|.dn<|.dn<|.dn<|.dn<|.dn<|.dn<|.nl) <|.fe<|?_
   refine Sx.retN (.inr rfl) rfl .nil rfl fun W s=>⟨(2,nm,[e6,a15],2,some ⟨g53,0,none⟩,cc53,dJ (xs6++news5) (1 * 4) [x15,x25,x35,x45],H35),⟨by unfold hG;exact aJ h16 (aC (n:=n) hnm.1 (bY h19 (aC (n:=n) hv6 (aC (n:=n) (x:=()) aG (aC (n:=n) (x:=()) aG (aC (n:=n) hv15 aX)))))),hnm.2,rfl,u6.trans (u15.trans u35),dT (ds:=[dEx .u8 e6]) (hz6.up (u15.trans u35).up) hn5 (r15.up u35.up) rfl rfl⟩,rfl,?_⟩;rw [show up n hG q=up n (gX 0) (up n (gNd [61]) (up n (gNd [93]) (up n (gX 0) (up n gNm q).tl))) by unfold hG;rw [aK h16,aA Cz.nm hnm.1,cQ h19,aA (Cz.ex _) hv6,aA (x:=()) (Cz.nd _) aG,aA (x:=()) (Cz.nd _) aG,aA (Cz.ex _) hv15,aZ]];exact s.p3_3 [1,0,2] rfl
  refine .blF Z (Fx.bsl25_1 _ _ _ _) Z fun b52 H35 u35 m35=>.h1<|.c3 (X:=Ex × List Value × Hp) Fx.call23 Z (fun W s=>fV (K6.up u35.up) ((Suf.nd _).up ((Suf.nd _).up ((Suf.ex 0).up (Suf.tl (Suf.nm.up hq))))) (s.p3_3 [0,1,2] Z)) Z (fun _ _=>(.yv (.lenSl Fx.sl25 Z)<|.dn<|.yv (.load Z Fx.agg25 cC Z)<|.yv (.fieldAddr Z Fx.field208_3)<|.yv (.nilCheck Z)<|.yv (.move Z)<|.nl)) fun z1 hz1=>?_
  obtain ⟨a15,c1,H15⟩:=z1;obtain ⟨hv15,u15,r15⟩:=hz1;dsimp only at hv15 u15 r15 ⊢;obtain ⟨x15,x25,x35,x45,rfl⟩:=jJ (eJ r15);refine .h1<|.apE Fx.row25 Z (fun _ _=>bQ) Z (Rep.mk (n:=1) (c:=1) (ds:=[dEx .u8 (opE 0 [])]) (m35.up u15.up) (.single (jS _) Z) Z (Nat.le_refl _) (by decide)) (by omega) (by simp only [maxLen];omega) (by omega) Z (fun _ _=>(.dn<|.dn<|.dn<|.dn<|.dn<|.dn<|.nl)) fun news5 g53 cc53 hn5=>.yw (.indexSl Fx.sl25 Z Z (i:=1) Z (by omega) (q:=1 * 4) (by omega))<|.yw (.nilCheck Z)<|.yw (.fieldAddr Z Fx.field208_3)<|.h ?_ (.h ?_ .nn)
  ·
   refine .sR Z Z Fx.size27 (Rep.one r15) bQ (by have:=hn5.len;simp only [List.length_append,List.length_cons,List.length_nil] at * <;> omega) (.yv (.fieldAddr Z Fx.field208_3)<|.yv (.nilCheck Z)<|.dn<|.dn<|.dn<|.dn<|.dn<|.dn<|.dn<|.nl) <|.h1<|.st cJ Z Z Fx.size25 Z (nb Z) Z ((.dn<|.dn<|.yv (.indexSl Fx.sl25 Z Z (i:=1) Z (by omega) (q:=1 * 4) (by omega))<|.dn<|.dn<|.dn<|.dn<|.dn<|.dn<|.nl))<|.fe<|?_
   refine Sx.retN (.inr rfl) rfl .nil rfl fun W s=>⟨(2,nm,[e6,a15],2,some ⟨g53,0,none⟩,cc53,dJ (xs6++news5) (1 * 4) [x15,x25,x35,x45],H15),⟨by unfold hG;exact aJ h16 (aC (n:=n) hnm.1 (bY h19 (aC (n:=n) hv6 (aC (n:=n) (x:=()) aG (aC (n:=n) (x:=()) aG (aC (n:=n) hv15 aX)))))),hnm.2,rfl,u6.trans (u35.trans u15),dT (ds:=[dEx .u8 e6]) (hz6.up (u35.trans u15).up) hn5 r15 rfl rfl⟩,rfl,?_⟩;rw [show up n hG q=up n (gX 0) (up n (gNd [61]) (up n (gNd [93]) (up n (gX 0) (up n gNm q).tl))) by unfold hG;rw [aK h16,aA Cz.nm hnm.1,cQ h19,aA (Cz.ex _) hv6,aA (x:=()) (Cz.nd _) aG,aA (x:=()) (Cz.nd _) aG,aA (Cz.ex _) hv15,aZ]];exact s.p3_3 [1,0,2] rfl
  refine .st cJ Z Z Fx.size25 Z (nb Z) Z ((.dn<|.dn<|.yv (.indexSl Fx.sl25 Z Z (i:=1) Z (by omega) (q:=1 * 4) (by omega))<|.dn<|.dn<|.dn<|.dn<|.dn<|.dn<|.nl))<|.h1<|.sR Z Z Fx.size27 (Rep.one r15) bQ (by have:=hn5.len;simp only [List.length_append,List.length_cons,List.length_nil] at * <;> omega) (.yv (.fieldAddr Z Fx.field208_3)<|.yv (.nilCheck Z)<|.dn<|.dn<|.dn<|.dn<|.dn<|.dn<|.dn<|.nl) <|.fe<|?_
  refine Sx.retN (.inr rfl) rfl .nil rfl fun W s=>⟨(2,nm,[e6,a15],2,some ⟨g53,0,none⟩,cc53,dJ (xs6++news5) (1 * 4) [x15,x25,x35,x45],H15),⟨by unfold hG;exact aJ h16 (aC (n:=n) hnm.1 (bY h19 (aC (n:=n) hv6 (aC (n:=n) (x:=()) aG (aC (n:=n) (x:=()) aG (aC (n:=n) hv15 aX)))))),hnm.2,rfl,u6.trans (u35.trans u15),dT (ds:=[dEx .u8 e6]) (hz6.up (u35.trans u15).up) hn5 r15 rfl rfl⟩,rfl,?_⟩;rw [show up n hG q=up n (gX 0) (up n (gNd [61]) (up n (gNd [93]) (up n (gX 0) (up n gNm q).tl))) by unfold hG;rw [aK h16,aA Cz.nm hnm.1,cQ h19,aA (Cz.ex _) hv6,aA (x:=()) (Cz.nd _) aG,aA (x:=()) (Cz.nd _) aG,aA (Cz.ex _) hv15,aZ]];exact s.p3_3 [1,0,2] rfl
 skip
 refine .sk<|.tN<|.sq<|.sr<|.mv Z<|.nt<|.cd Z (fun h39=>?_) (fun h39=>?_)
 ·exact absurd (h39.symm.trans h16) (by decide)
 skip
 refine .sk<|.tN<|.sr<|.mv Z<|.cs (X:=Unit) Fx.call73 Z (fun W s=>aP K (Suf.nm.up hq) [61] (by decide +kernel) (s.p3_3 [0,1,2] Z)) Z fun _ _=>.nt<|.fx (p:=.light _ _ (.light _ _ (.light _ _ (.light _ _ (.light _ _ (.light _ _ (.alt _ _ _ (.alt _ _ _ (.alt _ _ _ (.light _ _ (.light _ _ (.light _ _ (.alt _ _ _ (.alt _ _ _ (.done) (.no)) (.alt _ _ _ (.alt _ _ _ (.done) (.no)) (.no)))))) (.no)) (.no)) (.alt _ _ _ (.alt _ _ _ (.alt _ _ _ (.light _ _ (.light _ _ (.light _ _ (.alt _ _ _ (.alt _ _ _ (.done) (.no)) (.alt _ _ _ (.alt _ _ _ (.done) (.no)) (.no)))))) (.no)) (.no)) (.no))))))))) 14 (.light 0 (.light 1 (.light 2 (.light 3 (.light 4 (.light 6 (.alt 5 2 (.alt 7 0 (.alt 8 2 (.light 9 (.light 11 (.light 12 (.alt 10 2 (.alt 13 2 (.done) (.no)) (.alt 13 2 (.alt 10 2 (.done) (.no)) (.no)))))) (.no)) (.no)) (.alt 7 0 (.alt 5 2 (.alt 8 2 (.light 9 (.light 11 (.light 12 (.alt 10 2 (.alt 13 2 (.done) (.no)) (.alt 13 2 (.alt 10 2 (.done) (.no)) (.no)))))) (.no)) (.no)) (.no))))))))) (by kernel_rfl) (by kernel_rfl) Z<|.mv Z<|.yw (.nilCheck Z)<|.yw (.fieldAddr Z Fx.field208_3)<|.yw (.load Z Fx.agg25 cC Z)<|.mv Z<|.yw (.lenSl Fx.sl25 Z)<|.h ?_ (.h ?_ .nn)
 ·
  refine .c3 (X:=Ex × List Value × Hp) Fx.call23 Z (fun W s=>fV K ((Suf.nd _).up (Suf.nm.up hq)) (s.p3_3 [0,1,2] Z)) Z (fun _ _=>(.yv (.lenSl Fx.sl25 Z)<|.dn<|.yv (.load Z Fx.agg25 cC Z)<|.yv (.fieldAddr Z Fx.field208_3)<|.yv (.nilCheck Z)<|.yv (.move Z)<|.nl)) fun z1 hz1=>?_;obtain ⟨a15,c1,H15⟩:=z1;obtain ⟨hv15,u15,r15⟩:=hz1;dsimp only at hv15 u15 r15 ⊢;obtain ⟨x15,x25,x35,x45,rfl⟩:=jJ (eJ r15);refine .h1<|.blF Z (Fx.bsl25_1 _ _ _ _) Z fun b52 H35 u35 m35=>.h1<|.apE Fx.row25 Z (fun _ _=>bQ) Z (Rep.mk (n:=1) (c:=1) (ds:=[dEx .u8 (opE 0 [])]) m35 (.single (jS _) Z) Z (Nat.le_refl _) (by decide)) (by omega) (by simp only [maxLen];omega) (by omega) Z (fun _ _=>(.dn<|.dn<|.dn<|.dn<|.dn<|.dn<|.nl)) fun news5 g53 cc53 hn5=>.yw (.indexSl Fx.sl25 Z Z (i:=0) Z (by omega) (q:=0 * 4) (by omega))<|.yw (.nilCheck Z)<|.yw (.fieldAddr Z Fx.field208_3)<|.h ?_ (.h ?_ .nn)
  ·
   refine .sR Z Z Fx.size27 (Rep.one r15) bQ (by have:=hn5.len;simp only [List.length_append,List.length_cons,List.length_nil] at * <;> omega) (.yv (.fieldAddr Z Fx.field208_3)<|.yv (.nilCheck Z)<|.dn<|.dn<|.dn<|.dn<|.dn<|.dn<|.dn<|.nl) <|.h1<|.st cJ Z Z Fx.size25 Z (nb Z) Z ((.dn<|.dn<|.yv (.indexSl Fx.sl25 Z Z (i:=0) Z (by omega) (q:=0 * 4) (by omega))<|.dn<|.dn<|.dn<|.dn<|.dn<|.dn<|.nl))<|.fe<|?_
   refine Sx.retN (.inr rfl) rfl .nil rfl fun W s=>⟨(1,nm,[a15],1,some ⟨g53,0,none⟩,cc53,dJ ([]++news5) (0 * 4) [x15,x25,x35,x45],H35),⟨by unfold hG;exact aJ h16 (aC (n:=n) hnm.1 (aJ h19 (aC (n:=n) (x:=()) aG (aC (n:=n) hv15 aX)))),hnm.2,rfl,(u15.trans u35),dT (ds:=[]) aL.nil hn5 (r15.up u35.up) rfl rfl⟩,rfl,?_⟩;rw [show up n hG q=up n (gX 0) (up n (gNd [61]) (up n gNm q)) by unfold hG;rw [aK h16,aA Cz.nm hnm.1,aK h19,aA (x:=()) (Cz.nd _) aG,aA (Cz.ex _) hv15,aZ]];exact s.p3_3 [1,0,2] rfl
  refine .st cJ Z Z Fx.size25 Z (nb Z) Z ((.dn<|.dn<|.yv (.indexSl Fx.sl25 Z Z (i:=0) Z (by omega) (q:=0 * 4) (by omega))<|.dn<|.dn<|.dn<|.dn<|.dn<|.dn<|.nl))<|.h1<|.sR Z Z Fx.size27 (Rep.one r15) bQ (by have:=hn5.len;simp only [List.length_append,List.length_cons,List.length_nil] at * <;> omega) (.yv (.fieldAddr Z Fx.field208_3)<|.yv (.nilCheck Z)<|.dn<|.dn<|.dn<|.dn<|.dn<|.dn<|.dn<|.nl) <|.fe<|?_
  refine Sx.retN (.inr rfl) rfl .nil rfl fun W s=>⟨(1,nm,[a15],1,some ⟨g53,0,none⟩,cc53,dJ ([]++news5) (0 * 4) [x15,x25,x35,x45],H35),⟨by unfold hG;exact aJ h16 (aC (n:=n) hnm.1 (aJ h19 (aC (n:=n) (x:=()) aG (aC (n:=n) hv15 aX)))),hnm.2,rfl,(u15.trans u35),dT (ds:=[]) aL.nil hn5 (r15.up u35.up) rfl rfl⟩,rfl,?_⟩;rw [show up n hG q=up n (gX 0) (up n (gNd [61]) (up n gNm q)) by unfold hG;rw [aK h16,aA Cz.nm hnm.1,aK h19,aA (x:=()) (Cz.nd _) aG,aA (Cz.ex _) hv15,aZ]];exact s.p3_3 [1,0,2] rfl
 refine .blF Z (Fx.bsl25_1 _ _ _ _) Z fun b52 H35 u35 m35=>.h1<|.c3 (X:=Ex × List Value × Hp) Fx.call23 Z (fun W s=>fV (K.up u35.up) ((Suf.nd _).up (Suf.nm.up hq)) (s.p3_3 [0,1,2] Z)) Z (fun _ _=>(.yv (.lenSl Fx.sl25 Z)<|.dn<|.yv (.load Z Fx.agg25 cC Z)<|.yv (.fieldAddr Z Fx.field208_3)<|.yv (.nilCheck Z)<|.yv (.move Z)<|.nl)) fun z1 hz1=>?_
 obtain ⟨a15,c1,H15⟩:=z1;obtain ⟨hv15,u15,r15⟩:=hz1;dsimp only at hv15 u15 r15 ⊢;obtain ⟨x15,x25,x35,x45,rfl⟩:=jJ (eJ r15);refine .h1<|.apE Fx.row25 Z (fun _ _=>bQ) Z (Rep.mk (n:=1) (c:=1) (ds:=[dEx .u8 (opE 0 [])]) (m35.up u15.up) (.single (jS _) Z) Z (Nat.le_refl _) (by decide)) (by omega) (by simp only [maxLen];omega) (by omega) Z (fun _ _=>(.dn<|.dn<|.dn<|.dn<|.dn<|.dn<|.nl)) fun news5 g53 cc53 hn5=>.yw (.indexSl Fx.sl25 Z Z (i:=0) Z (by omega) (q:=0 * 4) (by omega))<|.yw (.nilCheck Z)<|.yw (.fieldAddr Z Fx.field208_3)<|.h ?_ (.h ?_ .nn)
 ·
  refine .sR Z Z Fx.size27 (Rep.one r15) bQ (by have:=hn5.len;simp only [List.length_append,List.length_cons,List.length_nil] at * <;> omega) (.yv (.fieldAddr Z Fx.field208_3)<|.yv (.nilCheck Z)<|.dn<|.dn<|.dn<|.dn<|.dn<|.dn<|.dn<|.nl) <|.h1<|.st cJ Z Z Fx.size25 Z (nb Z) Z ((.dn<|.dn<|.yv (.indexSl Fx.sl25 Z Z (i:=0) Z (by omega) (q:=0 * 4) (by omega))<|.dn<|.dn<|.dn<|.dn<|.dn<|.dn<|.nl))<|.fe<|?_
  refine Sx.retN (.inr rfl) rfl .nil rfl fun W s=>⟨(1,nm,[a15],1,some ⟨g53,0,none⟩,cc53,dJ ([]++news5) (0 * 4) [x15,x25,x35,x45],H15),⟨by unfold hG;exact aJ h16 (aC (n:=n) hnm.1 (aJ h19 (aC (n:=n) (x:=()) aG (aC (n:=n) hv15 aX)))),hnm.2,rfl,(u35.trans u15),dT (ds:=[]) aL.nil hn5 r15 rfl rfl⟩,rfl,?_⟩;rw [show up n hG q=up n (gX 0) (up n (gNd [61]) (up n gNm q)) by unfold hG;rw [aK h16,aA Cz.nm hnm.1,aK h19,aA (x:=()) (Cz.nd _) aG,aA (Cz.ex _) hv15,aZ]];exact s.p3_3 [1,0,2] rfl
 refine .st cJ Z Z Fx.size25 Z (nb Z) Z ((.dn<|.dn<|.yv (.indexSl Fx.sl25 Z Z (i:=0) Z (by omega) (q:=0 * 4) (by omega))<|.dn<|.dn<|.dn<|.dn<|.dn<|.dn<|.nl))<|.h1<|.sR Z Z Fx.size27 (Rep.one r15) bQ (by have:=hn5.len;simp only [List.length_append,List.length_cons,List.length_nil] at * <;> omega) (.yv (.fieldAddr Z Fx.field208_3)<|.yv (.nilCheck Z)<|.dn<|.dn<|.dn<|.dn<|.dn<|.dn<|.dn<|.nl) <|.fe<|?_
 refine Sx.retN (.inr rfl) rfl .nil rfl fun W s=>⟨(1,nm,[a15],1,some ⟨g53,0,none⟩,cc53,dJ ([]++news5) (0 * 4) [x15,x25,x35,x45],H15),⟨by unfold hG;exact aJ h16 (aC (n:=n) hnm.1 (aJ h19 (aC (n:=n) (x:=()) aG (aC (n:=n) hv15 aX)))),hnm.2,rfl,(u35.trans u15),dT (ds:=[]) aL.nil hn5 r15 rfl rfl⟩,rfl,?_⟩;rw [show up n hG q=up n (gX 0) (up n (gNd [61]) (up n gNm q)) by unfold hG;rw [aK h16,aA Cz.nm hnm.1,aK h19,aA (x:=()) (Cz.nd _) aG,aA (Cz.ex _) hv15,aZ]];exact s.p3_3 [1,0,2] rfl
theorem Fx.call149:aM Tryz.prog 149=Bool.true:=by kernel_rfl
theorem Fx.call163:aM Tryz.prog 163=Bool.true:=by kernel_rfl
theorem six {l:List Value} (h:l.length=6):∃ a b c d e f,l=[a,b,c,d,e,f]:=by match l,h with | [a,b,c,d,e,f],_=>exact ⟨a,b,c,d,e,f,rfl⟩
theorem TV {H:Hp} {k:IntKind} {s:Sm} {cs:List Value} (h:Rep H (dSm k s) cs):cs.length=6:=by
 obtain ⟨kd,nm,hd,ex,th,el⟩:=s;obtain ⟨p,c,p1,c1,p2,c2,rfl,_⟩:=jA h
 rfl
def StC (M:Nat):Prop:=∀ {H:Hp} {w0 W:World} {bs:List Res} {b n:Nat} {ts:List Tk} {tp:Option Addr} {tc:Nat} {t0 t1 t2 t3:Value} {q:Sg},(_ :  Tkm H ts tp tc)→(_:q.r<:+ts)→q.mu<M→St H w0 (.box b [.slice tp ts.length tc,.int .i64 (bT ts q:Nat),.int .i64 (n:Nat),t0,t1,t2,t3,.int .i64 (q.o:Nat),.int .i64 (q.e:Nat)] 99::bs) W→Calls Tryz.prog 163 #[.pointer (some ⟨b,0,none⟩)] W fun e W'=>∃ z:Sm × List Value × Hp,(vl (gSt gB) q z.1∧HUp w0 H z.2.2∧Rep z.2.2 (dSm .u8 z.1) z.2.1)∧e=.returned (.agg z.2.1.toArray)∧St z.2.2 w0 (.box b [.slice tp ts.length tc,.int .i64 (bT ts (up n (gSt gB) q):Nat),.int .i64 (n:Nat),t0,t1,t2,t3,.int .i64 ((up n (gSt gB) q).o:Nat),.int .i64 ((up n (gSt gB) q).e:Nat)] 99::bs) W'
def BkC (M:Nat):Prop:=∀ {H:Hp} {w0 W:World} {bs:List Res} {b n:Nat} {ts:List Tk} {tp:Option Addr} {tc:Nat} {t0 t1 t2 t3:Value} {q:Sg},(_ :  Tkm H ts tp tc)→(_:q.r<:+ts)→q.mu<M→St H w0 (.box b [.slice tp ts.length tc,.int .i64 (bT ts q:Nat),.int .i64 (n:Nat),t0,t1,t2,t3,.int .i64 (q.o:Nat),.int .i64 (q.e:Nat)] 99::bs) W→Calls Tryz.prog 149 #[.pointer (some ⟨b,0,none⟩)] W fun e W'=>∃ z:List Sm × Value × Hp,(vl (iF gB) q z.1∧HUp w0 H z.2.2∧Rep z.2.2 (.seq 6 (z.1.map (dSm .u8))) [z.2.1])∧e=.returned (z.2.1)∧St z.2.2 w0 (.box b [.slice tp ts.length tc,.int .i64 (bT ts (up n (iF gB) q):Nat),.int .i64 (n:Nat),t0,t1,t2,t3,.int .i64 ((up n (iF gB) q).o:Nat),.int .i64 ((up n (iF gB) q).e:Nat)] 99::bs) W'
theorem EZ {q:Sg}:goB q=(decide (q.e=0) && !ac [125] q):=by
 unfold goB ac;cases decide (q.e=0) <;> simp
theorem TA {α:Type} {n:Nat} {g:Pz α} {s:Sg} (h:Shs g) (hz:Cz g) (h0:s.e=0):(up n g s).mu<s.mu:=by
 have e1:s.mu=s.r.length+1:=by unfold Sg.mu;rw [if_pos h0]
 cases hg:g s.r with
 | er r c=>rw [Sg.mu_er (FS hz hg h0),e1];omega
 | ok a r =>
  have:=h _ _ _ hg;rw [e1];unfold up;rw [if_pos h0,hg];unfold Sg.mu;simp only [h0,if_true];omega
structure BlI (n:Nat) (q:Sg) (l:List Sm) (q1:Sg):Prop where
 eq:up n gB q1=up n gB q
 val:∀ l',vl gB q1 l'→vl gB q (l++l')
 len:l.length+q1.mu≤q.mu
 er:q1.e=0→q.e=0
theorem BlI.start {n:Nat} {q:Sg}:BlI n q [] q:=⟨rfl,fun _ h=>h,by simp,id⟩
theorem BlI.step {n:Nat} {q q1:Sg} {l:List Sm} {a:Sm} (h:BlI n q l q1) (hgo:goB q1=true) (hv:vl (gSt gB) q1 a):BlI n q (l++[a]) (up n (gSt gB) q1)∧(up n (gSt gB) q1).mu<q1.mu:=by
 have h1:=TA (n:=n) (Shs.st Shr.b) (Cz.st Cz.b) (HM hgo).1;refine ⟨⟨?_,fun l' hl'=>?_,by have:=h.len;simp;omega,fun _=>h.er (HM hgo).1⟩,h1⟩
 ·rw [← h.eq,WO (n:=n) hgo hv]
 ·rw [List.append_assoc];exact h.val _ (VF (n:=n) hgo hv hl')
theorem BlI.stop {n:Nat} {q q1:Sg} {l:List Sm} (h:BlI n q l q1) (hgo:goB q1=false):up n gB q=q1∧vl gB q l:=by
 obtain ⟨h1,h2⟩:=WP (n:=n) hgo;refine ⟨by rw [← h.eq,h1],?_⟩;have:=h.val [] h2
 rwa [List.append_nil] at this
theorem WF {n M:Nat} {w:Str} {q q1:Sg} {l:List Sm} (h0:q1.e=0) (hmu:q.mu<M+1) (hI:BlI n (up n (gNd w) q) l q1):q1.mu<M:=by
 have h1:=hI.len;have h2:=hI.er h0
 have h3:q.e=0:=by
  by_cases k:q.e=0
  ·exact k
  ·rw [kA k] at h2;exact absurd h2 k
 have:=TA (n:=n) (Shs.nd w) (Cz.nd w) h3;omega
theorem PF {n:Nat} {q q1:Sg} {l:List Sm} (eS:up n gB (up n (gNd [123]) q)=q1) (hv:vl gB (up n (gNd [123]) q) l):up n (iF gB) q=up n (gNd [125]) q1:=by
 unfold iF;rw [aA (x:=()) (Cz.nd _) aG,aA Cz.b hv,eS,aA (x:=()) (Cz.nd _) aG,aZ]
theorem PD {n:Nat} {q:Sg} {l:List Sm} (hv:vl gB (up n (gNd [123]) q) l):vl (iF gB) q l:=by
 unfold iF;exact aC (n:=n) (x:=()) aG (aC (n:=n) hv (aC (n:=n) (x:=()) aG aX))
theorem PC (M:Nat) (hM:M≤900000) (hst:StC M):BkC (M+1):=by
 intro H w0 W bs b n ts tp tc t0 t1 t2 t3 q K hq hmu s;refine Sx.enterS Tryz.func149 rfl Tryz.ntmps149 rfl s ?_;refine .sr<|.a Z Z<|.ns<|.a Z Z<|?_
 refine Sx.row0 208 6 ?_;refine .ns<|.mv Z<|.cs (X:=Unit) Fx.call73 Z (fun W s=>aP K hq [123] (by decide +kernel) (s.p2_2 [1,0] Z)) Z fun _ _=>.nt<|.sq<|.bk<|.lp (X:=List Sm × Value × List Value × Hp × Sg) [(0,_)] ⟨rfl,trivial⟩ bs (fun z=>[(3,z.2.1)]) (fun z=>z.2.2.2.1) (fun z=>[.row 208 6 z.2.1 z.1.length z.2.2.1,.box b [.slice tp ts.length tc,.int .i64 (bT ts z.2.2.2.2:Nat),.int .i64 (n:Nat),t0,t1,t2,t3,.int .i64 (z.2.2.2.2.o:Nat),.int .i64 (z.2.2.2.2.e:Nat)] 99]) (fun z=>BlI n (up n (gNd [123]) q) z.1 z.2.2.2.2∧HUp w0 H z.2.2.2.1∧aL z.2.2.2.1 6 (z.1.map (dSm .u8)) z.2.2.1∧z.2.2.2.2.r<:+ts) (fun z=>z.2.2.2.2.mu) ([],.slice none 0 0,[],H,up n (gNd [123]) q) (fun _ s=>(s.p2_2 [1,0] Z)) ⟨rfl,trivial⟩ ⟨BlI.start,.refl,aL.nil,(Suf.nd _).up hq⟩ fun z hC=>?_
 obtain ⟨l,v,xs,H1,q1⟩:=z;obtain ⟨hI,u1,hz1,hq1⟩:=hC;dsimp only at hI u1 hz1 hq1 ⊢;have K1:=K.up u1.up;have hlen:=hI.len;have hmu0:=eN (n:=n) (s:=q) (Shs.nd [123]).le (Cz.nd [123]);refine .sq<|.sr<|.mv Z<|.yw (.nilCheck Z)<|.yw (.fieldAddr Z Fx.field99_5)<|.yw (.load Z Fx.agg28 aW Z)<|.yw (.eql Z Z)<|.mv Z<|.b2 (fun h11=>?_) (fun h11=>?_)
 ·try simp only [dt] at h11
  have h0:q1.e=0:=by omega
  refine .gd Z Z<|.yw (.move Z)<|.gd Z Z<|.cs (X:=Unit) Fx.call118 Z (fun W s=>NV K1 hq1 [125] (by decide +kernel) (s.p2_2 [1,0] Z)) Z fun _ _=>.gd Z Z<|.yw (.not Z)<|.yw (.pickT Z Z)<|.nt<|.cd Z (fun h15=>?_) (fun h15=>?_)
  ·have hgo:goB q1=true:=by rw [EZ,decide_eq_true h0,Bool.true_and];exact h15
   refine .sk<|.tN<|.bk<|.rg<|.mv Z<|.mv Z<|.cs (X:=Sm × List Value × Hp) Fx.call163 Z (fun W s=>hst K1 hq1 (WF h0 hmu hI) (s.p2_2 [0,1] Z)) Z fun z2 hz2=>?_
   obtain ⟨a2,c2,H2⟩:=z2;obtain ⟨hv2,u2,r2⟩:=hz2;dsimp only at hv2 u2 r2 ⊢;obtain ⟨x1,x2,x3,x4,x5,x6,rfl⟩:=six (TV r2);refine .bl Z (Fx.bsl159_1 _ _ _ _ _ _) Z fun b19=>?_;refine Sx.freezeBox fun H3 u3 m3=>?_;exact .apD Fx.row159 Z (fun _ _=>bQ) Z (Rep.mk (n:=1) (c:=1) (ds:=[dSm .u8 a2]) m3 (.single (r2.up u3.up) Z) Z (Nat.le_refl _) (by decide)) (by simp only [maxLen];omega) (by omega) Z fun xs20 r20 hz20=>.a Z Z<|.nl<|.bN<|.tN<|.ag (x:=(l,v,xs,H1,q1)) (l++[a2],r20,xs++xs20,H3,up n (gSt gB) q1) ⟨rfl,trivial⟩ ⟨rfl,trivial⟩ (fun _ s=>by have s2:=(s.p2_2 [1,0] Z);simpa using s2) ⟨(hI.step hgo hv2).1,u1.trans (u2.trans u3),by dsimp only;rw [List.map_append];exact (hz1.up (u2.trans u3).up).app hz20,(Suf.st Suf.b).up hq1⟩ (hI.step hgo hv2).2
  have hgo:goB q1=false:=by rw [EZ,decide_eq_true h0,Bool.true_and];exact h15
  refine .ex<|.tE<|.tE<|.bE<|.tN<|.sr<|.mv Z<|.cs (X:=Unit) Fx.call73 Z (fun W s=>aP K1 hq1 [125] (by decide +kernel) (s.p2_2 [0,1] Z)) Z fun _ _=>.ns<|.mv Z<|.a Z Z<|.nt<|.rt<|?_
  obtain ⟨eS,hvS⟩:=hI.stop hgo;refine Sx.reSt (fun W s=>s.p2_2 [1,0] rfl) ?_;refine Sx.freezeSeq (ds:=l.map (dSm .u8)) (by rw [List.length_map]) hz1 fun H4 p4 c4 u4 e4 h4=>?_;exact Sx.ret1 (.inl rfl) rfl (.tmp rfl) fun W s=>⟨(l,v,H4),⟨PD hvS,u1.trans u4,h4⟩,rfl,by rw [show up n (iF gB) q=up n (gNd [125]) q1 from PF eS hvS];exact s⟩
 try simp only [df] at h11
 have h0:¬ q1.e=0:=by omega
 have hgo:goB q1=false:=by rw [EZ,decide_eq_false h0];rfl
 refine .gG<|.gG<|.gG<|.yw (.pickF Z Z)<|.nt<|.cF Z<|.ex<|.tE<|.tE<|.bE<|.tN<|.sr<|.mv Z<|.cs (X:=Unit) Fx.call73 Z (fun W s=>aP K1 hq1 [125] (by decide +kernel) (s.p2_2 [1,0] Z)) Z fun _ _=>.ns<|.mv Z<|.a Z Z<|.nt<|.rt<|?_
 obtain ⟨eS,hvS⟩:=hI.stop hgo;refine Sx.reSt (fun W s=>s.p2_2 [1,0] rfl) ?_;refine Sx.freezeSeq (ds:=l.map (dSm .u8)) (by rw [List.length_map]) hz1 fun H4 p4 c4 u4 e4 h4=>?_;exact Sx.ret1 (.inl rfl) rfl (.tmp rfl) fun W s=>⟨(l,v,H4),⟨PD hvS,u1.trans u4,h4⟩,rfl,by rw [show up n (iF gB) q=up n (gNd [125]) q1 from PF eS hvS];exact s⟩
theorem MO (M:Nat) (hblk:BkC M) {H:Hp} {w0 W:World} {bs:List Res} {b n:Nat} {ts:List Tk} {tp:Option Addr} {tc:Nat} {t0 t1 t2 t3:Value} {q:Sg} (K:Tkm H ts tp tc) (hq:q.r<:+ts) (hmu:q.mu<M+1) (s:St H w0 (.box b [.slice tp ts.length tc,.int .i64 (bT ts q:Nat),.int .i64 (n:Nat),t0,t1,t2,t3,.int .i64 (q.o:Nat),.int .i64 (q.e:Nat)] 99::bs) W):Calls Tryz.prog 176 #[.pointer (some ⟨b,0,none⟩)] W fun e W'=>∃ z:List Sm × Value × Hp,(vl (jX gB) q z.1∧HUp w0 H z.2.2∧Rep z.2.2 (.seq 6 (z.1.map (dSm .u8))) [z.2.1])∧e=.returned (z.2.1)∧St z.2.2 w0 (.box b [.slice tp ts.length tc,.int .i64 (bT ts (up n (jX gB) q):Nat),.int .i64 (n:Nat),t0,t1,t2,t3,.int .i64 ((up n (jX gB) q).o:Nat),.int .i64 ((up n (jX gB) q).e:Nat)] 99::bs) W':=by
 refine Sx.enterS Tryz.func176 rfl Tryz.ntmps176 rfl s ?_;refine .sr<|.a Z Z<|.nt<|.sq<|.sr<|.mv Z<|.cs (X:=Unit) Fx.call72 Z (fun W s=>bM K hq [101,108,115,101] (by decide +kernel) (s.p1_1 [0] Z)) Z fun _ _=>.nt<|.cd Z (fun h4=>?_) (fun h4=>?_)
 ·rw [fJ h4];have hlt:=kP h4;refine .sr<|.mv Z<|.cs (X:=List Sm × Value × Hp) Fx.call149 Z (fun W s=>hblk K (Suf.tl hq) (by omega) (s.p1_1 [0] Z)) Z fun z1 hz1=>?_
  obtain ⟨l1,v1,H1⟩:=z1;obtain ⟨hv1,u1,r1⟩:=hz1;dsimp only at hv1 u1 r1 ⊢;refine .a Z Z<|.nt<|.rt<|.tR<|?_
  refine Sx.ret1 (.inl rfl) rfl (.tmp rfl) fun W s=>?_;rw [show up n (jX gB) q=up n (iF gB) q.tl by unfold jX;rw [cQ h4]];exact ⟨(l1,v1,H1),⟨by unfold jX;exact bY h4 hv1,u1,r1⟩,rfl,s.p1_1 [0] rfl⟩
 rw [fK h4];refine .sk<|.tN<|.sr<|.mv Z<|.cs (X:=Unit) Fx.call73 Z (fun W s=>aP K hq [59] (by decide +kernel) (s.p1_1 [0] Z)) Z fun _ _=>.ns<|.a Z Z<|.nt<|.rt<|?_
 refine Sx.ret1 (.inl rfl) rfl (.tmp rfl) fun W s=>?_;rw [show up n (jX gB) q=up n (gNd [59]) q by unfold jX;rw [aK h4,aA (x:=()) (Cz.nd _) aG,aZ]];exact ⟨([],.slice none 0 0,H),⟨by unfold jX;exact aJ h4 (aC (n:=n) (x:=()) aG aX),.refl,Rep.empty (p:=none) (c:=0) (by decide)⟩,rfl,s.p1_1 [0] rfl⟩
end Go.Proofs.YthhoebdlfjffkaaGreatDoor
namespace Go.Proofs.YthhoebdlfjffkaaGreatDoor
open Go.RowKit Go.Par Go.Sx
open Go.RowKit Go.Par Go.Sx
end Go.Proofs.YthhoebdlfjffkaaGreatDoor
namespace Go.Proofs.YthhoebdlfjffkaaGreatDoor
open Go.RowKit Go.Par Go.Sx
theorem Fx.call147:aM Tryz.prog 147=Bool.true:=by kernel_rfl
theorem Fx.call176:aM Tryz.prog 176=Bool.true:=by kernel_rfl
theorem Fx.call177:aM Tryz.prog 177=Bool.true:=by kernel_rfl
theorem Fx.size118:bL Tryz.prog 118=some 1:=by kernel_rfl
theorem Fx.size159:bL Tryz.prog 159=some 1:=by kernel_rfl
theorem Fx.zero118:dV Tryz.prog 118=some [Go.Value.nilFunc]:=by kernel_rfl
theorem kZ.two {n:Nat} {q q1:Sg} {w:Str} {l:List Ex} (h:kZ n q [w] q1 l):q1=up n (gX 0) (up n (gNd w) (up n (gX 0) q))∧∃ e f,l=[e,f]∧vl (gX 0) q e∧vl (gX 0) (up n (gNd w) (up n (gX 0) q)) f:=by
 generalize hL:([w]:List Str)=L at h;cases h with
 | one hv=>cases hL
 | @more L q1 l w2 f h hf =>
  have hl:=congrArg List.length hL;simp at hl;subst hl;simp at hL;subst hL;obtain ⟨rfl,e,rfl,he⟩:=kZ.nil h;exact ⟨rfl,e,f,rfl,he,hf⟩
theorem sU {α β γ:Type} (g:Pz α) (f:α→Pz β) (k:β→Pz γ):aF (aF g f) k=aF g fun a=>aF (f a) k:=funext fun r=>by
 unfold aF;cases g r <;> rfl
theorem xV {α β:Type} (w:Str) (p q:Pz α) (k:α→Pz β):aF (cM w p q) k=cM w (aF p k) (aF q k):=funext fun r=>by
 unfold aF cM
 split <;> rfl
theorem qF {α β:Type} (a:α) (k:α→Pz β):aF (aO a) k=k a:=rfl
def gS:Pz Sm :=
 cM [105,102] (aF (gX 0) fun e=>aF (iF gB) fun t=>aF (qY gB) fun l=>aO (.mk 4 [] [] [e] t l))<|cM [119,104,105,108,101] (aF (gX 0) fun e=>aF (iF gB) fun t=>aO (.mk 5 [] [] [e] t []))<|cM [115,116,111,114,101] (aF (gX 0) fun e=>aF (gNd [61]) fun _=>aF (gX 0) fun e2=>aF (jX gB) fun l=>aO (.mk 8 [] [] [e,e2] [] l))<|cM [102,101,116,99,104] (aF gNm fun n=>aF (gNd [61]) fun _=>aF (gX 0) fun e=>aF (jX gB) fun l=>aO (.mk 9 n [] [e] [] l))<|cM [115,101,110,100] (aF gNm fun n=>aF (gNd [46]) fun _=>aF gNm fun h=>aF (dY (gX 0)) fun l=>aF (gNd [59]) fun _=>aO (.mk 6 n h l [] []))<|cM [97,102,116,101,114] (aF (gX 0) fun e=>aF (gNd [100,111]) fun _=>aF gNm fun h=>aF (dY (gX 0)) fun l=>aF (gNd [59]) fun _=>aO (.mk 7 [] h (e::l) [] []))<|cM [115,116,111,112] (aF (gNd [59]) fun _=>aO (.mk 10 [] [] [] [] []))<|aF hG fun s=>aF (gNd [59]) fun _=>aO s
theorem jF:gSt gB=gS:=by
 unfold gSt gS hG;simp only [xV,sU,qF]
 rfl
theorem Cz.chg:Cz hG:=.alt (.bind .nm fun _=>.bind (.nd _) fun _=>.bind (.ex 0) fun _=>.bind (.nd _) fun _=>.pure _) (.bind .nm fun _=>.alt (.bind (.ex 0) fun _=>.bind (.nd _) fun _=>.bind (.nd _) fun _=>.bind (.ex 0) fun _=>.pure _) (.bind (.nd _) fun _=>.bind (.ex 0) fun _=>.pure _))
theorem SE:Suf hG:=.alt (.bind .nm fun _=>.bind (.nd _) fun _=>.bind (.ex 0) fun _=>.bind (.nd _) fun _=>.pure _) (.bind .nm fun _=>.alt (.bind (.ex 0) fun _=>.bind (.nd _) fun _=>.bind (.nd _) fun _=>.bind (.ex 0) fun _=>.pure _) (.bind (.nd _) fun _=>.bind (.ex 0) fun _=>.pure _))
theorem Cz.els:Cz (qY gB):=.alt Cz.blk (.pure _)
theorem Cz.oth:Cz (jX gB):=.alt Cz.blk (.bind (.nd _) fun _=>.pure _)
theorem zB (M:Nat) (hM:M≤800000) (hblk:BkC M):StC (M+1):=by
 intro H w0 W bs b n ts tp tc t0 t1 t2 t3 q K hq hmu s;refine Sx.enterS Tryz.func163 rfl Tryz.ntmps163 rfl s ?_;refine .sr<|.bx Z Z Z fun b1=>.al Fx.zero208 Z fun b2=>.ns<|.al Fx.zero208 Z fun b3=>?_
 refine Sx.row0 27 4 ?_;refine .ns<|.yw (.mkF Z Z)<|.al Fx.zero118 Z fun b4=>.st .head Z Z Fx.size118 Z (nb Z) Z<|.ns<|.yw (.mkF Z Z)<|.a Z Z<|.nt<|.sq<|.bk<|.sr<|.yw (.load Z Fx.agg65 tC Z)<|.cs (X:=Unit) Fx.call72 Z (fun W s=>bM K hq [105,102] (by decide +kernel) (s.p6_6 [5,0,1,2,3,4] Z)) Z fun _ _=>.a Z Z<|.nt<|.cd Z (fun h10=>?_) (fun h10=>?_)
 ·rw [fJ h10];have hlt:=kP h10;have m1:=eN (n:=n) (s:=q.tl) (Shs.gx 0).le (Cz.ex 0);have m2:=eN (n:=n) (s:=up n (gX 0) q.tl) (Shs.blk Shr.b).le Cz.blk;refine .sr<|.yw (.fieldAddr Z Fx.field208_0)<|.st fQ Z Z Fx.size206 Z (nb Z) Z<|.ns<|.yw (.load Z Fx.agg118 aW Z)<|.sv (X:=List Ex × Nat × Option Addr × Nat × List Value × Hp × Sg) (fi:=[]) (ca:=[.pointer (some ⟨b3,0,none⟩),.pointer (some ⟨b1,0,none⟩)]) Z Fx.call174 Z (fun W s=>sI K (Suf.tl hq) b3 b1 _ _ _ _ _ [] none 0 [] [] (fun w h=>by cases h) none 0 (Rep.empty (p:=none) (c:=0) (by decide)) aL.nil (by simp) (s.p6_6 [2,0,3,5,1,4] Z)) Z fun z15 hz15=>?_
  obtain ⟨l15,k15,p15,c15',xs15,H15,q15⟩:=z15;obtain ⟨hR,hk15,u15,hz15,hq15⟩:=hz15;dsimp only at hR hk15 u15 hz15 hq15 ⊢;obtain ⟨rfl,e15,rfl,hv15⟩:=kZ.nil hR;obtain rfl:k15=1:=hk15;have K15:=K.up u15.up;refine .ns<|.yw (.load Z Fx.agg65 gN Z)<|.cs (X:=List Sm × Value × Hp) Fx.call149 Z (fun W s=>hblk K15 ((Suf.ex 0).up (Suf.tl hq)) (by omega) (s.p6_6 [1,0,2,3,4,5] Z)) Z fun z17 hz17=>?_
  obtain ⟨l17,v17,H17⟩:=z17;obtain ⟨hv17,u17,r17⟩:=hz17;dsimp only at hv17 u17 r17 ⊢;obtain ⟨p17,c17',e17',_⟩:=r17.sl;simp only [List.cons.injEq,and_true] at e17';subst e17';have K17:=K15.up u17.up;refine .yw (.fieldAddr Z Fx.field208_4)<|.st cJ Z Z Fx.size159 Z (nb Z) Z<|.nt<|.sq<|.sr<|.yw (.load Z Fx.agg65 gN Z)<|.cs (X:=Unit) Fx.call72 Z (fun W s=>bM K17 ((Suf.blk Suf.b).up ((Suf.ex 0).up (Suf.tl hq))) [101,108,115,101] (by decide +kernel) (s.p6_6 [0,1,2,3,4,5] Z)) Z fun _ _=>.nt<|.cd Z (fun h20=>?_) (fun h20=>?_)
  ·rw [fJ h20];have hlt2:=kP h20;refine .rg<|.yw (.load Z Fx.agg65 gN Z)<|.cs (X:=List Sm × Value × Hp) Fx.call149 Z (fun W s=>hblk K17 (Suf.tl ((Suf.blk Suf.b).up ((Suf.ex 0).up (Suf.tl hq)))) (by omega) (s.p6_6 [0,1,2,3,4,5] Z)) Z fun z22 hz22=>?_
   obtain ⟨l22,v22,H22⟩:=z22;obtain ⟨hv22,u22,r22⟩:=hz22;dsimp only at hv22 u22 r22 ⊢;obtain ⟨p22,c22',e22',_⟩:=r22.sl;simp only [List.cons.injEq,and_true] at e22';subst e22';have K22:=K17.up u22.up;refine .yw (.fieldAddr Z Fx.field208_5)<|.st cJ Z Z Fx.size159 Z (nb Z) Z<|.ns<|.yw (.loadW Z Fx.agg208 cC Z)<|.sW EA Z Z Fx.size208 (by simp [Value.oneCell',aB]) Z<|.nt<|.rt<|.bR<|.tR<|?_
   refine Sx.reSt (fun W s=>s.p6_3 [1,5,0] rfl) ?_;refine Sx.freezeSeq (ds:=[dEx .u8 e15]) rfl (hz15.up (u17.trans u22).up) fun HZ pZ cZ uZ eZ hZ=>?_;refine Sx.ret1 (.inl rfl) rfl (.cell rfl Fx.agg208 (.head _) rfl) fun W s=>⟨(.mk 4 [] [] [e15] l17 l22,_,HZ),⟨(by rw [jF];unfold gS;exact bY h10 (aC (n:=n) hv15 (aC (n:=n) hv17 (aC (n:=n) (bY h20 hv22) (aX))))),(u15.trans (u17.trans (u22.trans uZ))),dG (kd:=4) (nm:=[]) (hd:=[]) (by decide) (by decide) hZ (r17.up (u22.trans uZ).up) (r22.up uZ.up)⟩,rfl,?_⟩;rw [show up n (gSt gB) q=(up n (iF gB) (up n (iF gB) (up n (gX 0) q.tl)).tl) from by rw [jF];unfold gS;rw [cQ h10,aA (Cz.ex 0) hv15,aA Cz.blk hv17,aA (g:=qY gB) (Cz.els) (bY h20 hv22)];unfold qY;rw [cQ h20,aZ]];exact s.p2_1 [1] rfl
  rw [fK h20];refine .sk<|.tN<|.sr<|.yw (.loadW Z Fx.agg208 cC Z)<|.sW EA Z Z Fx.size208 (by simp [Value.oneCell',aB]) Z<|.nt<|.rt<|.bR<|.tR<|?_
  refine Sx.reSt (fun W s=>s.p6_3 [1,5,0] rfl) ?_;refine Sx.freezeSeq (ds:=[dEx .u8 e15]) rfl (hz15.up u17.up) fun HZ pZ cZ uZ eZ hZ=>?_;refine Sx.ret1 (.inl rfl) rfl (.cell rfl Fx.agg208 (.head _) rfl) fun W s=>⟨(.mk 4 [] [] [e15] l17 [],_,HZ),⟨(by rw [jF];unfold gS;exact bY h10 (aC (n:=n) hv15 (aC (n:=n) hv17 (aC (n:=n) (aJ h20 aX) (aX))))),(u15.trans (u17.trans uZ)),dG (kd:=4) (nm:=[]) (hd:=[]) (by decide) (by decide) hZ (r17.up uZ.up) (Rep.empty (p:=none) (c:=0) (by decide))⟩,rfl,?_⟩;rw [show up n (gSt gB) q=(up n (iF gB) (up n (gX 0) q.tl)) from by rw [jF];unfold gS;rw [cQ h10,aA (Cz.ex 0) hv15,aA Cz.blk hv17,aA (g:=qY gB) (Cz.els) (aJ h20 aX)];unfold qY;rw [aK h20,aZ,aZ]];exact s.p2_1 [1] rfl
 rw [fK h10];refine .sr<|.yw (.load Z Fx.agg65 qC Z)<|.cs (X:=Unit) Fx.call72 Z (fun W s=>bM K hq [119,104,105,108,101] (by decide +kernel) (s.p6_6 [0,1,2,3,4,5] Z)) Z fun _ _=>.a Z Z<|.nt<|.cd Z (fun h25=>?_) (fun h25=>?_)
 ·rw [fJ h25];have hlt:=kP h25;have m1:=eN (n:=n) (s:=q.tl) (Shs.gx 0).le (Cz.ex 0);refine .sr<|.yw (.fieldAddr Z Fx.field208_0)<|.st fQ Z Z Fx.size206 Z (nb Z) Z<|.ns<|.yw (.load Z Fx.agg118 aW Z)<|.sv (X:=List Ex × Nat × Option Addr × Nat × List Value × Hp × Sg) (fi:=[]) (ca:=[.pointer (some ⟨b3,0,none⟩),.pointer (some ⟨b1,0,none⟩)]) Z Fx.call174 Z (fun W s=>sI K (Suf.tl hq) b3 b1 _ _ _ _ _ [] none 0 [] [] (fun w h=>by cases h) none 0 (Rep.empty (p:=none) (c:=0) (by decide)) aL.nil (by simp) (s.p6_6 [2,0,3,5,1,4] Z)) Z fun z30 hz30=>?_
  obtain ⟨l30,k30,p30,c30',xs30,H30,q30⟩:=z30;obtain ⟨hR,hk30,u30,hz30,hq30⟩:=hz30;dsimp only at hR hk30 u30 hz30 hq30 ⊢;obtain ⟨rfl,e30,rfl,hv30⟩:=kZ.nil hR;obtain rfl:k30=1:=hk30;have K30:=K.up u30.up;refine .ns<|.yw (.load Z Fx.agg65 gN Z)<|.cs (X:=List Sm × Value × Hp) Fx.call149 Z (fun W s=>hblk K30 ((Suf.ex 0).up (Suf.tl hq)) (by omega) (s.p6_6 [1,0,2,3,4,5] Z)) Z fun z32 hz32=>?_
  obtain ⟨l32,v32,H32⟩:=z32;obtain ⟨hv32,u32,r32⟩:=hz32;dsimp only at hv32 u32 r32 ⊢;obtain ⟨p32,c32',e32',_⟩:=r32.sl;simp only [List.cons.injEq,and_true] at e32';subst e32';have K32:=K30.up u32.up;refine .yw (.fieldAddr Z Fx.field208_4)<|.st cJ Z Z Fx.size159 Z (nb Z) Z<|.ns<|.yw (.loadW Z Fx.agg208 cC Z)<|.sW EA Z Z Fx.size208 (by simp [Value.oneCell',aB]) Z<|.nt<|.rt<|.bR<|.tR<|?_
  refine Sx.reSt (fun W s=>s.p6_3 [1,5,0] rfl) ?_;refine Sx.freezeSeq (ds:=[dEx .u8 e30]) rfl (hz30.up u32.up) fun HZ pZ cZ uZ eZ hZ=>?_;refine Sx.ret1 (.inl rfl) rfl (.cell rfl Fx.agg208 (.head _) rfl) fun W s=>⟨(.mk 5 [] [] [e30] l32 [],_,HZ),⟨(by rw [jF];unfold gS;exact aJ h10 (bY h25 (aC (n:=n) hv30 (aC (n:=n) hv32 (aX))))),(u30.trans (u32.trans uZ)),dG (kd:=5) (nm:=[]) (hd:=[]) (by decide) (by decide) hZ (r32.up uZ.up) (Rep.empty (p:=none) (c:=0) (by decide))⟩,rfl,?_⟩;rw [show up n (gSt gB) q=(up n (iF gB) (up n (gX 0) q.tl)) from by rw [jF];unfold gS;rw [aK h10,cQ h25,aA (Cz.ex 0) hv30,aA Cz.blk hv32,aZ]];exact s.p2_1 [1] rfl
 rw [fK h25];refine .sr<|.yw (.load Z Fx.agg65 qC Z)<|.cs (X:=Unit) Fx.call72 Z (fun W s=>bM K hq [115,116,111,114,101] (by decide +kernel) (s.p6_6 [0,1,2,3,4,5] Z)) Z fun _ _=>.a Z Z<|.nt<|.cd Z (fun h35=>?_) (fun h35=>?_)
 ·rw [fJ h35];have hlt:=kP h35;have m1:=eN (n:=n) (s:=q.tl) (Shs.gx 0).le (Cz.ex 0);have m2:=eN (n:=n) (s:=up n (gX 0) q.tl) (Shs.nd [61]).le (Cz.nd [61]);have m3:=eN (n:=n) (s:=up n (gNd [61]) (up n (gX 0) q.tl)) (Shs.gx 0).le (Cz.ex 0);refine .sr<|.yw (.fieldAddr Z Fx.field208_0)<|.st fQ Z Z Fx.size206 Z (nb Z) Z<|.ns<|.yw (.load Z Fx.agg118 aW Z)<|.bl Z (Fx.bsl52_1 _) Z fun b40=>?_
  refine Sx.freezeBox fun H40 u40 m40=>?_;have K40:=K.up u40.up;refine .sv (X:=List Ex × Nat × Option Addr × Nat × List Value × Hp × Sg) (fi:=[]) (ca:=[.pointer (some ⟨b3,0,none⟩),.pointer (some ⟨b1,0,none⟩)]) Z Fx.call174 Z (fun W s=>sI K40 (Suf.tl hq) b3 b1 _ _ _ _ _ [] none 0 [] [[61]] (fun w h=>by rw [List.mem_singleton.1 h];decide +kernel) (some ⟨b40,0,none⟩) 1 (Rep.mk (n:=1) (c:=1) (ds:=[wK [61]]) m40 (.single (IV _) Z) Z (Nat.le_refl _) (by decide)) aL.nil (by simp) (s.p6_6 [2,0,3,5,1,4] Z)) Z fun z41 hz41=>?_;obtain ⟨l41,k41,p41,c41',xs41,H41,q41⟩:=z41;obtain ⟨hR,hk41,u41,hz41,hq41⟩:=hz41;dsimp only at hR hk41 u41 hz41 hq41 ⊢;obtain ⟨rfl,e41,f41,rfl,hv41,hw41⟩:=kZ.two hR;obtain rfl:k41=2:=hk41;have K41:=K40.up u41.up;refine .ns<|.yw (.load Z Fx.agg65 gN Z)<|.cs (X:=List Sm × Value × Hp) Fx.call176 Z (fun W s=>MO M hblk K41 ((Suf.ex 0).up ((Suf.nd _).up ((Suf.ex 0).up (Suf.tl hq)))) (by omega) (s.p6_6 [1,0,2,3,4,5] Z)) Z fun z43 hz43=>?_
  obtain ⟨l43,v43,H43⟩:=z43;obtain ⟨hv43,u43,r43⟩:=hz43;dsimp only at hv43 u43 r43 ⊢;obtain ⟨p43,c43',e43',_⟩:=r43.sl;simp only [List.cons.injEq,and_true] at e43';subst e43';have K43:=K41.up u43.up;refine .yw (.fieldAddr Z Fx.field208_5)<|.st cJ Z Z Fx.size159 Z (nb Z) Z<|.ns<|.yw (.loadW Z Fx.agg208 cC Z)<|.sW EA Z Z Fx.size208 (by simp [Value.oneCell',aB]) Z<|.nt<|.rt<|.bR<|.tR<|?_
  refine Sx.reSt (fun W s=>s.p6_3 [1,5,0] rfl) ?_;refine Sx.freezeSeq (ds:=[dEx .u8 e41,dEx .u8 f41]) rfl (hz41.up u43.up) fun HZ pZ cZ uZ eZ hZ=>?_;refine Sx.ret1 (.inl rfl) rfl (.cell rfl Fx.agg208 (.head _) rfl) fun W s=>⟨(.mk 8 [] [] [e41,f41] [] l43,_,HZ),⟨(by rw [jF];unfold gS;exact aJ h10 (aJ h25 (bY h35 (aC (n:=n) hv41 (aC (n:=n) (x:=()) aG (aC (n:=n) hw41 (aC (n:=n) hv43 (aX)))))))),(u40.trans (u41.trans (u43.trans uZ))),dG (kd:=8) (nm:=[]) (hd:=[]) (by decide) (by decide) hZ (Rep.empty (p:=none) (c:=0) (by decide)) (r43.up uZ.up)⟩,rfl,?_⟩;rw [show up n (gSt gB) q=(up n (jX gB) (up n (gX 0) (up n (gNd [61]) (up n (gX 0) q.tl)))) from by rw [jF];unfold gS;rw [aK h10,aK h25,cQ h35,aA (Cz.ex 0) hv41,aA (x:=()) (Cz.nd _) aG,aA (Cz.ex 0) hw41,aA Cz.oth hv43,aZ]];exact s.p2_1 [1] rfl
 rw [fK h35];refine .sr<|.yw (.load Z Fx.agg65 qC Z)<|.cs (X:=Unit) Fx.call72 Z (fun W s=>bM K hq [102,101,116,99,104] (by decide +kernel) (s.p6_6 [0,1,2,3,4,5] Z)) Z fun _ _=>.a Z Z<|.nt<|.cd Z (fun h46=>?_) (fun h46=>?_)
 ·rw [fJ h46];have hlt:=kP h46;have m1:=eN (n:=n) (s:=q.tl) Shs.nm.le Cz.nm;have m2:=eN (n:=n) (s:=up n gNm q.tl) (Shs.nd [61]).le (Cz.nd [61]);have m3:=eN (n:=n) (s:=up n (gNd [61]) (up n gNm q.tl)) (Shs.gx 0).le (Cz.ex 0);refine .sr<|.yw (.load Z Fx.agg65 qC Z)<|.cs (X:=Str) Fx.call74 Z (fun W s=>fO K (Suf.tl hq)  (s.p6_6 [0,1,2,3,4,5] Z)) Z fun na hna=>.yw (.fieldAddr Z Fx.field208_0)<|.st fQ Z Z Fx.size206 Z (nb Z) Z<|.yw (.fieldAddr Z Fx.field208_1)<|.st fQ Z Z Fx.size9 Z (nb Z) Z<|.ns<|.yw (.load Z Fx.agg65 qC Z)<|.cs (X:=Unit) Fx.call73 Z (fun W s=>aP K (Suf.nm.up (Suf.tl hq)) [61] (by decide +kernel) (s.p6_6 [0,1,2,3,4,5] Z)) Z fun _ _=>.ns<|.yw (.load Z Fx.agg118 aW Z)<|.sv (X:=List Ex × Nat × Option Addr × Nat × List Value × Hp × Sg) (fi:=[]) (ca:=[.pointer (some ⟨b3,0,none⟩),.pointer (some ⟨b1,0,none⟩)]) Z Fx.call174 Z (fun W s=>sI K ((Suf.nd _).up (Suf.nm.up (Suf.tl hq))) b3 b1 _ _ _ _ _ [] none 0 [] [] (fun w h=>by cases h) none 0 (Rep.empty (p:=none) (c:=0) (by decide)) aL.nil (by simp) (s.p6_6 [2,0,3,5,1,4] Z)) Z fun z56 hz56=>?_
  obtain ⟨l56,k56,p56,c56',xs56,H56,q56⟩:=z56;obtain ⟨hR,hk56,u56,hz56,hq56⟩:=hz56;dsimp only at hR hk56 u56 hz56 hq56 ⊢;obtain ⟨rfl,e56,rfl,hv56⟩:=kZ.nil hR;obtain rfl:k56=1:=hk56;have K56:=K.up u56.up;refine .ns<|.yw (.load Z Fx.agg65 gN Z)<|.cs (X:=List Sm × Value × Hp) Fx.call176 Z (fun W s=>MO M hblk K56 ((Suf.ex 0).up ((Suf.nd _).up (Suf.nm.up (Suf.tl hq)))) (by omega) (s.p6_6 [1,0,2,3,4,5] Z)) Z fun z58 hz58=>?_
  obtain ⟨l58,v58,H58⟩:=z58;obtain ⟨hv58,u58,r58⟩:=hz58;dsimp only at hv58 u58 r58 ⊢;obtain ⟨p58,c58',e58',_⟩:=r58.sl;simp only [List.cons.injEq,and_true] at e58';subst e58';have K58:=K56.up u58.up;refine .yw (.fieldAddr Z Fx.field208_5)<|.st cJ Z Z Fx.size159 Z (nb Z) Z<|.ns<|.yw (.loadW Z Fx.agg208 cC Z)<|.sW EA Z Z Fx.size208 (by simp [Value.oneCell',aB]) Z<|.nt<|.rt<|.bR<|.tR<|?_
  refine Sx.reSt (fun W s=>s.p6_3 [1,5,0] rfl) ?_;refine Sx.freezeSeq (ds:=[dEx .u8 e56]) rfl (hz56.up u58.up) fun HZ pZ cZ uZ eZ hZ=>?_;refine Sx.ret1 (.inl rfl) rfl (.cell rfl Fx.agg208 (.head _) rfl) fun W s=>⟨(.mk 9 na [] [e56] [] l58,_,HZ),⟨(by rw [jF];unfold gS;exact aJ h10 (aJ h25 (aJ h35 (bY h46 (aC (n:=n) hna.1 (aC (n:=n) (x:=()) aG (aC (n:=n) hv56 (aC (n:=n) hv58 (aX))))))))),(u56.trans (u58.trans uZ)),dG (kd:=9) (nm:=na) (hd:=[]) hna.2 (by decide) hZ (Rep.empty (p:=none) (c:=0) (by decide)) (r58.up uZ.up)⟩,rfl,?_⟩;rw [show up n (gSt gB) q=(up n (jX gB) (up n (gX 0) (up n (gNd [61]) (up n gNm q.tl)))) from by rw [jF];unfold gS;rw [aK h10,aK h25,aK h35,cQ h46,aA Cz.nm hna.1,aA (x:=()) (Cz.nd _) aG,aA (Cz.ex 0) hv56,aA Cz.oth hv58,aZ]];exact s.p2_1 [1] rfl
 rw [fK h46];refine .sr<|.yw (.load Z Fx.agg65 qC Z)<|.cs (X:=Unit) Fx.call72 Z (fun W s=>bM K hq [115,101,110,100] (by decide +kernel) (s.p6_6 [0,1,2,3,4,5] Z)) Z fun _ _=>.a Z Z<|.nt<|.cd Z (fun h61=>?_) (fun h61=>?_)
 ·rw [fJ h61];have hlt:=kP h61;have m1:=eN (n:=n) (s:=q.tl) Shs.nm.le Cz.nm;have m2:=eN (n:=n) (s:=up n gNm q.tl) (Shs.nd [46]).le (Cz.nd [46]);have m3:=eN (n:=n) (s:=up n (gNd [46]) (up n gNm q.tl)) Shs.nm.le Cz.nm;refine .sr<|.yw (.load Z Fx.agg65 qC Z)<|.cs (X:=Str) Fx.call74 Z (fun W s=>fO K (Suf.tl hq)  (s.p6_6 [0,1,2,3,4,5] Z)) Z fun na hna=>.yw (.fieldAddr Z Fx.field208_0)<|.st fQ Z Z Fx.size206 Z (nb Z) Z<|.yw (.fieldAddr Z Fx.field208_1)<|.st fQ Z Z Fx.size9 Z (nb Z) Z<|.ns<|.yw (.load Z Fx.agg65 qC Z)<|.cs (X:=Unit) Fx.call73 Z (fun W s=>aP K (Suf.nm.up (Suf.tl hq)) [46] (by decide +kernel) (s.p6_6 [0,1,2,3,4,5] Z)) Z fun _ _=>.ns<|.yw (.load Z Fx.agg65 qC Z)<|.cs (X:=Str) Fx.call74 Z (fun W s=>fO K ((Suf.nd _).up (Suf.nm.up (Suf.tl hq)))  (s.p6_6 [0,1,2,3,4,5] Z)) Z fun ny hny=>.yw (.fieldAddr Z Fx.field208_2)<|.st fQ Z Z Fx.size9 Z (nb Z) Z<|.nt<|.rg<|.yw (.load Z Fx.agg65 qC Z)<|.mv Z<|.cs (X:=List Ex × Nat × Option Addr × Nat × List Value × Hp) Fx.call147 Z (fun W s=>HA K (Suf.nm.up ((Suf.nd _).up (Suf.nm.up (Suf.tl hq)))) b3 b1 b4 _ _ _ _ _ [] 0 Z none 0 [] aL.nil (by omega) (s.p6_6 [2,0,3,5,1,4] Z)) Z fun z75 hz75=>?_
  obtain ⟨l75,k75,p75,c75',xs75,H75⟩:=z75;obtain ⟨hv75,hk75,u75,hz75⟩:=hz75;dsimp only at hv75 hk75 u75 hz75 ⊢;have K75:=K.up u75.up;refine .nl<|.bN<|.tN<|.sr<|.yw (.load Z Fx.agg65 gN Z)<|.cs (X:=Unit) Fx.call73 Z (fun W s=>aP K75 ((Suf.list (Suf.ex 0)).up (Suf.nm.up ((Suf.nd _).up (Suf.nm.up (Suf.tl hq))))) [59] (by decide +kernel) (s.p6_6 [1,0,2,3,4,5] Z)) Z fun _ _=>.ns<|.yw (.loadW Z Fx.agg208 cC Z)<|.sW EA Z Z Fx.size208 (by simp [Value.oneCell',aB]) Z<|.nt<|.rt<|?_
  refine Sx.reSt (fun W s=>s.p6_3 [1,5,0] rfl) ?_;refine Sx.freezeSeq (ds:=l75.map (dEx .u8)) (by rw [List.length_map];simpa using hk75.symm) hz75 fun HZ pZ cZ uZ eZ hZ=>?_;refine Sx.ret1 (.inl rfl) rfl (.cell rfl Fx.agg208 (.head _) rfl) fun W s=>⟨(.mk 6 na ny l75 [] [],_,HZ),⟨(by rw [jF];unfold gS;exact aJ h10 (aJ h25 (aJ h35 (aJ h46 (bY h61 (aC (n:=n) hna.1 (aC (n:=n) (x:=()) aG (aC (n:=n) hny.1 (aC (n:=n) hv75 (aC (n:=n) (x:=()) aG (aX))))))))))),(u75.trans uZ),dG (kd:=6) (nm:=na) (hd:=ny) hna.2 hny.2 hZ (Rep.empty (p:=none) (c:=0) (by decide)) (Rep.empty (p:=none) (c:=0) (by decide))⟩,rfl,?_⟩;rw [show up n (gSt gB) q=(up n (gNd [59]) (up n (dY (gX 0)) (up n gNm (up n (gNd [46]) (up n gNm q.tl))))) from by rw [jF];unfold gS;rw [aK h10,aK h25,aK h35,aK h46,cQ h61,aA Cz.nm hna.1,aA (x:=()) (Cz.nd _) aG,aA Cz.nm hny.1,aA (Cz.list (Cz.ex 0)) hv75,aA (x:=()) (Cz.nd _) aG,aZ]];exact s.p2_1 [1] rfl
 rw [fK h61];refine .sr<|.yw (.load Z Fx.agg65 qC Z)<|.cs (X:=Unit) Fx.call72 Z (fun W s=>bM K hq [97,102,116,101,114] (by decide +kernel) (s.p6_6 [0,1,2,3,4,5] Z)) Z fun _ _=>.a Z Z<|.nt<|.cd Z (fun h76=>?_) (fun h76=>?_)
 ·rw [fJ h76];have hlt:=kP h76;have m1:=eN (n:=n) (s:=q.tl) (Shs.gx 0).le (Cz.ex 0);have m2:=eN (n:=n) (s:=up n (gX 0) q.tl) (Shs.nd [100,111]).le (Cz.nd [100,111]);have m3:=eN (n:=n) (s:=up n (gNd [100,111]) (up n (gX 0) q.tl)) Shs.nm.le Cz.nm;refine .sr<|.yw (.fieldAddr Z Fx.field208_0)<|.st fQ Z Z Fx.size206 Z (nb Z) Z<|.ns<|.yw (.load Z Fx.agg118 aW Z)<|.sv (X:=List Ex × Nat × Option Addr × Nat × List Value × Hp × Sg) (fi:=[]) (ca:=[.pointer (some ⟨b3,0,none⟩),.pointer (some ⟨b1,0,none⟩)]) Z Fx.call174 Z (fun W s=>sI K (Suf.tl hq) b3 b1 _ _ _ _ _ [] none 0 [] [] (fun w h=>by cases h) none 0 (Rep.empty (p:=none) (c:=0) (by decide)) aL.nil (by simp) (s.p6_6 [2,0,3,5,1,4] Z)) Z fun z81 hz81=>?_
  obtain ⟨l81,k81,p81,c81',xs81,H81,q81⟩:=z81;obtain ⟨hR,hk81,u81,hz81,hq81⟩:=hz81;dsimp only at hR hk81 u81 hz81 hq81 ⊢;obtain ⟨rfl,e81,rfl,hv81⟩:=kZ.nil hR;obtain rfl:k81=1:=hk81;have K81:=K.up u81.up;refine .ns<|.yw (.load Z Fx.agg65 gN Z)<|.cs (X:=Unit) Fx.call73 Z (fun W s=>aP K81 ((Suf.ex 0).up (Suf.tl hq)) [100,111] (by decide +kernel) (s.p6_6 [1,0,2,3,4,5] Z)) Z fun _ _=>.ns<|.yw (.load Z Fx.agg65 gN Z)<|.cs (X:=Str) Fx.call74 Z (fun W s=>fO K81 ((Suf.nd _).up ((Suf.ex 0).up (Suf.tl hq)))  (s.p6_6 [0,1,2,3,4,5] Z)) Z fun ny hny=>.yw (.fieldAddr Z Fx.field208_2)<|.st cJ Z Z Fx.size9 Z (nb Z) Z<|.nt<|.rg<|.yw (.load Z Fx.agg65 gN Z)<|.mv Z<|.cs (X:=List Ex × Nat × Option Addr × Nat × List Value × Hp) Fx.call147 Z (fun W s=>HA K81 (Suf.nm.up ((Suf.nd _).up ((Suf.ex 0).up (Suf.tl hq)))) b3 b1 b4 _ _ _ _ _ [e81] 1 Z p81 c81' xs81 hz81 (by omega) (s.p6_6 [1,0,2,3,4,5] Z)) Z fun z89 hz89=>?_
  obtain ⟨l89,k89,p89,c89',xs89,H89⟩:=z89;obtain ⟨hv89,hk89,u89,hz89⟩:=hz89;dsimp only at hv89 hk89 u89 hz89 ⊢;have K89:=K81.up u89.up;refine .nl<|.bN<|.tN<|.sr<|.yw (.load Z Fx.agg65 gN Z)<|.cs (X:=Unit) Fx.call73 Z (fun W s=>aP K89 ((Suf.list (Suf.ex 0)).up (Suf.nm.up ((Suf.nd _).up ((Suf.ex 0).up (Suf.tl hq))))) [59] (by decide +kernel) (s.p6_6 [1,0,2,3,4,5] Z)) Z fun _ _=>.ns<|.yw (.loadW Z Fx.agg208 cC Z)<|.sW EA Z Z Fx.size208 (by simp [Value.oneCell',aB]) Z<|.nt<|.rt<|?_
  refine Sx.reSt (fun W s=>s.p6_3 [1,5,0] rfl) ?_;refine Sx.freezeSeq (ds:=(e81::l89).map (dEx .u8)) (by rw [List.length_map,List.length_cons];simp at hk89;omega) hz89 fun HZ pZ cZ uZ eZ hZ=>?_;refine Sx.ret1 (.inl rfl) rfl (.cell rfl Fx.agg208 (.head _) rfl) fun W s=>⟨(.mk 7 [] ny (e81::l89) [] [],_,HZ),⟨(by rw [jF];unfold gS;exact aJ h10 (aJ h25 (aJ h35 (aJ h46 (aJ h61 (bY h76 (aC (n:=n) hv81 (aC (n:=n) (x:=()) aG (aC (n:=n) hny.1 (aC (n:=n) hv89 (aC (n:=n) (x:=()) aG (aX)))))))))))),(u81.trans (u89.trans uZ)),dG (kd:=7) (nm:=[]) (hd:=ny) (by decide) hny.2 hZ (Rep.empty (p:=none) (c:=0) (by decide)) (Rep.empty (p:=none) (c:=0) (by decide))⟩,rfl,?_⟩;rw [show up n (gSt gB) q=(up n (gNd [59]) (up n (dY (gX 0)) (up n gNm (up n (gNd [100,111]) (up n (gX 0) q.tl))))) from by rw [jF];unfold gS;rw [aK h10,aK h25,aK h35,aK h46,aK h61,cQ h76,aA (Cz.ex 0) hv81,aA (x:=()) (Cz.nd _) aG,aA Cz.nm hny.1,aA (Cz.list (Cz.ex 0)) hv89,aA (x:=()) (Cz.nd _) aG,aZ]];exact s.p2_1 [1] rfl
 rw [fK h76];refine .sr<|.yw (.load Z Fx.agg65 qC Z)<|.cs (X:=Unit) Fx.call72 Z (fun W s=>bM K hq [115,116,111,112] (by decide +kernel) (s.p6_6 [0,1,2,3,4,5] Z)) Z fun _ _=>.a Z Z<|.nt<|.cd Z (fun h90=>?_) (fun h90=>?_)
 ·rw [fJ h90];have hlt:=kP h90;refine .rg<|.yw (.fieldAddr Z Fx.field208_0)<|.st fQ Z Z Fx.size206 Z (nb Z) Z<|.nl<|.bN<|.tN<|.sr<|.yw (.load Z Fx.agg65 qC Z)<|.cs (X:=Unit) Fx.call73 Z (fun W s=>aP K (Suf.tl hq) [59] (by decide +kernel) (s.p6_6 [0,1,2,3,4,5] Z)) Z fun _ _=>.ns<|.yw (.loadW Z Fx.agg208 gN Z)<|.sW EB Z Z Fx.size208 (by simp [Value.oneCell',aB]) Z<|.nt<|.rt<|?_
  refine Sx.reSt (fun W s=>s.p6_3 [2,4,0] rfl) ?_;refine Sx.freezeSeq (ds:=[]) rfl aL.nil fun HZ pZ cZ uZ eZ hZ=>?_;refine Sx.ret1 (.inl rfl) rfl (.cell rfl Fx.agg208 (.head _) rfl) fun W s=>⟨(.mk 10 [] [] [] [] [],_,HZ),⟨(by rw [jF];unfold gS;exact aJ h10 (aJ h25 (aJ h35 (aJ h46 (aJ h61 (aJ h76 (bY h90 (aC (n:=n) (x:=()) aG (aX))))))))),uZ,dG (kd:=10) (nm:=[]) (hd:=[]) (by decide) (by decide) hZ (Rep.empty (p:=none) (c:=0) (by decide)) (Rep.empty (p:=none) (c:=0) (by decide))⟩,rfl,?_⟩;rw [show up n (gSt gB) q=(up n (gNd [59]) q.tl) from by rw [jF];unfold gS;rw [aK h10,aK h25,aK h35,aK h46,aK h61,aK h76,cQ h90,aA (x:=()) (Cz.nd _) aG,aZ]];exact s.p2_1 [1] rfl
 rw [fK h90];refine .rg<|.yw (.load Z Fx.agg65 qC Z)<|.cs (X:=UInt8 × Str × List Ex × Nat × Option Addr × Nat × List Value × Hp) Fx.call177 Z (fun W s=>KP K hq b3 _ _ _ _ _ none 0 (s.p6_6 [2,0,3,1,4,5] Z)) Z fun z9 hz9=>?_
 obtain ⟨op9,nm9,l9,k9,p9,c9',xs9,H9⟩:=z9;obtain ⟨hv9,hn9,hk9,u9,hz9⟩:=hz9;dsimp only at hv9 hn9 hk9 u9 hz9 ⊢;subst hk9;have K9:=K.up u9.up;refine .nl<|.bN<|.tN<|.sr<|.yw (.load Z Fx.agg65 qC Z)<|.cs (X:=Unit) Fx.call73 Z (fun W s=>aP K9 (SE.up hq) [59] (by decide +kernel) (s.p6_6 [1,0,2,3,4,5] Z)) Z fun _ _=>.ns<|.yw (.loadW Z Fx.agg208 cC Z)<|.sW EB Z Z Fx.size208 (by simp [Value.oneCell',aB]) Z<|.nt<|.rt<|?_
 refine Sx.reSt (fun W s=>s.p6_3 [1,4,0] rfl) ?_;refine Sx.freezeSeq (ds:=l9.map (dEx .u8)) (by rw [List.length_map]) hz9 fun HZ pZ cZ uZ eZ hZ=>?_;refine Sx.ret1 (.inl rfl) rfl (.cell rfl Fx.agg208 (.head _) rfl) fun W s=>⟨(.mk op9 nm9 [] l9 [] [],_,HZ),⟨(by rw [jF];unfold gS;exact aJ h10 (aJ h25 (aJ h35 (aJ h46 (aJ h61 (aJ h76 (aJ h90 (aC (n:=n) hv9 (aC (n:=n) (x:=()) aG aX))))))))),(u9.trans uZ),dG (kd:=op9) (nm:=nm9) (hd:=[]) hn9 (by decide) hZ (Rep.empty (p:=none) (c:=0) (by decide)) (Rep.empty (p:=none) (c:=0) (by decide))⟩,rfl,?_⟩;rw [show up n (gSt gB) q=(up n (gNd [59]) (up n hG q)) from by rw [jF];unfold gS;rw [aK h10,aK h25,aK h35,aK h46,aK h61,aK h76,aK h90,aA Cz.chg hv9,aA (x:=()) (Cz.nd _) aG,aZ]];exact s.p2_1 [1] rfl
theorem wP:∀ M,M≤800000→StC M∧BkC M
 | 0,_=>⟨fun _ _ h=>absurd h (Nat.not_lt_zero _),fun _ _ h=>absurd h (Nat.not_lt_zero _)⟩
 | M+1,h=>by
  obtain ⟨h1,h2⟩:=wP M (by omega);exact ⟨zB M (by omega) h2,PC M (by omega) h1⟩
end Go.Proofs.YthhoebdlfjffkaaGreatDoor
namespace Go.Proofs.YthhoebdlfjffkaaGreatDoor
open Go.RowKit Go.Par Go.Sx
open Go.RowKit Go.Par Go.Sx
end Go.Proofs.YthhoebdlfjffkaaGreatDoor
namespace Go.Sx
open Go.RowKit Go.Par
section
variable {P:Program} {L:Sl} {H:Hp} {w0:World} {bs:List Res} {d:Option Tmp} {ty:TypeId} {pos:String} {aft:Array Edge} {g:Option (Nat × Bool)} {x:Operand} {T:TypeId}
theorem Yl.neg {k:IntKind} {i c:Int} (hx:ev L x=some (.int k i)) (hw:k.wrap (0 - i)=c):Yl P L H w0 bs ⟨d,.unOp .neg T x,ty,pos,aft,g⟩ (.int k c):=.of_run fun a W f _=>by
 subst hw;unfold execOp;simp [f x _ hx,Op.unary,Op.intArith]
end
end Go.Sx
namespace Go.Proofs.YthhoebdlfjffkaaGreatDoor
open Go.RowKit Go.Par Go.Sx
theorem Fx.size2:bL Tryz.prog 2=some 1:=by kernel_rfl
theorem Fx.size149:bL Tryz.prog 149=some 1:=by kernel_rfl
theorem Fx.bld151_0 (x0:ByteArray):bV Tryz.prog 151 [(0,.string x0)]=some [.string x0,.int .u8 0,.int .i64 0]:=by kernel_rfl
theorem RJ (x:Int64):IntKind.i64.wrap (0 - x.toInt)=(-x).toInt:=by
 rw [Int64.toInt_neg];have h1:=x.le_toInt;have h2:=x.toInt_lt
 by_cases h:x.toInt=-9223372036854775808
 ·rw [h];decide +kernel
 ·rw [w64 (by omega) (by omega),Int.bmod_eq_of_le (by omega) (by omega)];omega
theorem BF {H:Hp} {w0 W:World} {bs:List Res} {b n:Nat} {ts:List Tk} {tp:Option Addr} {tc:Nat} {t0 t1 t2 t3:Value} {q:Sg} (K:Tkm H ts tp tc) (hq:q.r<:+ts) (s:St H w0 (.box b [.slice tp ts.length tc,.int .i64 (bT ts q:Nat),.int .i64 (n:Nat),t0,t1,t2,t3,.int .i64 (q.o:Nat),.int .i64 (q.e:Nat)] 99::bs) W) :
 Calls Tryz.prog 121 #[.pointer (some ⟨b,0,none⟩)] W fun e W'=>∃ z:Vr,(vl gVr q z∧z.nm.length≤1000000)∧e=.returned (.agg ([aB z.nm,.int .u8 z.ty.toNat,.int .i64 z.init.toInt]:List Value).toArray)∧St H w0 (.box b [.slice tp ts.length tc,.int .i64 (bT ts (up n gVr q):Nat),.int .i64 (n:Nat),t0,t1,t2,t3,.int .i64 ((up n gVr q).o:Nat),.int .i64 ((up n gVr q).e:Nat)] 99::bs) W':=by
 refine Sx.enterS Tryz.func121 rfl Tryz.ntmps121 rfl s ?_;refine .sr<|.al Fx.zero151 Z fun b2=>.ns<|.mv Z<|.cs (X:=Str) Fx.call74 Z (fun W s=>fO K hq  (s.p2_2 [1,0] Z)) Z fun nm hnm=>.yw (.build Z (Fx.bld151_0 _))<|.al Fx.zero151 Z fun b3=>.sW .head Z Z Fx.size151 (by simp [Value.oneCell',aB]) Z<|.ns<|.mv Z<|.cs (X:=Unit) Fx.call73 Z (fun W s=>aP K (Suf.nm.up hq) [58] (by decide +kernel) (s.p3_3 [1,0,2] Z)) Z fun _ _=>.nt<|.sq<|.bk<|.sr<|.mv Z<|.cs (X:=Unit) Fx.call72 Z (fun W s=>bM K ((Suf.nd _).up (Suf.nm.up hq)) [105,110,116] (by decide +kernel) (s.p3_3 [0,1,2] Z)) Z fun _ _=>.a Z Z<|.nt<|.cd Z (fun h13=>?_) (fun h13=>?_)
 ·rw [fJ h13];refine .sr<|.yw (.fieldAddr Z Fx.field151_1)<|.st bQ Z Z Fx.size149 Z (nb Z) Z<|.ns<|.mv Z<|.cs (X:=Unit) Fx.call73 Z (fun W s=>aP K (Suf.tl ((Suf.nd _).up (Suf.nm.up hq))) [61] (by decide +kernel) (s.p3_3 [0,1,2] Z)) Z fun _ _=>.ns<|.mv Z<|.cs (X:=Unit) Fx.call72 Z (fun W s=>bM K ((Suf.nd _).up (Suf.tl ((Suf.nd _).up (Suf.nm.up hq)))) [45] (by decide +kernel) (s.p3_3 [0,1,2] Z)) Z fun _ _=>.a Z Z<|.ns<|.mv Z<|.cs (X:=Int64) Fx.call120 Z (fun W s=>rV K (IC ((Suf.nd _).up (Suf.tl ((Suf.nd _).up (Suf.nm.up hq)))))  (s.p3_3 [0,1,2] Z)) Z fun nu hnu=>.yw (.fieldAddr Z Fx.field151_2)<|.st bQ Z Z Fx.size2 Z (nb Z) Z<|.ns<|.mv Z<|.nt<|.cd Z (fun h24=>?_) (fun h24=>?_)
  ·rw [fJ h24] at hnu ⊢;refine .rg<|.yw (.fieldAddr Z Fx.field151_2)<|.yw (.load Z Fx.agg2 aW Z)<|.yw (.neg Z (RJ nu))<|.yw (.fieldAddr Z Fx.field151_2)<|.st bQ Z Z Fx.size2 Z (nb Z) Z<|.nl<|.bN<|.tN<|.sr<|.mv Z<|.cs (X:=Unit) Fx.call73 Z (fun W s=>aP K (Suf.nu.up (Suf.tl ((Suf.nd _).up (Suf.tl ((Suf.nd _).up (Suf.nm.up hq)))))) [59] (by decide +kernel) (s.p3_3 [0,1,2] Z)) Z fun _ _=>.ns<|.yw (.loadW Z Fx.agg151 aW Z)<|.sW cJ Z Z Fx.size151 (by simp [Value.oneCell',aB]) Z<|.nt<|.rt<|?_
   refine Sx.ret1 (.inl rfl) rfl (.cell rfl Fx.agg151 cC rfl) fun W s=>?_;rw [show up n gVr q=(up n (gNd [59]) (up n gNu (up n (gNd [61]) (up n (gNd [58]) (up n gNm q)).tl).tl)) by unfold gVr;rw [aA Cz.nm hnm.1,aA (x:=()) (Cz.nd _) aG,cQ h13,aA (x:=()) (Cz.nd _) aG,aA Cz.int (x:=-nu) (by unfold qX;exact bY h24 (mT (f:=fun v=>-v) hnu))];unfold qX;rw [cQ h24,aA (x:=()) (Cz.nd _) aG,aZ,nI]];exact ⟨⟨nm,1,(-nu)⟩,⟨by unfold gVr;exact aC (n:=n) hnm.1 (aC (n:=n) (x:=()) aG (bY h13 (aC (n:=n) (x:=()) aG (aC (n:=n) (g:=qX) (x:=-nu) (by unfold qX;exact bY h24 (mT (f:=fun v=>-v) hnu)) (aC (n:=n) (x:=()) aG (aX)))))),hnm.2⟩,rfl,s.p3_1 [0] rfl⟩
  rw [fK h24] at hnu ⊢;refine .sk<|.bN<|.tN<|.sr<|.mv Z<|.cs (X:=Unit) Fx.call73 Z (fun W s=>aP K (Suf.nu.up ((Suf.nd _).up (Suf.tl ((Suf.nd _).up (Suf.nm.up hq))))) [59] (by decide +kernel) (s.p3_3 [0,1,2] Z)) Z fun _ _=>.ns<|.yw (.loadW Z Fx.agg151 aW Z)<|.sW cJ Z Z Fx.size151 (by simp [Value.oneCell',aB]) Z<|.nt<|.rt<|?_
  refine Sx.ret1 (.inl rfl) rfl (.cell rfl Fx.agg151 cC rfl) fun W s=>?_;rw [show up n gVr q=(up n (gNd [59]) (up n gNu (up n (gNd [61]) (up n (gNd [58]) (up n gNm q)).tl))) by unfold gVr;rw [aA Cz.nm hnm.1,aA (x:=()) (Cz.nd _) aG,cQ h13,aA (x:=()) (Cz.nd _) aG,aA Cz.int (x:=nu) (by unfold qX;exact aJ h24 hnu)];unfold qX;rw [aK h24,aA (x:=()) (Cz.nd _) aG,aZ]];exact ⟨⟨nm,1,nu⟩,⟨by unfold gVr;exact aC (n:=n) hnm.1 (aC (n:=n) (x:=()) aG (bY h13 (aC (n:=n) (x:=()) aG (aC (n:=n) (g:=qX) (x:=nu) (by unfold qX;exact aJ h24 hnu) (aC (n:=n) (x:=()) aG (aX)))))),hnm.2⟩,rfl,s.p3_1 [0] rfl⟩
 rw [fK h13];refine .sr<|.mv Z<|.cs (X:=Unit) Fx.call72 Z (fun W s=>bM K ((Suf.nd _).up (Suf.nm.up hq)) [98,111,111,108] (by decide +kernel) (s.p3_3 [0,1,2] Z)) Z fun _ _=>.a Z Z<|.nt<|.cd Z (fun h29=>?_) (fun h29=>?_)
 ·rw [fJ h29];refine .sr<|.yw (.fieldAddr Z Fx.field151_1)<|.st bQ Z Z Fx.size149 Z (nb Z) Z<|.ns<|.mv Z<|.cs (X:=Unit) Fx.call73 Z (fun W s=>aP K (Suf.tl ((Suf.nd _).up (Suf.nm.up hq))) [61] (by decide +kernel) (s.p3_3 [0,1,2] Z)) Z fun _ _=>.ns<|.mv Z<|.cs (X:=Bool) Fx.call119 Z (fun W s=>BG K ((Suf.nd _).up (Suf.tl ((Suf.nd _).up (Suf.nm.up hq))))  (s.p3_3 [0,1,2] Z)) Z fun tb htb=>.nt<|.cd Z (fun h36=>?_) (fun h36=>?_)
  ·obtain rfl:tb=true:=h36;refine .rg<|.yw (.fieldAddr Z Fx.field151_2)<|.st bQ Z Z Fx.size2 Z (nb Z) Z<|.nl<|.bN<|.tN<|.sr<|.mv Z<|.cs (X:=Unit) Fx.call73 Z (fun W s=>aP K (Suf.tr.up ((Suf.nd _).up (Suf.tl ((Suf.nd _).up (Suf.nm.up hq))))) [59] (by decide +kernel) (s.p3_3 [0,1,2] Z)) Z fun _ _=>.ns<|.yw (.loadW Z Fx.agg151 aW Z)<|.sW cJ Z Z Fx.size151 (by simp [Value.oneCell',aB]) Z<|.nt<|.rt<|?_
   refine Sx.ret1 (.inl rfl) rfl (.cell rfl Fx.agg151 cC rfl) fun W s=>?_;rw [show up n gVr q=(up n (gNd [59]) (up n gTr (up n (gNd [61]) (up n (gNd [58]) (up n gNm q)).tl))) by unfold gVr;rw [aA Cz.nm hnm.1,aA (x:=()) (Cz.nd _) aG,aK h13,cQ h29,aA (x:=()) (Cz.nd _) aG,aA Cz.tr htb,aA (x:=()) (Cz.nd _) aG,aZ]];exact ⟨⟨nm,2,1⟩,⟨by unfold gVr;exact aC (n:=n) hnm.1 (aC (n:=n) (x:=()) aG (aJ h13 (bY h29 (aC (n:=n) (x:=()) aG (aC (n:=n) htb (aC (n:=n) (x:=()) aG (aX))))))),hnm.2⟩,rfl,s.p3_1 [0] rfl⟩
  obtain rfl:tb=false:=h36;refine .sk<|.bN<|.tN<|.sr<|.mv Z<|.cs (X:=Unit) Fx.call73 Z (fun W s=>aP K (Suf.tr.up ((Suf.nd _).up (Suf.tl ((Suf.nd _).up (Suf.nm.up hq))))) [59] (by decide +kernel) (s.p3_3 [0,1,2] Z)) Z fun _ _=>.ns<|.yw (.loadW Z Fx.agg151 aW Z)<|.sW cJ Z Z Fx.size151 (by simp [Value.oneCell',aB]) Z<|.nt<|.rt<|?_
  refine Sx.ret1 (.inl rfl) rfl (.cell rfl Fx.agg151 cC rfl) fun W s=>?_;rw [show up n gVr q=(up n (gNd [59]) (up n gTr (up n (gNd [61]) (up n (gNd [58]) (up n gNm q)).tl))) by unfold gVr;rw [aA Cz.nm hnm.1,aA (x:=()) (Cz.nd _) aG,aK h13,cQ h29,aA (x:=()) (Cz.nd _) aG,aA Cz.tr htb,aA (x:=()) (Cz.nd _) aG,aZ]];exact ⟨⟨nm,2,0⟩,⟨by unfold gVr;exact aC (n:=n) hnm.1 (aC (n:=n) (x:=()) aG (aJ h13 (bY h29 (aC (n:=n) (x:=()) aG (aC (n:=n) htb (aC (n:=n) (x:=()) aG (aX))))))),hnm.2⟩,rfl,s.p3_1 [0] rfl⟩
 rw [fK h29];refine .sr<|.yw (.fieldAddr Z Fx.field151_1)<|.st bQ Z Z Fx.size149 Z (nb Z) Z<|.nt<|.rg<|.mv Z<|.cs (X:=Unit) Fx.call73 Z (fun W s=>aP K ((Suf.nd _).up (Suf.nm.up hq)) [116,97,98,108,101] (by decide +kernel) (s.p3_3 [0,1,2] Z)) Z fun _ _=>.nl<|.bN<|.tN<|.sr<|.mv Z<|.cs (X:=Unit) Fx.call73 Z (fun W s=>aP K ((Suf.nd _).up ((Suf.nd _).up (Suf.nm.up hq))) [59] (by decide +kernel) (s.p3_3 [0,1,2] Z)) Z fun _ _=>.ns<|.yw (.loadW Z Fx.agg151 aW Z)<|.sW cJ Z Z Fx.size151 (by simp [Value.oneCell',aB]) Z<|.nt<|.rt<|?_
 refine Sx.ret1 (.inl rfl) rfl (.cell rfl Fx.agg151 cC rfl) fun W s=>?_;rw [show up n gVr q=(up n (gNd [59]) (up n (gNd [116,97,98,108,101]) (up n (gNd [58]) (up n gNm q)))) by unfold gVr;rw [aA Cz.nm hnm.1,aA (x:=()) (Cz.nd _) aG,aK h13,aK h29,aA (x:=()) (Cz.nd _) aG,aA (x:=()) (Cz.nd _) aG,aZ]];exact ⟨⟨nm,3,0⟩,⟨by unfold gVr;exact aC (n:=n) hnm.1 (aC (n:=n) (x:=()) aG (aJ h13 (aJ h29 (aC (n:=n) (x:=()) aG (aC (n:=n) (x:=()) aG (aX)))))),hnm.2⟩,rfl,s.p3_1 [0] rfl⟩
end Go.Proofs.YthhoebdlfjffkaaGreatDoor
namespace Go.Proofs.YthhoebdlfjffkaaGreatDoor
open Go.RowKit Go.Par Go.Sx
open Go.RowKit Go.Par Go.Sx
end Go.Proofs.YthhoebdlfjffkaaGreatDoor
namespace Go.Proofs.YthhoebdlfjffkaaGreatDoor
open Go.RowKit Go.Par Go.Sx
theorem Fx.call148:aM Tryz.prog 148=Bool.true:=by kernel_rfl
theorem Fx.size52:bL Tryz.prog 52=some 1:=by kernel_rfl
theorem sB {H:Hp} {x:Str} (h:x.length≤1000000):Rep H (iM x) [aB x]:=by
 unfold iM Rep;exact ⟨rfl,rfl,okS.2 h⟩
theorem CD {H:Hp} {w0 W:World} {bs:List Res} {b n:Nat} {ts:List Tk} {tp:Option Addr} {tc:Nat} {t0 t1 t2 t3:Value} {q:Sg} (K:Tkm H ts tp tc) (hq:q.r<:+ts) (bH bP:Nat) (c0 c2:Value) (ps:List Str) (k0:Nat) (hk0:k0=ps.length) (vp:Option Addr) (vc:Nat) (xs0:List Value) (hz:aL H 1 (ps.map iM) xs0) (hk:k0≤1000000) (s:St H w0 (.row 9 1 (.slice vp k0 vc) k0 xs0::.box b [.slice tp ts.length tc,.int .i64 (bT ts q:Nat),.int .i64 (n:Nat),t0,t1,t2,t3,.int .i64 (q.o:Nat),.int .i64 (q.e:Nat)] 99::.box bH [c0,.slice vp k0 vc,c2] 162::.box bP [.pointer (some ⟨b,0,none⟩)] 65::bs) W) :
 Calls Tryz.prog 148 #[.pointer (some ⟨bH,0,none⟩),.pointer (some ⟨bP,0,none⟩)] W fun e W'=>∃ z:Str × Nat × Option Addr × Nat × List Value × Hp,(vl gNm q z.1∧z.2.1=ps.length+1∧HUp w0 H z.2.2.2.2.2∧aL z.2.2.2.2.2 1 ((ps++[z.1]).map iM) z.2.2.2.2.1)∧e=.returned (.tuple #[])∧St z.2.2.2.2.2 w0 (.row 9 1 (.slice z.2.2.1 z.2.1 z.2.2.2.1) z.2.1 z.2.2.2.2.1::.box b [.slice tp ts.length tc,.int .i64 (bT ts (up n gNm q):Nat),.int .i64 (n:Nat),t0,t1,t2,t3,.int .i64 ((up n gNm q).o:Nat),.int .i64 ((up n gNm q).e:Nat)] 99::.box bH [c0,.slice z.2.2.1 z.2.1 z.2.2.2.1,c2] 162::.box bP [.pointer (some ⟨b,0,none⟩)] 65::bs) W':=by
 subst hk0;refine Sx.enterS Tryz.func148 rfl Tryz.ntmps148 rfl s ?_;refine .fL 6 [(0,0),(1,0),(2,0),(3,3),(4,1),(5,3)]<|.yw (.fieldAddr Z Fx.field162_1)<|.yw (.load Z Fx.agg52 cC Z)<|.yw (.load Z Fx.agg65 gN Z)<|.c3 (X:=Str) Fx.call74 Z (fun W s=>fO K hq  (s.p4_4 [1,0,2,3] Z)) Z (fun _ _=>(.dn<|.yv (.load Z Fx.agg52 cC Z)<|.yv (.fieldAddr Z Fx.field162_1)<|.nl)) fun nm hnm=>.blF Z (Fx.bsl52_1 _) Z fun b6 H2 u2 m2=>.apD Fx.row52 Z (fun _ _=>bQ) Z (Rep.mk (n:=1) (c:=1) (ds:=[iM nm]) m2 (.single (sB hnm.2) Z) Z (Nat.le_refl _) (by decide)) (by simp only [maxLen];omega) (by omega) Z (fun _ _=>(.dn<|.dn<|.dn<|.nl)) fun xs7 p7 c7 hz7=>.fn (tl:=[_,_]) Z<|.yw (.fieldAddr Z Fx.field162_1)<|.st cJ Z Z Fx.size52 Z (nb Z) Z<|.nl<|?_
 refine Sx.retN (.inr rfl) rfl .nil rfl fun W s=>⟨(nm,ps.length+1,p7,c7,xs0++xs7,H2),⟨hnm.1,rfl,u2,(by rw [List.map_append];exact (hz.up u2.up).app hz7)⟩,rfl,?_⟩;exact s.p4_4 [1,0,2,3] rfl
theorem NE {H:Hp} {w0 W:World} {bs:List Res} {b n:Nat} {ts:List Tk} {tp:Option Addr} {tc:Nat} {t0 t1 t2 t3:Value} {q:Sg} (K:Tkm H ts tp tc) (hq:q.r<:+ts) (bH bP:Nat) (c0 c2:Value) (ps:List Str) (k0:Nat) (hk0:k0=ps.length) (vp:Option Addr) (vc:Nat) (xs0:List Value) (hz:aL H 1 (ps.map iM) xs0) (hk:k0+q.mu≤900000) (s:St H w0 (.row 9 1 (.slice vp k0 vc) k0 xs0::.box b [.slice tp ts.length tc,.int .i64 (bT ts q:Nat),.int .i64 (n:Nat),t0,t1,t2,t3,.int .i64 (q.o:Nat),.int .i64 (q.e:Nat)] 99::.box bH [c0,.slice vp k0 vc,c2] 162::.box bP [.pointer (some ⟨b,0,none⟩)] 65::bs) W) :
 Calls Tryz.prog 147 #[.pointer (some ⟨b,0,none⟩),.func (.func 148) #[] #[.pointer (some ⟨bH,0,none⟩),.pointer (some ⟨bP,0,none⟩)]] W fun e W'=>∃ z:List Str × Nat × Option Addr × Nat × List Value × Hp,(vl (dY gNm) q z.1∧z.2.1=ps.length+z.1.length∧HUp w0 H z.2.2.2.2.2∧aL z.2.2.2.2.2 1 ((ps++z.1).map iM) z.2.2.2.2.1)∧e=.returned (.tuple #[])∧St z.2.2.2.2.2 w0 (.row 9 1 (.slice z.2.2.1 z.2.1 z.2.2.2.1) z.2.1 z.2.2.2.2.1::.box b [.slice tp ts.length tc,.int .i64 (bT ts (up n (dY gNm) q):Nat),.int .i64 (n:Nat),t0,t1,t2,t3,.int .i64 ((up n (dY gNm) q).o:Nat),.int .i64 ((up n (dY gNm) q).e:Nat)] 99::.box bH [c0,.slice z.2.2.1 z.2.1 z.2.2.2.1,c2] 162::.box bP [.pointer (some ⟨b,0,none⟩)] 65::bs) W':=by
 refine Sx.enterS Tryz.func147 rfl Tryz.ntmps147 rfl s ?_;refine .sr<|.mv Z<|.cs (X:=Unit) Fx.call73 Z (fun W s=>aP K hq [40] (by decide +kernel) (s.p4_4 [1,0,2,3] Z)) Z fun _ _=>.nt<|.sq<|.sr<|.mv Z<|.cs (X:=Unit) Fx.call72 Z (fun W s=>bM K ((Suf.nd _).up hq) [41] (by decide +kernel) (s.p4_4 [0,1,2,3] Z)) Z fun _ _=>.nt<|.cd Z (fun h7=>?_) (fun h7=>?_)
 ·rw [fJ h7];refine .rt<|.tR<|?_
  refine Sx.retN (.inl rfl) rfl .nil rfl fun W s=>⟨([],k0,vp,vc,xs0,H),⟨(by unfold dY;exact aC (n:=n) (x:=()) aG (bY h7 aX)),hk0,.refl,(by rw [List.append_nil];exact hz)⟩,rfl,?_⟩;rw [show up n (dY gNm) q=(up n (gNd [40]) q).tl by unfold dY;rw [aA (x:=()) (Cz.nd _) aG,cQ h7,aZ]];exact s.p4_4 [1,0,2,3] rfl
 rw [fK h7];refine .sk<|.tN<|.sr<|.mv Z<|.sv (X:=Str × Nat × Option Addr × Nat × List Value × Hp) (fi:=[]) (ca:=[.pointer (some ⟨bH,0,none⟩),.pointer (some ⟨bP,0,none⟩)]) Z Fx.call148 Z (fun W s=>CD K ((Suf.nd _).up hq) bH bP c0 c2 ps k0 hk0 vp vc xs0 hz (by omega) (s.p4_4 [1,0,2,3] Z)) Z fun z1 hz1=>?_
 obtain ⟨e1,k1,p1,c1',xs1,H1⟩:=z1;obtain ⟨hv1,hk1,u1,hz1⟩:=hz1;dsimp only at hv1 hk1 u1 hz1 ⊢;have K1:=K.up u1.up;refine .nt<|.sq<|.bk<|.lp (X:=List Str × Nat × Option Addr × Nat × List Value × Hp × Sg) [(0,_),(1,_)] ⟨rfl,rfl,trivial⟩ (_::bs) (fun y=>[]) (fun y=>y.2.2.2.2.2.1) (fun y=>[.row 9 1 (.slice y.2.2.1 y.2.1 y.2.2.2.1) y.2.1 y.2.2.2.2.1,.box b [.slice tp ts.length tc,.int .i64 (bT ts y.2.2.2.2.2.2:Nat),.int .i64 (n:Nat),t0,t1,t2,t3,.int .i64 (y.2.2.2.2.2.2.o:Nat),.int .i64 (y.2.2.2.2.2.2.e:Nat)] 99,.box bH [c0,.slice y.2.2.1 y.2.1 y.2.2.2.1,c2] 162]) (fun y=>∃ l,y.1=e1::l∧MnI n [44] gNm (up n gNm (up n (gNd [40]) q)) l y.2.2.2.2.2.2∧y.2.1=ps.length+y.1.length∧HUp w0 H y.2.2.2.2.2.1∧aL y.2.2.2.2.2.1 1 ((ps++y.1).map iM) y.2.2.2.2.1∧y.2.2.2.2.2.2.r<:+ts) (fun y=>y.2.2.2.2.2.2.mu) ([e1],k1,p1,c1',xs1,H1,up n gNm (up n (gNd [40]) q)) (fun _ s=>s) trivial ⟨[],rfl,MnI.start,hk1,u1,hz1,Suf.nm.up ((Suf.nd _).up hq)⟩ fun y hC=>?_
 obtain ⟨l0,k,p,c,xs,H2,q2⟩:=y;obtain ⟨l,hl0,hI,hkl,u2,hzl,hq2⟩:=hC;dsimp only at hl0 hI hkl u2 hzl hq2 ⊢;subst hl0;have K2:=K.up u2.up;have hlen:=hI.len;have hmu2:=eN (n:=n) (s:=(up n (gNd [40]) q)) Shs.nm.le Cz.nm;have hmu1:=eN (n:=n) (s:=q) (Shs.nd [40]).le (Cz.nd [40]);rw [List.length_cons] at hkl;refine .sq<|.sr<|.mv Z<|.cs (X:=Unit) Fx.call72 Z (fun W s=>bM K2 hq2 [44] (by decide +kernel) (s.p4_4 [1,0,2,3] Z)) Z fun _ _=>.nt<|.cd Z (fun h11=>?_) (fun h11=>?_)
 ·rw [fJ h11];refine .sk<|.tN<|.bk<|.rg<|.mv Z<|.sv (X:=Str × Nat × Option Addr × Nat × List Value × Hp) (fi:=[]) (ca:=[.pointer (some ⟨bH,0,none⟩),.pointer (some ⟨bP,0,none⟩)]) Z Fx.call148 Z (fun W s=>CD K2 (Suf.tl hq2) bH bP c0 c2 (ps++(e1::l)) k (by rw [List.length_append,List.length_cons];exact hkl) p c xs hzl (by omega) (s.p4_4 [1,0,2,3] Z)) Z fun z3 hz3=>?_
  obtain ⟨e3,k3,p3,c3,xs3,H3⟩:=z3;obtain ⟨hv3,hk3,u3,hz3⟩:=hz3;dsimp only at hv3 hk3 u3 hz3 ⊢;exact .nl<|.bN<|.tN<|.ag (x:=(e1::l,k,p,c,xs,H2,q2)) ((e1::l)++[e3],k3,p3,c3,xs3,H3,up n gNm q2.tl) trivial ⟨rfl,rfl,trivial⟩ (fun _ s=>s) ⟨l++[e3],rfl,(hI.step Shs.nm.le Cz.nm h11 hv3).1,(by dsimp only;rw [List.length_append] at hk3;simp only [List.length_append,List.length_cons,List.length_nil] at *;omega),u2.trans u3,(by dsimp only;rw [← List.append_assoc];exact hz3),Suf.nm.up (Suf.tl hq2)⟩ (hI.step Shs.nm.le Cz.nm h11 hv3).2
 rw [fK h11];obtain ⟨eS,hvS⟩:=hI.stop Shs.nm.le h11;refine .ex<|.tE<|.tE<|.bE<|.tN<|.rg<|.mv Z<|.cs (X:=Unit) Fx.call73 Z (fun W s=>aP K2 hq2 [41] (by decide +kernel) (s.p4_4 [0,1,2,3] Z)) Z fun _ _=>.nl<|?_
 refine Sx.retN (.inr rfl) rfl .nil rfl fun W s=>⟨(e1::l,k,p,c,xs,H2),⟨(by unfold dY;exact aC (n:=n) (x:=()) aG (aJ h7 (aC (n:=n) hv1 (aC (n:=n) hvS (aC (n:=n) (x:=()) aG aX))))),(by dsimp only;rw [List.length_cons];exact hkl),u2,hzl⟩,rfl,?_⟩;rw [show up n (dY gNm) q=up n (gNd [41]) q2 by unfold dY;rw [aA (x:=()) (Cz.nd _) aG,aK h7,aA Cz.nm hv1,aA (.many Cz.nm) hvS,eS,aA (x:=()) (Cz.nd _) aG,aZ]];exact s.p4_4 [1,0,2,3] rfl
theorem Fx.bld162_0 (x0:ByteArray):bV Tryz.prog 162 [(0,.string x0)]=some [.string x0,.slice none 0 0,.slice none 0 0]:=by kernel_rfl
theorem uN {H:Hp} {w0 W:World} {bs:List Res} {b n:Nat} {ts:List Tk} {tp:Option Addr} {tc:Nat} {t0 t1 t2 t3:Value} {q:Sg} (K:Tkm H ts tp tc) (hq:q.r<:+ts) (hmu:q.mu≤700000) (s:St H w0 (.box b [.slice tp ts.length tc,.int .i64 (bT ts q:Nat),.int .i64 (n:Nat),t0,t1,t2,t3,.int .i64 (q.o:Nat),.int .i64 (q.e:Nat)] 99::bs) W) :
 Calls Tryz.prog 122 #[.pointer (some ⟨b,0,none⟩)] W fun e W'=>∃ z:List Hd × Value × Hp,(vl gVs q z.1∧HUp w0 H z.2.2∧Rep z.2.2 (dVs .u8 z.1) [z.2.1])∧e=.returned (.agg ([z.2.1]:List Value).toArray)∧St z.2.2 w0 (.box b [.slice tp ts.length tc,.int .i64 (bT ts (up n gVs q):Nat),.int .i64 (n:Nat),t0,t1,t2,t3,.int .i64 ((up n gVs q).o:Nat),.int .i64 ((up n gVs q).e:Nat)] 99::bs) W':=by
 refine Sx.enterS Tryz.func122 rfl Tryz.ntmps122 rfl s ?_;refine .sr<|.bx Z Z Z fun b1=>.al Fx.zero155 Z fun b2=>.ns<|.al Fx.zero155 Z fun b3=>?_
 refine Sx.row0 162 3 ?_;refine .nt<|.sq<|.bk<|.lp (X:=List Hd × Nat × Option Addr × Nat × List Value × Hp × Sg) [(1,_),(2,_),(3,_)] ⟨rfl,rfl,rfl,trivial⟩ (_::_::bs) (fun z=>[]) (fun z=>z.2.2.2.2.2.1) (fun z=>[.row 162 3 (.slice z.2.2.1 z.2.1 z.2.2.2.1) z.2.1 z.2.2.2.2.1,.box b [.slice tp ts.length tc,.int .i64 (bT ts z.2.2.2.2.2.2:Nat),.int .i64 (n:Nat),t0,t1,t2,t3,.int .i64 (z.2.2.2.2.2.2.o:Nat),.int .i64 (z.2.2.2.2.2.2.e:Nat)] 99,.box b3 [.slice z.2.2.1 z.2.1 z.2.2.2.1] 155]) (fun z=>MnI n [111,110] gHd q z.1 z.2.2.2.2.2.2∧z.2.1=z.1.length∧HUp w0 H z.2.2.2.2.2.1∧aL z.2.2.2.2.2.1 3 (z.1.map (dHd .u8)) z.2.2.2.2.1∧z.2.2.2.2.2.2.r<:+ts) (fun z=>z.2.2.2.2.2.2.mu) ([],0,none,0,[],H,q) (fun _ s=>(s.p5_5 [0,4,1,2,3] Z)) trivial ⟨MnI.start,rfl,.refl,aL.nil,hq⟩ fun z hC=>?_
 obtain ⟨l,k,p,c,xs,H1,q1⟩:=z;obtain ⟨hI,hk1,u1,hz1,hq1⟩:=hC;dsimp only at hI hk1 u1 hz1 hq1 ⊢;have K1:=K.up u1.up;have hlen:=hI.len;refine .sq<|.sr<|.yw (.load Z Fx.agg65 tC Z)<|.cs (X:=Unit) Fx.call72 Z (fun W s=>bM K1 hq1 [111,110] (by decide +kernel) (s.p5_5 [1,0,2,3,4] Z)) Z fun _ _=>.nt<|.cd Z (fun h6=>?_) (fun h6=>?_)
 ·rw [fJ h6];have hlt:=kP h6;have m1:=eN (n:=n) (s:=q1.tl) Shs.nm.le Cz.nm;have m2:=eN (n:=n) (s:=(up n gNm q1.tl)) (Shs.list Shs.nm.le).le (Cz.list Cz.nm);refine .sk<|.tN<|.bk<|.sr<|.yw (.load Z Fx.agg65 tC Z)<|.cs (X:=Str) Fx.call74 Z (fun W s=>fO K1 (Suf.tl hq1)  (s.p5_5 [0,1,2,3,4] Z)) Z fun nm8 hnm8=>.yw (.build Z (Fx.bld162_0 _))<|.al Fx.zero162 Z fun b4=>?_
  refine Sx.row0 9 1 ?_;refine .sW bQ Z Z Fx.size162 (by simp [Value.oneCell',aB]) Z<|.ns<|.yw (.load Z Fx.agg65 XG Z)<|.yw (.mkF Z Z)<|.cs (X:=List Str × Nat × Option Addr × Nat × List Value × Hp) Fx.call147 Z (fun W s=>NE K1 (Suf.nm.up (Suf.tl hq1)) b4 b1 _ _ [] 0 Z none 0 [] aL.nil (by omega) (s.p7_7 [0,2,1,6,3,4,5] Z)) Z fun z12 hz12=>?_
  obtain ⟨l12,k12,p12,c12',xs12,H12⟩:=z12;obtain ⟨hv12,hk12,u12,hz12⟩:=hz12;dsimp only at hv12 hk12 u12 hz12 ⊢;have K12:=K1.up u12.up;refine .ns<|.yw (.load Z Fx.agg65 gN Z)<|.cs (X:=List Sm × Value × Hp) Fx.call149 Z (fun W s=>(wP 800000 (Nat.le_refl _)).2 K12 ((Suf.list Suf.nm).up (Suf.nm.up (Suf.tl hq1))) (by omega) (s.p7_7 [1,0,2,3,4,5,6] Z)) Z fun z14 hz14=>?_
  obtain ⟨l14,v14,H14⟩:=z14;obtain ⟨hv14,u14,r14⟩:=hz14;dsimp only at hv14 u14 r14 ⊢;obtain ⟨p14,c14',e14',_⟩:=r14.sl;simp only [List.cons.injEq,and_true] at e14';subst e14';refine Sx.reSt (fun W s=>s.p7_7 [1,0,2,3,4,5,6] rfl) ?_;refine Sx.freezeSeq (ds:=l12.map iM) (by rw [List.length_map];simpa using hk12.symm) (hz12.up u14.up) fun HF pF cF uF eF hF=>?_;have KF:=K12.up (u14.trans uF).up;have hvH:vl gHd q1.tl ⟨nm8,l12,l14⟩:=aC (n:=n) hnm8.1 (aC (n:=n) hv12 (aC (n:=n) hv14 aX));rw [show (up n (iF gB) (up n (dY gNm) (up n gNm q1.tl)))=up n gHd q1.tl by unfold gHd;rw [aA Cz.nm hnm8.1,aA (Cz.list Cz.nm) hv12,aA Cz.blk hv14,aZ]];refine .yw (.fieldAddr Z Fx.field162_2)<|.st bQ Z Z Fx.size159 Z (nb Z) Z<|.nt<|.rg<|.yw (.fieldAddr Z Fx.field155_0)<|.yw (.load Z Fx.agg153 tC Z)<|.yw (.loadW Z Fx.agg162 aW Z)<|.bl Z (Fx.bsl153_1 _ _ _) Z fun b19=>?_
  refine Sx.freezeBox fun H19 u19 m19=>?_;refine .apD Fx.row153 Z (fun _ _=>fQ) Z (Rep.mk (n:=1) (c:=1) (ds:=[dHd .u8 ⟨nm8,l12,l14⟩]) m19 (.single (AE (x:=⟨nm8,l12,l14⟩) hnm8.2 (hF.up u19.up) (r14.up (uF.trans u19).up)) Z) Z (Nat.le_refl _) (by decide)) (by simp only [maxLen];omega) (by omega) Z fun xs20 r20 hz20=>?_;refine At.ra gN fun p20 c20 e20=>?_;subst e20;exact .yw (.fieldAddr Z Fx.field155_0)<|.st EB Z Z Fx.size153 Z (nb Z) Z<|.nl<|.bN<|.tN<|.ag (x:=(l,k,p,c,xs,H1,q1)) (l++[⟨nm8,l12,l14⟩],k+1,p20,c20,xs++xs20,H19,up n gHd q1.tl) trivial ⟨rfl,rfl,rfl,trivial⟩ (fun _ s=>(s.p6_5 [3,0,4,5,2] Z)) ⟨(hI.step Shs.hd.le Cz.hd h6 hvH).1,by simp [hk1],u1.trans (u12.trans (u14.trans (uF.trans u19))),by dsimp only;rw [List.map_append];exact (hz1.up (u12.trans (u14.trans (uF.trans u19))).up).app hz20,Suf.hd.up (Suf.tl hq1)⟩ (hI.step Shs.hd.le Cz.hd h6 hvH).2
 rw [fK h6];obtain ⟨eS,hvS⟩:=hI.stop Shs.hd.le h6;refine .ex<|.tE<|.tE<|.bE<|.tN<|.sr<|.yw (.loadW Z Fx.agg155 cC Z)<|.sW fQ Z Z Fx.size155 (by simp [Value.oneCell',aB]) Z<|.nt<|.rt<|?_
 refine Sx.reSt (fun W s=>s.p5_3 [1,3,0] rfl) ?_;refine Sx.freezeSeq (ds:=l.map (dHd .u8)) (by rw [List.length_map];exact hk1.symm) hz1 fun HZ pZ cZ uZ eZ hZ=>?_;refine Sx.ret1 (.inl rfl) rfl (.cell rfl Fx.agg155 (.head _) rfl) fun W s=>⟨(l,_,HZ),⟨by unfold gVs;exact hvS,u1.trans uZ,hZ⟩,rfl,?_⟩;rw [show up n gVs q=q1 by unfold gVs;exact eS];exact s.p2_1 [1] rfl
end Go.Proofs.YthhoebdlfjffkaaGreatDoor
namespace Go.Proofs.YthhoebdlfjffkaaGreatDoor
open Go.RowKit Go.Par Go.Sx
open Go.RowKit Go.Par Go.Sx
end Go.Proofs.YthhoebdlfjffkaaGreatDoor
namespace Go.Proofs.YthhoebdlfjffkaaGreatDoor
open Go.RowKit Go.Par Go.Sx
theorem Fx.call121:aM Tryz.prog 121=Bool.true:=by kernel_rfl
theorem Fx.call122:aM Tryz.prog 122=Bool.true:=by kernel_rfl
theorem EK {q:Sg} {ts:List Tk} (hts:ts.length≤600000) (h:q.r<:+ts):q.mu≤700000:=by
 have:=h.length_le;unfold Sg.mu
 split <;> omega
def vmW (i:Nat):Str:=if i=0 then [50] else [51]
def NZ (i:Nat):Pz (List (List Hd)):=if i=0 then gVm else if i=1 then cM [118,101,114,115,105,111,110] (aF (gVn [51]) fun w=>aO [w]) (aO []) else aO []
theorem tW {i:Nat} (h:i<2):NZ i=cM [118,101,114,115,105,111,110] (aF (gVn (vmW i)) fun v=>aF (NZ (i+1)) fun l=>aO (v::l)) (aO []):=by
 rcases (show i=0∨i=1 by omega) with rfl | rfl
 ·show gVm=cM [118,101,114,115,105,111,110] (aF (gVn [50]) fun v=>aF (cM [118,101,114,115,105,111,110] (aF (gVn [51]) fun w=>aO [w]) (aO [])) fun l=>aO (v::l)) (aO []);simp only [xV,sU,qF]
  rfl
 ·show cM [118,101,114,115,105,111,110] (aF (gVn [51]) fun w=>aO [w]) (aO [])=cM [118,101,114,115,105,111,110] (aF (gVn [51]) fun v=>aF (aO []) fun l=>aO (v::l)) (aO []);simp only [qF]
theorem TG (i:Nat):vmW i=[50]∨vmW i=[51]:=by
 unfold vmW
 split
 ·exact .inl Z
 ·exact .inr Z
theorem VR {i:Nat} (h:i<2):([.string ⟨#[50]⟩,.string ⟨#[51]⟩]:List Value)[i]? = some (aB (vmW i)):=by
 rcases (show i=0∨i=1 by omega) with rfl | rfl <;> rfl
structure VmI (n:Nat) (q:Sg) (i:Nat) (l:List (List Hd)) (q1:Sg):Prop where
 eq:up n (NZ i) q1=up n gVm q
 val:∀ l',vl (NZ i) q1 l'→vl gVm q (l++l')
theorem VmI.start {n:Nat} {q:Sg}:VmI n q 0 [] q:=⟨rfl,fun _ h=>h⟩
theorem VmI.step {n i:Nat} {q q1:Sg} {l:List (List Hd)} {a:List Hd} (h:VmI n q i l q1) (hi:i<2) (hac:ac [118,101,114,115,105,111,110] q1=true) (hv:vl (gVn (vmW i)) q1.tl a):VmI n q (i+1) (l++[a]) (up n (gVn (vmW i)) q1.tl):=by
 refine ⟨?_,fun l' hl'=>?_⟩
 ·rw [← h.eq,tW hi,cQ hac,aA (Cz.vn _) hv,nI]
 ·rw [List.append_assoc];refine h.val _ ?_;rw [tW hi];exact bY hac (aC (n:=n) hv (mT hl'))
theorem VmI.no {n i:Nat} {q q1:Sg} {l:List (List Hd)} (h:VmI n q i l q1) (hi:i<2) (hac:ac [118,101,114,115,105,111,110] q1=false):up n gVm q=q1∧vl gVm q l:=by
 refine ⟨by rw [← h.eq,tW hi,aK hac,aZ],?_⟩;have:=h.val [] (by rw [tW hi];exact aJ hac aX)
 rwa [List.append_nil] at this
theorem VmI.end {n:Nat} {q q1:Sg} {l:List (List Hd)} (h:VmI n q 2 l q1):up n gVm q=q1∧vl gVm q l:=by
 have e:NZ 2=aO []:=rfl;refine ⟨by rw [← h.eq,e,aZ],?_⟩;have:=h.val [] (by rw [e];exact aX)
 rwa [List.append_nil] at this
theorem AN {b n:Nat} {ts:List Tk} (hts:ts.length≤600000) {tp:Option Addr} {tc:Nat} {t0 t1 t2:Value}:yR 77 gCp (dCp .u8) 110 3 (fun _=>t0) (fun _=>t1) (fun _=>t2) (fun v=>v) b n ts tp tc:=by
 intro H w0 W bs q v k xs K hq hk s;refine Sx.enterS Tryz.func77 rfl Tryz.ntmps77 rfl s ?_;refine .sr<|.al Fx.zero110 Z fun b2=>?_
 refine Sx.row0 151 3 ?_;refine .ns<|.mv Z<|.cs (X:=Str) Fx.call74 Z (fun W s=>fO K hq  (s.p4_4 [3,0,1,2] Z)) Z fun nm hnm=>.yw (.fieldAddr Z Fx.field110_0)<|.st cJ Z Z Fx.size9 Z (nb Z) Z<|.ns<|.mv Z<|.cs (X:=Unit) Fx.call73 Z (fun W s=>aP K (Suf.nm.up hq) [123] (by decide +kernel) (s.p4_4 [0,1,2,3] Z)) Z fun _ _=>.nt<|.sq<|.bk<|.lp (X:=List Vr × Nat × Option Addr × Nat × List Value × Hp × Sg) [(0,_),(2,_)] ⟨rfl,rfl,trivial⟩ (_::bs) (fun z=>[]) (fun z=>z.2.2.2.2.2.1) (fun z=>[.row 151 3 (.slice z.2.2.1 z.2.1 z.2.2.2.1) z.2.1 z.2.2.2.2.1,.box b [.slice tp ts.length tc,.int .i64 (bT ts z.2.2.2.2.2.2:Nat),.int .i64 (n:Nat),t0,t1,t2,v,.int .i64 (z.2.2.2.2.2.2.o:Nat),.int .i64 (z.2.2.2.2.2.2.e:Nat)] 99,.box b2 [aB nm,.slice z.2.2.1 z.2.1 z.2.2.2.1,.slice none 0 0] 110]) (fun z=>MnI n [118,97,114] gVr (up n (gNd [123]) (up n gNm q)) z.1 z.2.2.2.2.2.2∧z.2.1=z.1.length∧HUp w0 H z.2.2.2.2.2.1∧aL z.2.2.2.2.2.1 3 (z.1.map (dVr .u8)) z.2.2.2.2.1∧z.2.2.2.2.2.2.r<:+ts) (fun z=>z.2.2.2.2.2.2.mu) ([],0,none,0,[],H,(up n (gNd [123]) (up n gNm q))) (fun _ s=>(s.p4_4 [1,0,2,3] Z)) trivial ⟨MnI.start,rfl,.refl,aL.nil,(Suf.nd _).up (Suf.nm.up hq)⟩ fun z hC=>?_
 obtain ⟨lv,kv,pv,cv,xv,H1,q1⟩:=z;obtain ⟨hI,hkv,u1,hzv,hq1⟩:=hC;dsimp only at hI hkv u1 hzv hq1 ⊢;have K1:=K.up u1.up;have hlen:=hI.len;have hmx:=EK hts ((Suf.nd [123]).up (n:=n) (Suf.nm.up (n:=n) hq));refine .sq<|.sr<|.mv Z<|.cs (X:=Unit) Fx.call72 Z (fun W s=>bM K1 hq1 [118,97,114] (by decide +kernel) (s.p4_4 [1,0,2,3] Z)) Z fun _ _=>.nt<|.cd Z (fun h11=>?_) (fun h11=>?_)
 ·rw [fJ h11];exact .sk<|.tN<|.bk<|.fL 6 [(0,0),(1,0),(2,0),(3,3),(4,1),(5,3)]<|.yw (.fieldAddr Z Fx.field110_1)<|.yw (.load Z Fx.agg107 cC Z)<|.mv Z<|.c3 (X:=Vr) Fx.call121 Z (fun W s=>BF K1 (Suf.tl hq1) (s.p4_4 [0,1,2,3] Z)) Z (fun _ _=>(.dn<|.yv (.load Z Fx.agg107 cC Z)<|.yv (.fieldAddr Z Fx.field110_1)<|.nl)) fun vr hvr=>.blF Z (Fx.bsl107_1 _ _ _) Z fun b16 H2 u2 m2=>.apD Fx.row107 Z (fun _ _=>bQ) Z (Rep.mk (n:=1) (c:=1) (ds:=[dVr .u8 vr]) m2 (.single (qI hvr.2) Z) Z (Nat.le_refl _) (by decide)) (by simp only [maxLen];omega) (by omega) Z (fun _ _=>(.dn<|.dn<|.dn<|.nl)) fun xs17 p17 c17 hz17=>.fn (tl:=[_,_]) Z<|.yw (.fieldAddr Z Fx.field110_1)<|.st cJ Z Z Fx.size107 Z (nb Z) Z<|.nl<|.bN<|.tN<|.ag (x:=(lv,kv,pv,cv,xv,H1,q1)) (lv++[vr],kv+1,p17,c17,xv++xs17,H2,up n gVr q1.tl) trivial ⟨rfl,rfl,trivial⟩ (fun _ s=>(s.p4_4 [1,0,2,3] Z)) ⟨(hI.step Shs.vr.le Cz.vr h11 hvr.1).1,by simp [hkv],u1.trans u2,by dsimp only;rw [List.map_append];exact (hzv.up u2.up).app hz17,Suf.vr.up (Suf.tl hq1)⟩ (hI.step Shs.vr.le Cz.vr h11 hvr.1).2
 rw [fK h11];obtain ⟨eV,hvV⟩:=hI.stop Shs.vr.le h11;subst hkv;refine .ex<|.tE<|.tE<|.bE<|.tN<|.sr<|.mv Z<|.cs (X:=List Hd × Value × Hp) Fx.call122 Z (fun W s=>uN K1 hq1 (EK hts hq1) (s.p4_4 [0,1,2,3] Z)) Z fun z3 hz3=>?_
 obtain ⟨l3,v3,H3⟩:=z3;obtain ⟨hv3,u3,r3⟩:=hz3;dsimp only at hv3 u3 r3 ⊢;have K3:=K1.up u3.up;refine .blR (z:=1) Z (Fx.bsl108_1 _) Z Z (by simp [maxLen]) fun b21=>.yw (.fieldAddr Z Fx.field110_2)<|.st fQ Z Z Fx.size108 Z (nb Z) Z<|.nt<|.sq<|.sr<|.bl Z (Fx.bsl52_2 _ _) Z fun b23=>?_
 refine Sx.freezeBox fun H4 u4 m4=>?_;have K4:=K3.up u4.up;refine .yw (.lenSl Fx.sl52 Z)<|.mv Z<|.nt<|.bk<|.lp (X:=Nat × List (List Hd) × Nat × Option Addr × Nat × List Value × Hp × Sg) [(0,_),(2,_),(23,_),(24,_)] ⟨rfl,rfl,rfl,rfl,trivial⟩ (_::_::bs) (fun y=>[(25,.int .i64 (y.1:Nat))]) (fun y=>y.2.2.2.2.2.2.1) (fun y=>[.row 155 1 (.slice y.2.2.2.1 y.2.2.1 y.2.2.2.2.1) y.2.2.1 y.2.2.2.2.2.1,.box b [.slice tp ts.length tc,.int .i64 (bT ts y.2.2.2.2.2.2.2:Nat),.int .i64 (n:Nat),t0,t1,t2,v,.int .i64 (y.2.2.2.2.2.2.2.o:Nat),.int .i64 (y.2.2.2.2.2.2.2.e:Nat)] 99,.box b2 [aB nm,.slice pv lv.length cv,.slice y.2.2.2.1 y.2.2.1 y.2.2.2.2.1] 110]) (fun y=>y.1≤2∧VmI n (up n gVs q1) y.1 y.2.1 y.2.2.2.2.2.2.2∧y.2.2.1=(l3::y.2.1).length∧y.2.1.length≤y.1∧HUp w0 H4 y.2.2.2.2.2.2.1∧aL y.2.2.2.2.2.2.1 1 ((l3::y.2.1).map (dVs .u8)) y.2.2.2.2.2.1∧y.2.2.2.2.2.2.2.r<:+ts) (fun y=>2 - y.1) (0,[],1,some ⟨b21,0,none⟩,1,[v3],H4,(up n gVs q1)) (fun _ s=>(s.p5_5 [0,1,3,2,4] Z)) ⟨rfl,trivial⟩ ⟨Nat.zero_le _,VmI.start,rfl,Nat.zero_le _,.refl,.single (r3.up u4.up) Z,Suf.vs.up hq1⟩ fun y hC=>?_
 obtain ⟨i,l,k5,p5,c5,x5,H5,q5⟩:=y;obtain ⟨hi,hJ,hk5,hl2,u5,hz5,hq5⟩:=hC;dsimp only at hi hJ hk5 hl2 u5 hz5 hq5 ⊢;have K5:=K4.up u5.up;rw [List.length_cons] at hk5;refine .sr<|.yw (.lss Z Z)<|.nt<|.sq<|.cd Z (fun h26=>?_) (fun h26=>?_)
 ·try simp only [dt] at h26
  have hi2:i<2:=by omega
  refine .sk<|.tN<|.sq<|.bk<|.sr<|.yw (.indexSl Fx.sl52 Z Z (i:=i) Z (by omega) (q:=i) (by omega))<|.yw (.loadM Z Fx.agg9 (m4.up u5.up) (k:=i) (v:=aB (vmW i)) (by omega) (VR hi2))<|.a Z Z<|.nt<|.sq<|.sr<|.mv Z<|.cs (X:=Unit) Fx.call72 Z (fun W s=>bM K5 hq5 [118,101,114,115,105,111,110] (by decide +kernel) (s.p5_5 [1,0,2,3,4] Z)) Z fun _ _=>.yw (.not Z)<|.nt<|.cd Z (fun h31=>?_) (fun h31=>?_)
  ·have h30:ac [118,101,114,115,105,111,110] q5=false:=by simpa using h31
   rw [fK h30];obtain ⟨eM,hvM⟩:=hJ.no hi2 h30;refine .ex<|.tE<|.bO Z<|.tE<|.tE<|.bE<|.tN<|.sr<|.mv Z<|.cs (X:=Unit) Fx.call73 Z (fun W s=>aP K5 hq5 [125] (by decide +kernel) (s.p5_5 [0,1,2,3,4] Z)) Z fun _ _=>?_
   refine Sx.reSt (fun W s=>s.p5_5 [3,1,0,2,4] rfl) ?_;refine Sx.freezeSeq (ds:=lv.map (dVr .u8)) (by rw [List.length_map]) (hzv.up (u3.trans (u4.trans u5)).up) fun H8 p8 c8 u8 e8 h8=>?_;refine Sx.freezeSeq (ds:=(l3::l).map (dVs .u8)) (by rw [List.length_map,List.length_cons];exact hk5.symm) (hz5.up u8.up) fun H9 p9 c9 u9 e9 h9=>?_;refine .nt<|.fL 9 [(0,0),(1,0),(2,0),(3,0),(4,0),(5,0),(6,0),(7,1),(8,3)]<|.mv Z<|.mv Z<|.yw (.nilCheck Z)<|.yw (.fieldAddr Z Fx.field99_3)<|.yw (.fieldAddr Z Fx.field49_3)<|.yw (.load Z Fx.agg47 (.head _) Z)<|.yw (.loadW Z Fx.agg110 aW Z)<|.blF Z (Fx.bsl47_1 _ _ _) Z fun b56 H10 u10 m10=>.apD Fx.row47 Z (fun _ _=>cJ) Z (Rep.mk (n:=1) (c:=1) (ds:=[dCp .u8 ⟨nm,lv,l3::l⟩]) m10 (.single (uA (x:=⟨nm,lv,l3::l⟩) hnm.2 (h8.up (u9.trans u10).up) (h9.up u10.up)) Z) Z (Nat.le_refl _) (by decide)) (by simp only [maxLen];omega) (by omega) Z (fun _ _=>(.dn<|.dn<|.dn<|.dn<|.dn<|.dn<|.yv (.move Z)<|.nl)) fun xs57 p57 c57 hz57=>.fn (tl:=[_,_,_,_]) Z<|.yw (.nilCheck Z)<|.yw (.fieldAddr Z Fx.field99_3)<|.yw (.fieldAddr Z Fx.field49_3)<|.st .head Z Z Fx.size47 Z (nb Z) Z<|.nl<|?_
   refine Sx.retN (.inr rfl) rfl .nil rfl fun W s=>⟨(⟨nm,lv,l3::l⟩,.slice p57 (k+1) c57,xs57,H10),⟨(by unfold gCp;exact aC (n:=n) hnm.1 (aC (n:=n) (x:=()) aG (aC (n:=n) hvV (aC (n:=n) (by rw [eV];exact hv3) (aC (n:=n) (by rw [eV];exact hvM) (aC (n:=n) (x:=()) aG (aX))))))),u1.trans (u3.trans (u4.trans (u5.trans (u8.trans (u9.trans u10))))),hz57⟩,rfl,?_⟩;rw [show up n gCp q=up n (gNd [125]) q5 by unfold gCp;rw [aA Cz.nm hnm.1,aA (x:=()) (Cz.nd _) aG,aA (Cz.many Cz.vr) hvV,eV,aA Cz.vs hv3,aA Cz.vm hvM,eM,aA (x:=()) (Cz.nd _) aG,aZ]];exact s.p3_2 [2,0] rfl
  have h30:ac [118,101,114,115,105,111,110] q5=true:=by simpa using h31
  rw [fJ h30];refine .sk<|.tN<|.sr<|.mv Z<|.mv Z<|.cs (X:=Unit) Fx.call73 Z (fun W s=>KL K5 (Suf.tl hq5) (vmW i) (TG i) (s.p5_5 [0,1,2,3,4] Z)) Z fun _ _=>.ns<|.mv Z<|.cs (X:=Unit) Fx.call73 Z (fun W s=>aP K5 ((Suf.nn _).up (Suf.tl hq5)) [123] (by decide +kernel) (s.p5_5 [0,1,2,3,4] Z)) Z fun _ _=>.nt<|.sq<|.fL 6 [(0,0),(1,0),(2,0),(3,3),(4,1),(5,3)]<|.yw (.fieldAddr Z Fx.field110_2)<|.yw (.load Z Fx.agg108 cC Z)<|.mv Z<|.c3 (X:=List Hd × Value × Hp) Fx.call122 Z (fun W s=>uN K5 ((Suf.nd _).up ((Suf.nn _).up (Suf.tl hq5))) (EK hts ((Suf.nd _).up ((Suf.nn _).up (Suf.tl hq5)))) (s.p5_5 [0,1,2,3,4] Z)) Z (fun _ _=>(.dn<|.yv (.load Z Fx.agg108 cC Z)<|.yv (.fieldAddr Z Fx.field110_2)<|.nl)) fun z6 hz6=>?_
  obtain ⟨l6,v6,H6⟩:=z6;obtain ⟨hv6,u6,r6⟩:=hz6;dsimp only at hv6 u6 r6 ⊢;have K6:=K5.up u6.up;refine .blF Z (Fx.bsl108_1 _) Z fun b41 H7 u7 m7=>.apD Fx.row108 Z (fun _ _=>bQ) Z (Rep.mk (n:=1) (c:=1) (ds:=[dVs .u8 l6]) m7 (.single (r6.up u7.up) Z) Z (Nat.le_refl _) (by decide)) (by simp only [maxLen];omega) (by omega) Z (fun _ _=>(.dn<|.dn<|.dn<|.nl)) fun xs42 p42 c42 hz42=>.fn (tl:=[_,_]) Z<|.yw (.fieldAddr Z Fx.field110_2)<|.st cJ Z Z Fx.size108 Z (nb Z) Z<|.nt<|.rg<|.mv Z<|.cs (X:=Unit) Fx.call73 Z (fun W s=>aP (K6.up u7.up) (Suf.vs.up ((Suf.nd _).up ((Suf.nn _).up (Suf.tl hq5)))) [125] (by decide +kernel) (s.p5_5 [0,1,2,3,4] Z)) Z fun _ _=>?_
  have hvn:vl (gVn (vmW i)) q5.tl l6:=by unfold gVn;exact aC (n:=n) (x:=()) aG (aC (n:=n) (x:=()) aG (aC (n:=n) hv6 (aC (n:=n) (x:=()) aG (aX))))
  rw [show up n (gNd [125]) (up n gVs (up n (gNd [123]) (up n (gNn (vmW i)) q5.tl)))=up n (gVn (vmW i)) q5.tl by unfold gVn;rw [aA (x:=()) (Cz.nn _) aG,aA (x:=()) (Cz.nd _) aG,aA Cz.vs hv6,aA (x:=()) (Cz.nd _) aG,aZ]];exact .nl<|.bN<|.tN<|.rg<|.yw (.add Z Z (w6 (by omega)))<|.mv Z<|.nt<|.ag (x:=(i,l,k5,p5,c5,x5,H5,q5)) (i+1,l++[l6],k5+1,p42,c42,x5++xs42,H7,up n (gVn (vmW i)) q5.tl) ⟨rfl,trivial⟩ ⟨rfl,rfl,rfl,rfl,trivial⟩ (fun _ s=>(s.p5_5 [1,0,2,3,4] Z)) ⟨by show i+1≤2;omega,hJ.step (by omega) h30 hvn,(by dsimp only;simp only [List.length_cons,List.length_append,List.length_nil];omega),(by dsimp only;rw [List.length_append,List.length_singleton];omega),u5.trans (u6.trans u7),(by dsimp only;rw [← List.cons_append,List.map_append];exact (hz5.up (u6.trans u7).up).app hz42),(Suf.vn _).up (Suf.tl hq5)⟩ (by show 2 - (i+1)<2 - i;omega)
 try simp only [df] at h26
 obtain rfl:i=2:=by omega
 obtain ⟨eM,hvM⟩:=hJ.end;refine .ex<|.tE<|.tE<|.bE<|.tN<|.sr<|.mv Z<|.cs (X:=Unit) Fx.call73 Z (fun W s=>aP K5 hq5 [125] (by decide +kernel) (s.p5_5 [1,0,2,3,4] Z)) Z fun _ _=>?_
 refine Sx.reSt (fun W s=>s.p5_5 [3,1,0,2,4] rfl) ?_;refine Sx.freezeSeq (ds:=lv.map (dVr .u8)) (by rw [List.length_map]) (hzv.up (u3.trans (u4.trans u5)).up) fun H8 p8 c8 u8 e8 h8=>?_;refine Sx.freezeSeq (ds:=(l3::l).map (dVs .u8)) (by rw [List.length_map,List.length_cons];exact hk5.symm) (hz5.up u8.up) fun H9 p9 c9 u9 e9 h9=>?_;refine .nt<|.fL 9 [(0,0),(1,0),(2,0),(3,0),(4,0),(5,0),(6,0),(7,1),(8,3)]<|.mv Z<|.mv Z<|.yw (.nilCheck Z)<|.yw (.fieldAddr Z Fx.field99_3)<|.yw (.fieldAddr Z Fx.field49_3)<|.yw (.load Z Fx.agg47 (.head _) Z)<|.yw (.loadW Z Fx.agg110 aW Z)<|.blF Z (Fx.bsl47_1 _ _ _) Z fun b56 H10 u10 m10=>.apD Fx.row47 Z (fun _ _=>cJ) Z (Rep.mk (n:=1) (c:=1) (ds:=[dCp .u8 ⟨nm,lv,l3::l⟩]) m10 (.single (uA (x:=⟨nm,lv,l3::l⟩) hnm.2 (h8.up (u9.trans u10).up) (h9.up u10.up)) Z) Z (Nat.le_refl _) (by decide)) (by simp only [maxLen];omega) (by omega) Z (fun _ _=>(.dn<|.dn<|.dn<|.dn<|.dn<|.dn<|.yv (.move Z)<|.nl)) fun xs57 p57 c57 hz57=>.fn (tl:=[_,_,_,_]) Z<|.yw (.nilCheck Z)<|.yw (.fieldAddr Z Fx.field99_3)<|.yw (.fieldAddr Z Fx.field49_3)<|.st .head Z Z Fx.size47 Z (nb Z) Z<|.nl<|?_
 refine Sx.retN (.inr rfl) rfl .nil rfl fun W s=>⟨(⟨nm,lv,l3::l⟩,.slice p57 (k+1) c57,xs57,H10),⟨(by unfold gCp;exact aC (n:=n) hnm.1 (aC (n:=n) (x:=()) aG (aC (n:=n) hvV (aC (n:=n) (by rw [eV];exact hv3) (aC (n:=n) (by rw [eV];exact hvM) (aC (n:=n) (x:=()) aG (aX))))))),u1.trans (u3.trans (u4.trans (u5.trans (u8.trans (u9.trans u10))))),hz57⟩,rfl,?_⟩;rw [show up n gCp q=up n (gNd [125]) q5 by unfold gCp;rw [aA Cz.nm hnm.1,aA (x:=()) (Cz.nd _) aG,aA (Cz.many Cz.vr) hvV,eV,aA Cz.vs hv3,aA Cz.vm hvM,eM,aA (x:=()) (Cz.nd _) aG,aZ]];exact s.p3_2 [2,0] rfl
end Go.Proofs.YthhoebdlfjffkaaGreatDoor
namespace Go.Sx
open Go.RowKit Go.Par
section
variable {dfs:List Deferred} {P:Program} {L:Sl} {H:Hp} {w0:World} {bs:List Res} {ty:TypeId} {pos:String} {aft:Array Edge} {t:Tmp}
variable {n m:Nat} {Q:Exit→Act→World→Prop} {ops:Array Oper} {rest:List Oper} {F:Fence} {x y:Operand} {T:TypeId}
theorem At.apDI [FW F] {e:TypeId} {size bytes q c k:Nat} {p:Option Addr} {r:Value} {xs:List Value} {ds:List D} {bs':List Value→Value→List Res} (hT:gZ P T=some (e,size,bytes)) (hx:ev L x=some r)
 (hm:∀ news r',Upd bs (.row e size r k xs) (.row e size r' (k+q) (xs++news)) (bs' news r')) (hy:ev L y=some (.slice p q c)) (hr:Rep H (.seq size ds) [.slice p q c])
 (h63:k+q≤maxLen) (hb:(k+q) * bytes≤140737488355328) (ht:Nat.blt t n=true)
 (h:∀ news r',aL H size ds news→At dfs n ((t,r')::L) H w0 (bs' news r') (wpListIn F m P ops Q rest)):At dfs n L H w0 bs (wpListIn F m P ops Q (⟨some t,.call ⟨.builtin .append,#[x,y],#[T,T]⟩,ty,pos,aft,none⟩::rest)):=yG (by intro c e;cases e) (uD hT hx hm hy hr h63 hb ht h)
end
end Go.Sx
namespace Go.Proofs.YthhoebdlfjffkaaGreatDoor
open Go.RowKit Go.Par Go.Sx
open Go.RowKit Go.Par Go.Sx
end Go.Proofs.YthhoebdlfjffkaaGreatDoor
namespace Go.Proofs.YthhoebdlfjffkaaGreatDoor
open Go.RowKit Go.Par Go.Sx
theorem Fx.call38:aM Tryz.prog 38=Bool.true:=by kernel_rfl
theorem Fx.call71:aM Tryz.prog 71=Bool.true:=by kernel_rfl
theorem Fx.call75:aM Tryz.prog 75=Bool.true:=by kernel_rfl
theorem Fx.call76:aM Tryz.prog 76=Bool.true:=by kernel_rfl
theorem Fx.call77:aM Tryz.prog 77=Bool.true:=by kernel_rfl
theorem Fx.bld49  : bV Tryz.prog 49 []=some [.string ⟨#[]⟩,.slice none 0 0,.slice none 0 0,.slice none 0 0]:=by kernel_rfl
end Go.Proofs.YthhoebdlfjffkaaGreatDoor
namespace Go.Proofs.YthhoebdlfjffkaaGreatDoor
open Go.RowKit Go.Par Go.Sx
end Go.Proofs.YthhoebdlfjffkaaGreatDoor
namespace Go.Proofs.YthhoebdlfjffkaaGreatDoor
open Go.RowKit Go.Par Go.Sx
theorem rA {H:Hp} {k:IntKind} {x:Ft} {cs:List Value} (h:Rep H (dFt k x) cs):∃ a b c,cs=[aB x.nm,a,b,c]:=by
 obtain ⟨p1,c1,p2,c2,p3,c3,rfl,_⟩:=lK h;exact ⟨_,_,_,rfl⟩
theorem OD {H:Hp} {w0 W:World} {bs:List Res} {b n:Nat} {ts:List Tk} {tp:Option Addr} {tc:Nat} {q:Sg} (K:Tkm H ts tp tc) (hq:q.r<:+ts) (hmu:q.mu≤1000000) (hcp:(up n (dC [108,105,110,107] gLk) (up n (dC [102,108,97,103] gFg) (up n (gNd [123]) (up n gNm (up n (gNd [102,108,101,101,116]) q))))).e=0→∀ {t0 t1 t2:Value},yR 77 gCp (dCp .u8) 110 3 (fun _=>t0) (fun _=>t1) (fun _=>t2) (fun v=>v) b n ts tp tc) (s:St H w0 (.box b [.slice tp ts.length tc,.int .i64 (bT ts q:Nat),.int .i64 (n:Nat),.string ⟨#[]⟩,.slice none 0 0,.slice none 0 0,.slice none 0 0,.int .i64 (q.o:Nat),.int .i64 (q.e:Nat)] 99::bs) W) :
 Calls Tryz.prog 38 #[.pointer (some ⟨b,0,none⟩)] W fun e W'=>∃ z:Ft × (Value × Value × Value × Value) × Hp,(vl gFt q z.1∧HUp w0 H z.2.2∧Rep z.2.2 (dFt .u8 z.1) [z.2.1.1,z.2.1.2.1,z.2.1.2.2.1,z.2.1.2.2.2])∧e=.returned (.tuple #[])∧St z.2.2 w0 (.box b [.slice tp ts.length tc,.int .i64 (bT ts (up n gFt q):Nat),.int .i64 (n:Nat),z.2.1.1,z.2.1.2.1,z.2.1.2.2.1,z.2.1.2.2.2,.int .i64 ((up n gFt q).o:Nat),.int .i64 ((up n gFt q).e:Nat)] 99::bs) W':=by
 refine Sx.enterS Tryz.func38 rfl Tryz.ntmps38 rfl s ?_;refine .sr<|.bx Z Z Z fun b1=>?_
 refine Sx.freezeBox fun H1 u1 m1=>?_;have K1:=K.up u1.up;refine .ns<|.yw (.mkF Z Z)<|.a Z Z<|.ns<|.yw (.loadM Z Fx.agg65 m1 (k:=0) Z Z)<|.cs (X:=Unit) Fx.call73 Z (fun W s=>aP K1 hq [102,108,101,101,116] (by decide +kernel) (s.p1_1 [0] Z)) Z fun _ _=>.nt<|.sq<|.fL 6 [(0,0),(1,0),(2,3),(3,0),(4,0),(5,0)]<|.yw (.loadM Z Fx.agg65 m1 (k:=0) Z Z)<|.yw (.loadM Z Fx.agg65 m1 (k:=0) Z Z)<|.c3 (X:=Str) Fx.call74 Z (fun W s=>fO K1 ((Suf.nd _).up hq)  (s.p1_1 [0] Z)) Z (fun _ _=>(.dn<|.yv (.loadM Z Fx.agg65 m1 (k:=0) Z Z)<|.nl)) fun nm hnm=>.yw (.nilCheck Z)<|.yw (.fieldAddr Z Fx.field99_3)<|.yw (.fieldAddr Z Fx.field49_0)<|.fn (tl:=[_]) Z<|.st .head Z Z Fx.size9 Z (nb Z) Z<|.ns<|.yw (.loadM Z Fx.agg65 m1 (k:=0) Z Z)<|.cs (X:=Unit) Fx.call73 Z (fun W s=>aP K1 (Suf.nm.up ((Suf.nd _).up hq)) [123] (by decide +kernel) (s.p1_1 [0] Z)) Z fun _ _=>?_
 have hq3:(up n (gNd [123]) (up n gNm (up n (gNd [102,108,101,101,116]) q))).r<:+ts:=(Suf.nd _).up (Suf.nm.up ((Suf.nd _).up hq));have hm3:(up n (gNd [123]) (up n gNm (up n (gNd [102,108,101,101,116]) q))).mu≤1000000:=Nat.le_trans (eN (Shs.nd _).le (Cz.nd _)) (Nat.le_trans (eN Shs.nm.le Cz.nm) (Nat.le_trans (eN (Shs.nd _).le (Cz.nd _)) hmu));refine Sx.row0 110 3 ?_;refine Sx.row0 105 3 ?_;refine Sx.row0 102 2 ?_;refine .ns<|.mv Z<|.yw (.loadM Z Fx.agg65 m1 (k:=0) Z Z)<|.yw (.mkF Z Z)<|.sv (X:=List Fg × Value × List Value × Hp) (fi:=[]) (ca:=[.pointer (some ⟨b1,0,none⟩)]) Z Fx.call71 Z (fun W s=>zT K1 hq3 hm3 75 Fx.call75 [102,108,97,103] (by decide +kernel) gFg dFg 102 2 Shs.fg.le Cz.fg Suf.fg (fun _=>RS) b1 m1 _ (s.p4_4 [0,3,1,2] Z)) Z fun z2 hz2=>?_
 obtain ⟨fs,v1,xs1,H2⟩:=z2;obtain ⟨hv1,u2,hz1,_⟩:=hz2;dsimp only at hv1 u2 hz1 ⊢;have K2:=K1.up u2.up;have hq4:(up n (dC [102,108,97,103] gFg) (up n (gNd [123]) (up n gNm (up n (gNd [102,108,101,101,116]) q)))).r<:+ts:=(Suf.many Suf.fg).up hq3;have hm4:(up n (dC [102,108,97,103] gFg) (up n (gNd [123]) (up n gNm (up n (gNd [102,108,101,101,116]) q)))).mu≤1000000:=Nat.le_trans (eN (Shr.many Shs.fg.le) (Cz.many Cz.fg)) hm3;refine .ns<|.mv Z<|.yw (.loadM Z Fx.agg65 (m1.up u2.up) (k:=0) Z Z)<|.yw (.mkF Z Z)<|.sv (X:=List Lk × Value × List Value × Hp) (fi:=[]) (ca:=[.pointer (some ⟨b1,0,none⟩)]) Z Fx.call71 Z (fun W s=>zT K2 hq4 hm4 76 Fx.call76 [108,105,110,107] (by decide +kernel) gLk dLk 105 3 Shs.lk.le Cz.lk Suf.lk (fun _=>RE) b1 (m1.up u2.up) _ (s.p4_4 [2,1,0,3] Z)) Z fun z2 hz2=>?_
 obtain ⟨ls,v2,xs2,H3⟩:=z2;obtain ⟨hv2,u3,hz2,_⟩:=hz2;dsimp only at hv2 u3 hz2 ⊢;have K3:=K2.up u3.up;have hq5:(up n (dC [108,105,110,107] gLk) (up n (dC [102,108,97,103] gFg) (up n (gNd [123]) (up n gNm (up n (gNd [102,108,101,101,116]) q))))).r<:+ts:=(Suf.many Suf.lk).up hq4;have hm5:(up n (dC [108,105,110,107] gLk) (up n (dC [102,108,97,103] gFg) (up n (gNd [123]) (up n gNm (up n (gNd [102,108,101,101,116]) q))))).mu≤1000000:=Nat.le_trans (eN (Shr.many Shs.lk.le) (Cz.many Cz.lk)) hm4;refine .ns<|.mv Z<|.yw (.loadM Z Fx.agg65 (m1.up (u2.trans u3).up) (k:=0) Z Z)<|.yw (.mkF Z Z)<|.sv (X:=List Cp × Value × List Value × Hp) (fi:=[]) (ca:=[.pointer (some ⟨b1,0,none⟩)]) Z Fx.call71 Z (fun W s=>zT K3 hq5 hm5 77 Fx.call77 [99,111,109,112,111,110,101,110,116] (by decide +kernel) gCp (dCp .u8) 110 3 Shs.cp.le Cz.cp Suf.cp (fun h=>hcp h) b1 (m1.up (u2.trans u3).up) _ (s.p4_4 [3,1,0,2] Z)) Z fun z2 hz2=>?_
 obtain ⟨cs,v3,xs3,H4⟩:=z2;obtain ⟨hv3,u4,hz3,_⟩:=hz2;dsimp only at hv3 u4 hz3 ⊢;have K4:=K3.up u4.up;have hq6:(up n (dC [99,111,109,112,111,110,101,110,116] gCp) (up n (dC [108,105,110,107] gLk) (up n (dC [102,108,97,103] gFg) (up n (gNd [123]) (up n gNm (up n (gNd [102,108,101,101,116]) q)))))).r<:+ts:=(Suf.many Suf.cp).up hq5;refine .nt<|.rg<|.yw (.loadM Z Fx.agg65 (m1.up (u2.trans (u3.trans u4)).up) (k:=0) Z Z)<|.cs (X:=Unit) Fx.call73 Z (fun W s=>aP K4 hq6 [125] (by decide +kernel) (s.p4_4 [1,0,2,3] Z)) Z fun _ _=>.nl<|?_
 refine Sx.reSt (fun W s=>s.p4_4 [3,2,1,0] rfl) ?_;refine Sx.freezeSeq (ds:=fs.map dFg) (by simp) (hz1.up (u3.trans u4).up) fun H5 p5 c5 u5 e5 h5=>?_;refine Sx.freezeSeq (ds:=ls.map dLk) (by simp) (hz2.up (u4.trans u5).up) fun H6 p6 c6 u6 e6 h6=>?_;refine Sx.freezeSeq (ds:=cs.map (dCp .u8)) (by simp) (hz3.up (u5.trans u6).up) fun H7 p7 c7 u7 e7 h7=>?_;refine Sx.retN (.inr rfl) rfl .nil rfl fun W s=>⟨(⟨nm,fs,ls,cs⟩,(aB nm,v1,v2,v3),H7),⟨aC (n:=n) (x:=()) aG (aC (n:=n) hnm.1 (aC (n:=n) (x:=()) aG (aC (n:=n) hv1 (aC (n:=n) hv2 (aC (n:=n) hv3 (aC (n:=n) (x:=()) aG aX)))))),u1.trans (u2.trans (u3.trans (u4.trans (u5.trans (u6.trans u7))))),tX (x:=⟨nm,fs,ls,cs⟩) hnm.2 (h5.up (u6.trans u7).up) (h6.up u7.up) h7⟩,rfl,?_⟩;rw [show up n gFt q=(up n (gNd [125]) (up n (dC [99,111,109,112,111,110,101,110,116] gCp) (up n (dC [108,105,110,107] gLk) (up n (dC [102,108,97,103] gFg) (up n (gNd [123]) (up n gNm (up n (gNd [102,108,101,101,116]) q))))))) by unfold gFt;rw [aA (x:=()) (Cz.nd _) aG,aA Cz.nm hnm.1,aA (x:=()) (Cz.nd _) aG,aA (Cz.many Cz.fg) hv1,aA (Cz.many Cz.lk) hv2,aA (Cz.many Cz.cp) hv3,aA (x:=()) (Cz.nd _) aG,aZ]];exact s
theorem TW (t:Str):(sg0 t).mu≤1000000:=by
 unfold sg0
 split
 ·rw [Sg.mu_er (by decide)];omega
 ·have:=nU t;unfold Sg.mu;simp only [if_true];omega
def pzE (t:Str) (x:Ft):Nat:=if (sgZ gFt t).e=0 then bU x else (sgZ gFt t).e
def pzO (t:Str) (x:Ft):Nat:=if (sgZ gFt t).e=0∧bU x=0 then 0 else (sgZ gFt t).o
def pzR (t:Str) (x:Ft) (cs:List Value):List Value:=if (sgZ gFt t).e=0∧bU x=0 then cs else [.string ⟨#[]⟩,.slice none 0 0,.slice none 0 0,.slice none 0 0]
theorem CE {H:Hp} (G:Gl H) {w0 W:World} {bs:List Res} (t:Str) (ht:t.length≤9223372036854775807) (hok:∀ f,vl gFt (sg0 t) f→(sgZ gFt t).e=0→evH okH f=true)
 (hcp:(up t.length (dC [108,105,110,107] gLk) (up t.length (dC [102,108,97,103] gFg) (up t.length (gNd [123]) (up t.length gNm (up t.length (gNd [102,108,101,101,116]) (sg0 t)))))).e=0→∀ {b:Nat} {tp:Option Addr} {tc:Nat} {t0 t1 t2:Value},yR 77 gCp (dCp .u8) 110 3 (fun _=>t0) (fun _=>t1) (fun _=>t2) (fun v=>v) b t.length (sg0 t).r tp tc) (s:St H w0 bs W) :
 Calls Tryz.prog 19 #[aB t] W fun e W'=>∃ z:Ft × List Value × Hp,(vl gFt (sg0 t) z.1∧HUp w0 H z.2.2∧Rep z.2.2 (dFt .u8 z.1) z.2.1)∧e=.returned (.tuple #[.agg (pzR t z.1 z.2.1).toArray,.int .i64 (pzO t z.1:Nat),.int .i64 (pzE t z.1:Nat)])∧St z.2.2 w0 bs W':=by
 refine Sx.enterS Tryz.func19 rfl Tryz.ntmps19 rfl s ?_;refine .sr<|.al Fx.zero49 Z fun b2=>.a Z Z<|.a Z Z<|.ns<|.mv Z<|.cs (X:=Nat × Hp × Option Addr × Nat) Fx.call22 Z (fun W s=>GJ G t ht s) Z fun z0 hz0=>?_
 obtain ⟨b,H0,tp,tc⟩:=z0;obtain ⟨K0,u0⟩:=hz0;dsimp only at K0 u0 ⊢;refine .a Z Z<|.ns<|.mv Z<|.cs (X:=Ft × (Value × Value × Value × Value) × Hp) Fx.call38 Z (fun W s=>OD K0 (List.suffix_refl _) (TW t) (fun h=>hcp h) (s.p2_2 [0,1] Z)) Z fun z1 hz1=>?_
 obtain ⟨a1,⟨x1,x2,x3,x4⟩,H1⟩:=z1;obtain ⟨hv1,u1,r1⟩:=hz1;dsimp only at hv1 u1 r1 ⊢;have K1:=K0.up u1.up;have u2:=u0.trans u1;refine .ns<|.mv Z<|.cs (X:=Unit) Fx.call24 Z (fun W s=>DQ K1 (Suf.ft.up (List.suffix_refl _))  (s.p2_2 [0,1] Z)) Z fun _ _=>.mv Z<|.yw (.extract Z Z)<|.yw (.extract Z Z)<|.a Z Z<|.a Z Z<|.nt<|.sq<|.sr<|.mv Z<|.yw (.eql Z Z)<|.nt<|.cd Z (fun h18=>?_) (fun h18=>?_)
 ·try simp only [dt] at h18
  have hZ:(sgZ gFt t).e=0:=by unfold sgZ;omega
  refine .rg<|.mv Z<|.yw (.nilCheck Z)<|.yw (.fieldAddr Z Fx.field99_3)<|.yw (.loadS (vs:=[_,_,_,_]) Z Fx.agg49 (.head _) Z (VW Z))<|.yw (.call Fx.call35 Z (fun W s=>yI H1 (G.up u2.up) a1 _ r1 (hok a1 hv1 hZ) W s.agr))<|.a Z Z<|.nt<|.sq<|.sr<|.mv Z<|.yw (.neq Z Z)<|.nt<|.cd Z (fun h25=>?_) (fun h25=>?_)
  ·try simp only [dt] at h25
   have hck:¬ bU a1=0:=by omega
   refine .sr<|.yw (.build Z Fx.bld49)<|.mv Z<|.mv Z<|.sW bQ Z Z Fx.size49 (by simp [Value.oneCell']) Z<|.a Z Z<|.a Z Z<|.nt<|.rt<|.tR<|?_
   refine Sx.retN (.inl rfl) rfl (.cons (.cell rfl Fx.agg49 aW rfl) (.cons (.tmp rfl) (.cons (.tmp rfl) .nil))) rfl fun W s=>⟨(a1,[x1,x2,x3,x4],H1),⟨hv1,u2,r1⟩,?_,s.p2_0 [] rfl⟩;unfold pzR pzO pzE;simp only [hZ,hck,if_true,if_false]
   rfl
  try simp only [df] at h25
  have hck:bU a1=0:=by omega
  refine .sk<|.tN<|.sr<|.mv Z<|.yw (.nilCheck Z)<|.yw (.fieldAddr Z Fx.field99_3)<|.yw (.loadS (vs:=[_,_,_,_]) Z Fx.agg49 (.head _) Z (VW Z))<|.sW bQ Z Z Fx.size49 (Rep.one r1) Z<|.a Z Z<|.a Z Z<|.nt<|.rt<|?_
  refine Sx.retN (.inl rfl) rfl (.cons (.cell rfl Fx.agg49 aW rfl) (.cons (.tmp rfl) (.cons (.tmp rfl) .nil))) rfl fun W s=>⟨(a1,[x1,x2,x3,x4],H1),⟨hv1,u2,r1⟩,?_,s.p2_0 [] rfl⟩;unfold pzR pzO pzE;simp only [hZ,hck,if_true]
  rfl
 try simp only [df] at h18
 have hZ:¬ (sgZ gFt t).e=0:=by unfold sgZ;omega
 refine .sk<|.tN<|.sq<|.sr<|.mv Z<|.yw (.neq Z Z)<|.nt<|.cd Z (fun h25=>?_) (fun h25=>?_)
 ·skip
  refine .sr<|.yw (.build Z Fx.bld49)<|.mv Z<|.mv Z<|.sW bQ Z Z Fx.size49 (by simp [Value.oneCell']) Z<|.a Z Z<|.a Z Z<|.nt<|.rt<|.tR<|?_
  refine Sx.retN (.inl rfl) rfl (.cons (.cell rfl Fx.agg49 aW rfl) (.cons (.tmp rfl) (.cons (.tmp rfl) .nil))) rfl fun W s=>⟨(a1,[x1,x2,x3,x4],H1),⟨hv1,u2,r1⟩,?_,s.p2_0 [] rfl⟩;unfold pzR pzO pzE;simp only [hZ,if_false]
  rfl
 exact absurd (show (sgZ gFt t).e=0 by unfold sgZ;have:=Classical.not_not.1 (of_decide_eq_false h25);omega) hZ
end Go.Proofs.YthhoebdlfjffkaaGreatDoor
namespace Go.Proofs.YthhoebdlfjffkaaGreatDoor
section
variable {α β:Type}
def Ge (N k:Nat) (p:Pz α) (m:α→Nat) (ok:α→Prop):Prop:=∀ r a r',r.length≤N→p r=.ok a r'→m a+r'.length≤r.length+k∧ok a
variable {N k:Nat} {p q:Pz α} {m:α→Nat} {ok:α→Prop}
theorem Ge.bind {g:Pz β} {f:β→Pz α} {m1:β→Nat} {ok1:β→Prop} (h:Ge N 0 g m1 ok1) (h2:∀ a,ok1 a→Ge N (k+m1 a) (f a) m ok):Ge N k (aF g f) m ok:=fun r b r' hr e=>by
 obtain ⟨a,q,e1,e2⟩:=Rs.bind_ok e;obtain ⟨h3,h4⟩:=h r a q hr e1;obtain ⟨h5,h6⟩:=h2 a h4 q b r' (by omega) e2;exact ⟨by omega,h6⟩
theorem Ge.pure {a:α} (h1:m a≤k) (h2:ok a):Ge N k (aO a) m ok:=fun r b r' _ e=>by
 injection e with e1 e2
 subst e1 e2;exact ⟨by omega,h2⟩
theorem Ge.alt {w:Str} (h:Ge N (k+1) p m ok) (h2:Ge N k q m ok):Ge N k (cM w p q) m ok:=fun r b r' hr e=>by
 unfold cM at e
 split at e
 ·rename_i ht;have h3:=eD ht;obtain ⟨h5,h6⟩:=h r.tail b r' (by omega) e;exact ⟨by omega,h6⟩
 ·exact h2 r b r' hr e
theorem Ge.nd (w:Str):Ge N 0 (gNd w) (fun _=>1) (fun _=>True):=fun r b r' hr e=>by
 unfold gNd at e
 split at e
 ·rename_i ht;have h3:=eD ht;injection e with _ e
  subst e;exact ⟨by dsimp only;omega,trivial⟩
 ·cases e
theorem Ge.nn (w:Str):Ge N 0 (gNn w) (fun _=>0) (fun _=>True):=fun r b r' hr e=>by
 have:=(Suf.nn w r).1 b r' e;exact ⟨by have:=this.length_le;dsimp only;omega,trivial⟩
theorem Ge.nm:Ge N 0 gNm (fun _=>1) (fun _=>True):=fun r b r' hr e=>by
 unfold gNm at e
 split at e
 ·cases e
 ·split at e
  ·injection e with _ e
   subst e;exact ⟨by simp;omega,trivial⟩
  ·cases e
theorem Ge.any (h:Suf p):Ge N 0 p (fun _=>0) (fun _=>True):=fun r b r' hr e=>⟨by have:=((h r).1 b r' e).length_le;dsimp only;omega,trivial⟩
theorem Ge.manyF {w:Str} (h:Ge N 0 p (fun _=>0) ok):∀ f,Ge N 0 (jD w p f) (fun _=>0) (fun l=>∀ x∈l,ok x)
 | 0=>fun r b r' hr e=>by unfold jD at e;cases e
 | f+1=>.alt (.bind (fun r b r' hr e=>h r b r' hr e) fun a ha=>.bind (Ge.manyF h f) fun l hl=>.pure (Nat.zero_le _) fun x hx=>by
  rcases List.mem_cons.1 hx with rfl | hx
  ·exact ha
  ·exact hl x hx) (.pure (Nat.zero_le _) fun x hx=>by cases hx)
theorem Ge.many {w:Str} (h:Ge N 0 p (fun _=>0) ok):Ge N 0 (dC w p) (fun _=>0) (fun l=>∀ x∈l,ok x):=fun r b r' hr e=>Ge.manyF h _ r b r' hr e
theorem Ge.list (h:Ge N 0 p (fun _=>0) ok):Ge N 0 (dY p) (fun _=>0) (fun l=>∀ x∈l,ok x) :=
 .bind (Ge.nd _) fun _ _=>.alt (.pure (Nat.zero_le _) fun x hx=>by cases hx) (.bind h fun a ha=>.bind (Ge.many h) fun l hl=>.bind (Ge.nd _) fun _ _=>.pure (Nat.zero_le _) fun x hx=>by
  rcases List.mem_cons.1 hx with rfl | hx
  ·exact ha
  ·exact hl x hx)
end
def dpE (N:Nat) (x:Ex):Prop:=x.depth≤N
theorem Ge.ex {N:Nat}:Ge N 0 gEx (fun _=>0) (dpE N):=fun r a r' hr e=>by
 have:=DE (lv:=0) e;exact ⟨by dsimp only;omega,by unfold dpE;omega⟩
def gdL (l:List Sm):Prop:=Sm.alls vO l=true
def gdS (s:Sm):Prop:=Sm.all vO s=true
theorem lP {N:Nat} (hN:N≤1000000) {kd:UInt8} {nm hd:Str} {ex:List Ex} {th el:List Sm} (h:∀ x∈ex,dpE N x) (h1:gdL th) (h2:gdL el):gdS (.mk kd nm hd ex th el):=by
 unfold gdS;rw [eU]
 have:vO (.mk kd nm hd ex th el)=true:=by
  unfold vO;rw [List.all_eq_true];intro x hx;have:=h x hx;unfold dpE at this;exact decide_eq_true (by omega)
 rw [this,h1,h2]
 rfl
section
variable {N:Nat} {b:Pz (List Sm)}
theorem Ge.blk {b:Pz (List Sm)} (h:Ge N 0 b Sm.counts gdL):Ge N 0 (iF b) Sm.counts gdL :=
 .bind (Ge.nd _) fun _ _=>.bind h fun l hl=>.bind (Ge.nd _) fun _ _=>.pure (by omega) hl
theorem fD:gdL []:=by unfold gdL;rfl
theorem Ge.els (h:Ge N 0 b Sm.counts gdL):Ge N 0 (qY b) Sm.counts gdL:=.alt (fun r a r' hr e=>by have:=Ge.blk h r a r' hr e;exact ⟨by omega,this.2⟩) (.pure (Nat.zero_le _) fD)
theorem Ge.oth (h:Ge N 0 b Sm.counts gdL):Ge N 0 (jX b) Sm.counts gdL:=.alt (fun r a r' hr e=>by have:=Ge.blk h r a r' hr e;exact ⟨by omega,this.2⟩) (.bind (Ge.nd _) fun _ _=>.pure (Nat.zero_le _) fD)
theorem qP {N:Nat} {e:Ex} (h:dpE N e):∀ x∈[e],dpE N x:=fun x hx=>by rw [List.mem_singleton.1 hx];exact h
theorem FU {N:Nat} {e f:Ex} (h:dpE N e) (k:dpE N f):∀ x∈[e,f],dpE N x:=fun x hx=>by
 rcases List.mem_cons.1 hx with rfl | hx
 ·exact h
 ·rw [List.mem_singleton.1 hx];exact k
theorem UN {N:Nat}:∀ x∈([]:List Ex),dpE N x:=fun x hx=>by cases hx
theorem Ge.st (hN:N≤1000000) (h:Ge N 0 b Sm.counts gdL):Ge N 0 (gSt b) Sm.count gdS :=
 .alt (.bind Ge.ex fun e he=>.bind (Ge.blk h) fun t ht=>.bind (Ge.els h) fun l hl=>.pure (by rw [dP];omega) (lP hN (qP he) ht hl))<|.alt (.bind Ge.ex fun e he=>.bind (Ge.blk h) fun t ht=>.pure (by rw [dP];simp [Sm.counts];omega) (lP hN (qP he) ht fD))<|.alt (.bind Ge.ex fun e he=>.bind (Ge.nd _) fun _ _=>.bind Ge.ex fun f hf=>.bind (Ge.oth h) fun l hl=>.pure (by rw [dP];simp [Sm.counts];omega) (lP hN (FU he hf) fD hl))<|.alt (.bind Ge.nm fun n _=>.bind (Ge.nd _) fun _ _=>.bind Ge.ex fun f hf=>.bind (Ge.oth h) fun l hl=>.pure (by rw [dP];simp [Sm.counts];omega) (lP hN (qP hf) fD hl))<|.alt (.bind Ge.nm fun n _=>.bind (Ge.nd _) fun _ _=>.bind Ge.nm fun g _=>.bind (Ge.list Ge.ex) fun l hl=>.bind (Ge.nd _) fun _ _=>.pure (by rw [dP];simp [Sm.counts]) (lP hN hl fD fD))<|.alt (.bind Ge.ex fun e he=>.bind (Ge.nd _) fun _ _=>.bind Ge.nm fun g _=>.bind (Ge.list Ge.ex) fun l hl=>.bind (Ge.nd _) fun _ _=>.pure (by rw [dP];simp [Sm.counts]) (lP hN (fun x hx=>by
  rcases List.mem_cons.1 hx with rfl | hx
  ·exact he
  ·exact hl x hx) fD fD))<|.alt (.bind (Ge.nd _) fun _ _=>.pure (by rw [dP];simp [Sm.counts]) (lP hN UN fD fD))<|.alt (.bind Ge.nm fun n _=>.bind (Ge.nd _) fun _ _=>.bind Ge.ex fun e he=>.bind (Ge.nd _) fun _ _=>.bind (Ge.nd _) fun _ _=>.pure (by rw [dP];simp [Sm.counts]) (lP hN (qP he) fD fD))<|.bind Ge.nm fun n _=>.alt (.bind Ge.ex fun e he=>.bind (Ge.nd _) fun _ _=>.bind (Ge.nd _) fun _ _=>.bind Ge.ex fun f hf=>.bind (Ge.nd _) fun _ _=>.pure (by rw [dP];simp [Sm.counts]) (lP hN (FU he hf) fD fD))
  (.bind (Ge.nd _) fun _ _=>.bind Ge.ex fun f hf=>.bind (Ge.nd _) fun _ _=>.pure (by rw [dP];simp [Sm.counts]) (lP hN (qP hf) fD fD))
theorem Ge.bF (hN:N≤1000000):∀ f,Ge N 0 (gBF f) Sm.counts gdL
 | 0=>fun r b r' hr e=>by unfold gBF at e;cases e
 | f+1=>fun r b r' hr e=>by
  unfold gBF at e
  split at e
  ·injection e with e1 e2;subst e1 e2;exact ⟨by simp [Sm.counts],fD⟩
  ·obtain ⟨s,q,k1,k2⟩:=Rs.bind_ok e;obtain ⟨l,q2,k3,k4⟩:=Rs.bind_ok k2;injection k4 with k4 k5
   subst k4 k5;obtain ⟨h1,h2⟩:=Ge.st hN (Ge.bF hN f) r s q hr k1;obtain ⟨h3,h4⟩:=Ge.bF hN f q l q2 (by omega) k3;refine ⟨by simp only [Sm.counts];omega,?_⟩;unfold gdL gdS at *;simp [Sm.alls,h2,h4]
theorem Ge.allB (hN:N≤1000000):Ge N 0 gB Sm.counts gdL:=fun r b r' hr e=>Ge.bF hN _ r b r' hr e
end
theorem ME:∀ l,Sm.deeps l≤Sm.counts l:=Sm.lists fun l h=>by
 induction l with
 | nil=>simp [Sm.deeps]
 | cons e r ih =>
  obtain ⟨kd,nm,hd,ex,th,el⟩:=e;obtain ⟨h1,h2⟩:=h _ (List.mem_cons_self ..);have h3:=ih fun s hs=>h s (List.mem_cons_of_mem _ hs);simp only [Sm.th,Sm.el] at h1 h2;simp only [Sm.deeps,Sm.counts,iT,dP];omega
def gdH (h:Hd):Prop:=okH h=true
section
variable {N:Nat}
theorem Ge.blkN (hN:N≤1000000):Ge N 0 (iF gB) (fun _=>0) (fun l=>gdL l∧Sm.counts l≤N):=fun r a r' hr e=>by
 obtain ⟨h1,h2⟩:=Ge.blk (Ge.allB hN) r a r' hr e;exact ⟨by dsimp only;omega,h2,by omega⟩
theorem Ge.hd (hN:N≤1000000):Ge N 0 gHd (fun _=>0) gdH :=
 .bind (Ge.any Suf.nm) fun n _=>.bind (Ge.any (Suf.list Suf.nm)) fun l _=>.bind (Ge.blkN hN) fun b hb=>.pure (Nat.zero_le _) (by
  have h1:=ME b;have h2:Sm.alls vO b=true:=hb.1;have h3:=hb.2;unfold gdH okH;simp only [h2,Bool.and_true,Bool.and_eq_true,decide_eq_true_eq];omega)
def gdV (v:List Hd):Prop:=∀ x∈v,gdH x
theorem Ge.vs (hN:N≤1000000):Ge N 0 gVs (fun _=>0) gdV:=Ge.many (Ge.hd hN)
theorem Ge.vn (hN:N≤1000000) (w:Str):Ge N 0 (gVn w) (fun _=>0) gdV :=
 .bind (Ge.nn _) fun _ _=>.bind (Ge.nd _) fun _ _=>.bind (Ge.vs hN) fun v hv=>.bind (Ge.nd _) fun _ _=>.pure (Nat.zero_le _) hv
theorem Ge.vm (hN:N≤1000000):Ge N 0 gVm (fun _=>0) (fun l=>∀ v∈l,gdV v) :=
 .alt (.bind (Ge.vn hN _) fun v hv=>.alt (.bind (Ge.vn hN _) fun w hw=>.pure (Nat.zero_le _) fun x hx=>by
  rcases List.mem_cons.1 hx with rfl | hx
  ·exact hv
  ·rw [List.mem_singleton.1 hx];exact hw) (.pure (Nat.zero_le _) fun x hx=>by rw [List.mem_singleton.1 hx];exact hv)) (.pure (Nat.zero_le _) fun x hx=>by cases hx)
theorem Ge.cp (hN:N≤1000000):Ge N 0 gCp (fun _=>0) (fun c=>∀ v∈c.vers,gdV v) :=
 .bind (Ge.any Suf.nm) fun n _=>.bind (Ge.nd _) fun _ _=>.bind (Ge.any (Suf.many Suf.vr)) fun vs _=>.bind (Ge.vs hN) fun v hv=>.bind (Ge.vm hN) fun l hl=>.bind (Ge.nd _) fun _ _=>.pure (Nat.zero_le _) fun x hx=>by
  rcases List.mem_cons.1 hx with rfl | hx
  ·exact hv
  ·exact hl x hx
theorem Ge.ft (hN:N≤1000000):Ge N 0 gFt (fun _=>0) (fun f=>evH okH f=true) :=
 .bind (Ge.nd _) fun _ _=>.bind (Ge.any Suf.nm) fun n _=>.bind (Ge.nd _) fun _ _=>.bind (Ge.any (Suf.many Suf.fg)) fun fs _=>.bind (Ge.any (Suf.many Suf.lk)) fun ls _=>.bind (Ge.many (Ge.cp hN)) fun cs hc=>.bind (Ge.nd _) fun _ _=>.pure (Nat.zero_le _) (by
  unfold evH;rw [List.all_eq_true];intro c h;rw [List.all_eq_true];intro v h2;rw [List.all_eq_true];exact fun x h3=>hc c h v h2 x h3)
end
theorem UY {t:Str} {f:Ft} (hx:vl gFt (sg0 t) f) (h:(sgZ gFt t).e=0):evH okH f=true:=by
 obtain ⟨⟨a,ha⟩,_⟩:=MC Cz.ft h
 have h0:(sg0 t).e=0:=by
  by_cases k:20000<t.length
  ·exfalso
   have e0:sg0 t=⟨[],3,0⟩:=by unfold sg0;rw [if_pos k]
   unfold sgZ at h;rw [e0,kA (by decide)] at h;unfold Sg.cl at h;rw [if_pos rfl] at h;exact absurd (show (3:Nat)=0 from h) (by decide)
  ·unfold sg0;rw [if_neg k]
 rw [hx h0 a [] ha];refine (Ge.ft (N:=20000) (by decide) _ a [] ?_ ha).2;unfold sg0
 split
 ·simp
 ·have:=nU t;show (fH t).length≤20000;omega
end Go.Proofs.YthhoebdlfjffkaaGreatDoor
namespace Go.Proofs.YthhoebdlfjffkaaGreatDoor
open Go.RowKit Go.Par Go.Sx
theorem QJ (t:Str):(sg0 t).r.length≤600000:=by
 unfold sg0
 split
 ·simp
 ·have:=nU t;show (fH t).length≤600000;omega
theorem rT {H:Hp} (G:Gl H) {w0 W:World} {bs:List Res} (t:Str) (ht:t.length≤9223372036854775807) (s:St H w0 bs W) :
 Calls Tryz.prog 19 #[aB t] W fun e W'=>∃ z:Ft × List Value × Hp,(vl gFt (sg0 t) z.1∧HUp w0 H z.2.2∧Rep z.2.2 (dFt .u8 z.1) z.2.1)∧e=.returned (.tuple #[.agg (pzR t z.1 z.2.1).toArray,.int .i64 (pzO t z.1:Nat),.int .i64 (pzE t z.1:Nat)])∧St z.2.2 w0 bs W' :=
 CE G t ht (fun _ h1 h2=>UY h1 h2) (fun _=>AN (QJ t)) s
end Go.Proofs.YthhoebdlfjffkaaGreatDoor
namespace Go.Proofs.YthhoebdlfjffkaaGreatDoor
section
variable {α β:Type}
def En (p:Pz α):Prop:=p []=.er [] 8∨∃ b,p []=.ok b []
def Pf (N:Nat) (p:Pz α):Prop:=∀ r a q,r.length≤N→p r=.ok a q→∃ u,r=u++q∧(∀ v w,u=v++w→p v=.er [] 8∨∃ b,p v=.ok b [])∧(∀ v,v≠[]→v.head? = q.head? → p (u++v)=.ok a v)
theorem Pf.le {N M:Nat} {p:Pz α} (h:Pf N p) (k:M≤N):Pf M p:=fun r a q hr e=>h r a q (Nat.le_trans hr k) e
theorem Pf.zero {p:Pz α} (h:Shr p):Pf 0 p:=fun r a q hr e=>by
 obtain rfl:r=[]:=List.eq_nil_of_length_eq_zero (by omega);have:=h _ _ _ e;obtain rfl:q=[]:=List.eq_nil_of_length_eq_zero (by simpa using this);refine ⟨[],rfl,fun v w h=>?_,fun v hv h=>?_⟩
 ·obtain rfl:=(List.append_eq_nil_iff.1 h.symm).1;exact .inr ⟨a,e⟩
 ·cases v with
  | nil=>exact absurd rfl hv
  | cons x v=>cases h
theorem En.pure (a:α):En (aO a):=.inr ⟨a,rfl⟩
theorem En.bind {p:Pz α} {f:α→Pz β} (h:En p) (k:∀ a,En (f a)):En (aF p f):=by
 rcases h with h | ⟨b,h⟩
 ·exact .inl (by unfold aF;rw [h];rfl)
 ·have e:aF p f []=f b []:=by unfold aF;rw [h];rfl
  rcases k b with k | ⟨c,k⟩
  ·exact .inl (e.trans k)
  ·exact .inr ⟨c,e.trans k⟩
theorem En.nd (w:Str):En (gNd w):=.inl rfl
theorem En.nn (w:Str):En (gNn w):=.inl rfl
theorem En.nm:En gNm:=.inl rfl
theorem En.nu:En gNu:=.inl rfl
theorem En.alt {w:Str} {p q:Pz α} (h:En q):En (cM w p q):=h
theorem En.many {w:Str} {p:Pz α}:En (dC w p):=.inr ⟨[],rfl⟩
theorem Pf.pure {N:Nat} (a:α):Pf N (aO a):=fun r b q _ e=>by
 injection e with e1 e2
 subst e1;subst e2;refine ⟨[],rfl,fun v w h=>?_,fun v _ _=>rfl⟩;obtain rfl:=(List.append_eq_nil_iff.1 h.symm).1;exact .inr ⟨a,rfl⟩
theorem Pf.bindS {N M:Nat} {p:Pz α} {f:α→Pz β} (hp:Pf N p) (hM:∀ r a q,r.length≤N→p r=.ok a q→q.length≤M) (hf:∀ a,Pf M (f a)) (he:∀ a,En (f a)):Pf N (aF p f):=by
 intro r b q' hr e;obtain ⟨a,q,h1,h2⟩:=Rs.bind_ok e;obtain ⟨u1,rfl,A1,B1⟩:=hp _ _ _ hr h1;obtain ⟨u2,rfl,A2,B2⟩:=hf a _ _ _ (hM _ _ _ hr h1) h2;have go:∀ x c y,p x=.ok c y→aF p f x=f c y:=fun x c y h=>by unfold aF;rw [h];rfl
 have fst:∀ v w,u1=v++w→aF p f v=.er [] 8∨∃ b,aF p f v=.ok b []:=fun v w h=>by
  rcases A1 v w h with h3 | ⟨b',h3⟩
  ·exact .inl (by unfold aF;rw [h3];rfl)
  ·rw [go _ _ _ h3];exact he b'
 have hd:∀ (x y z:List Tk),(y.head? = z.head?)→(x++y).head? = (x++z).head? := fun x y z h=>by
  cases x with
  | nil=>exact h
  | cons t x=>rfl
 refine ⟨u1++u2,(List.append_assoc ..).symm,fun v w h=>?_,fun v hv h=>?_⟩
 ·rcases List.append_eq_append_iff.1 h with ⟨a',rfl,rfl⟩ | ⟨c,rfl,rfl⟩
  ·cases a' with
   | nil =>
    rw [List.append_nil];exact fst u1 [] (List.append_nil _).symm
   | cons t a' =>
    rw [go _ _ _ (B1 (t::a') (by simp) rfl)];exact A2 (t::a') w rfl
  ·exact fst v c rfl
 ·rw [List.append_assoc,go _ _ _ (B1 (u2++v) (fun k=>hv (List.append_eq_nil_iff.1 k).2) (hd _ _ _ h))];exact B2 v hv h
theorem Pf.bind {N:Nat} {p:Pz α} {f:α→Pz β} (hp:Pf N p) (hf:∀ a,Pf N (f a)) (he:∀ a,En (f a)):Pf N (aF p f):=.bindS hp (fun r a q hr e=>by
 obtain ⟨u,rfl,_⟩:=hp r a q hr e;rw [List.length_append] at hr;omega) hf he
theorem Pf.one {N:Nat} {p:Pz α} (h0:p []=.er [] 8) (h1:∀ t,(∃ a,∀ r,p (t::r)=.ok a r)∨∀ r,∃ r' c,p (t::r)=.er r' c):Pf N p:=by
 intro r a q _ e;cases r with
 | nil=>rw [h0] at e;cases e
 | cons t r =>
  rcases h1 t with ⟨b,h⟩ | h
  ·rw [h] at e;injection e with e1 e2
   subst e1;subst e2;refine ⟨[t],rfl,fun v w hv=>?_,fun v _ _=>h v⟩;cases v with
   | nil=>exact .inl h0
   | cons x v =>
    injection hv with hx hv
    subst hx;obtain rfl:=(List.append_eq_nil_iff.1 hv.symm).1;exact .inr ⟨b,h []⟩
  ·obtain ⟨r',c,h⟩:=h r;rw [h] at e;cases e
theorem Pf.nd {N:Nat} (w:Str):Pf N (gNd w):=.one rfl fun t=>by
 cases e:isT w [t] with
 | true=>exact .inl ⟨(),fun r=>by show (if isT w [t]=true then _ else _)=_;rw [if_pos e];rfl⟩
 | false=>exact .inr fun r=>⟨_,_,by show (if isT w [t]=true then _ else _)=_;rw [if_neg (by rw [e];decide)]⟩
theorem Pf.nn {N:Nat} (w:Str):Pf N (gNn w):=.one rfl fun t=>by
 cases e:isN w [t] with
 | true=>exact .inl ⟨(),fun r=>by show (if isN w [t]=true then _ else _)=_;rw [if_pos e];rfl⟩
 | false=>exact .inr fun r=>⟨_,_,by show (if isN w [t]=true then _ else _)=_;rw [if_neg (by rw [e];decide)]⟩
theorem Pf.nm {N:Nat}:Pf N gNm:=.one rfl fun t=>by
 by_cases e:t.k=1
 ·exact .inl ⟨t.t,fun r=>by unfold gNm;simp only [e,if_true]⟩
 ·exact .inr fun r=>⟨t::r,8,by unfold gNm;simp only [e,if_false]⟩
theorem Pf.nu {N:Nat}:Pf N gNu:=.one rfl fun t=>by
 by_cases e:t.k=3
 ·by_cases e2:fG t.t≤9223372036854775807
  ·exact .inl ⟨Int64.ofNat (fG t.t),fun r=>by unfold gNu;simp only [e,e2,if_true]⟩
  ·exact .inr fun r=>⟨t::r,2,by unfold gNu;simp only [e,e2,if_true,if_false]⟩
 ·exact .inr fun r=>⟨t::r,8,by unfold gNu;simp only [e,if_false]⟩
theorem Pf.choice {N:Nat} {c:List Tk→Bool} {p:Tk→Pz α} {q g:Pz α} (hc0:c []=false) (hc:∀ t r r',c (t::r)=c (t::r')) (hT:∀ t r,c (t::r)=true→g (t::r)=p t r) (hF:∀ r,c r=false→g r=q r)
 (hp:∀ t M,M+1≤N→Pf M (p t)) (hq:Pf N q) (he:En q):Pf N g:=by
 intro r a z hr e;cases h:c r with
 | true =>
  cases r with
  | nil=>rw [hc0] at h;cases h
  | cons t r =>
   rw [hT _ _ h] at e;obtain ⟨u,rfl,A,B⟩:=hp t r.length (by simpa using hr) _ _ _ (Nat.le_refl _) e;refine ⟨t::u,rfl,fun v w hv=>?_,fun v hn hv=>?_⟩
   ·cases v with
    | nil=>rw [hF _ hc0];exact he
    | cons x v =>
     injection hv with hx hv
     subst hx;rw [hT _ _ ((hc ..).trans h)];exact A v w hv
   ·show g (t::(u++v))=_;rw [hT _ _ ((hc ..).trans h)];exact B v hn hv
 | false =>
  rw [hF _ h] at e;obtain ⟨u,rfl,A,B⟩:=hq _ _ _ hr e
  have pre:∀ v,(v=[]∨v.head? = (u++z).head?)→c v=false:=fun v hv=>by
   cases v with
   | nil=>exact hc0
   | cons x v =>
    rcases hv with hv | hv
    ·cases hv
    ·cases k:u++z with
     | nil=>rw [k] at hv;cases hv
     | cons y s =>
      rw [k] at hv h;injection hv with hv
      subst hv;exact (hc x v s).trans h
  refine ⟨u,rfl,fun v w hv=>?_,fun v hn hv=>?_⟩
  ·rw [hF _ (pre v (by rw [hv];cases v <;> simp))];exact A v w hv
  ·rw [hF _ (pre (u++v) (.inr (by cases u <;> first | exact hv | rfl)))];exact B v hn hv
theorem Pf.look {N:Nat} {c:List Tk→Bool} {p q g:Pz α} (hc0:c []=false) (hc:∀ t r r',c (t::r)=c (t::r')) (hT:∀ r,c r=true→g r=p r) (hF:∀ r,c r=false→g r=q r)
 (hp:Pf N p) (hq:Pf N q) (he:En q):Pf N g:=by
 intro r a z hr e
 have pre:∀ (x:Bool) (v:List Tk),v≠[]→v.head? = r.head? → c r=x→c v=x:=fun x v hn h2 h3=>by
  cases v with
  | nil=>exact absurd rfl hn
  | cons y v =>
   cases r with
   | nil=>cases h2
   | cons t r =>
    injection h2 with h2
    subst h2;exact (hc ..).trans h3
 have h1:∀ (u v w:List Tk),r=u++z→u=v++w→v≠[]→v.head? = r.head? := fun u v w h2 h3 hn=>by
  cases v with
  | nil=>exact absurd rfl hn
  | cons y v=>rw [h2,h3];rfl
 have h2:∀ (u v:List Tk),r=u++z→v.head? = z.head? → (u++v).head? = r.head? := fun u v h3 h4=>by
  rw [h3];cases u with
  | nil=>exact h4
  | cons y u=>rfl
 cases h:c r with
 | true =>
  rw [hT _ h] at e;obtain ⟨u,hu,A,B⟩:=hp _ _ _ hr e;refine ⟨u,hu,fun v w hv=>?_,fun v hn hv=>?_⟩
  ·by_cases hn:v=[]
   ·subst hn;rw [hF _ hc0];exact he
   ·rw [hT _ (pre _ v hn (h1 u v w hu hv hn) h)];exact A v w hv
  ·rw [hT _ (pre _ (u++v) (fun k=>hn (List.append_eq_nil_iff.1 k).2) (h2 u v hu hv) h)];exact B v hn hv
 | false =>
  rw [hF _ h] at e;obtain ⟨u,hu,A,B⟩:=hq _ _ _ hr e;refine ⟨u,hu,fun v w hv=>?_,fun v hn hv=>?_⟩
  ·by_cases hn:v=[]
   ·subst hn;rw [hF _ hc0];exact he
   ·rw [hF _ (pre _ v hn (h1 u v w hu hv hn) h)];exact A v w hv
  ·rw [hF _ (pre _ (u++v) (fun k=>hn (List.append_eq_nil_iff.1 k).2) (h2 u v hu hv) h)];exact B v hn hv
theorem Pf.alt {N:Nat} {w:Str} {p q:Pz α} (hp:∀ M,M+1≤N→Pf M p) (hq:Pf N q) (he:En q):Pf N (cM w p q) :=
 .choice (c:=isT w) (p:=fun _=>p) rfl (fun _ _ _=>rfl) (fun t r h=>by unfold cM;rw [if_pos h];rfl) (fun r h=>by unfold cM;rw [if_neg (by rw [h];decide)]) (fun _=>hp) hq he
theorem Pf.many {w:Str} {p:Pz α} (hs:Shr p):∀ (N:Nat),(∀ M,M+1≤N→Pf M p)→Pf N (dC w p)
 | 0,_=>.zero (.many hs)
 | N+1,h=>by
  rw [kU hs];refine .alt (fun M hM=>?_) (.pure _) (.pure _);exact .bind (h M hM) (fun a=>.bind ((Pf.many hs N fun M hM=>h M (by omega)).le (by omega)) (fun _=>.pure _) (fun _=>.pure _)) (fun a=>.bind .many fun _=>.pure _)
end
end Go.Proofs.YthhoebdlfjffkaaGreatDoor
