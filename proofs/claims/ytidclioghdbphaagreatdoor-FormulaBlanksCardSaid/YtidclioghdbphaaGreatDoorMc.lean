/- Texts of the proof, one behind the other. -/
import Derived.Test.YtidclioghdbphaaGreatDoorMb
import Derived.OrdersIn
import Derived.Test.YtidclioghdbphaaGreatDoorProg
import Derived.Lib.ItoaNum
import Derived.Lib.ItoaLen
import Derived.Lib.ParseIntB
import Derived.Lib.ParseIntBCases
import Derived.Lib.IndexMore
set_option linter.all false
set_option maxRecDepth 100000
namespace Go
noncomputable abbrev prg:=Proofs.Tryz.prog
end Go
namespace Go.Sx
open Go.RowKit Go.Par
def Qn (Q:Exit->Act->World->Prop):Exit->Act->World->Prop
 | .normal=>Q .normal
 | _=>λ_ _=>False
def noDef (l:List Oper):Bool:=l.all λo=>match o.op with | .defer _=>false | _=>true
section
variable {dfs:List Deferred} {P:Program} {n m:Nat} {L:Sl} {H:Hp} {w0:World} {bs:List Res} {Q:Exit->Act->World->Prop} {ops:Array Oper} {F:Fence}
theorem wpIn_of_wpQ [hF:FW F] {o:Oper} {a:Act} {w:World} {K:Act->World->Prop} (hd:∀ c,o.op≠.defer c) (h:o.wp P a w K (Qn Q)):o.wpIn F m P a w K Q:=by
 unfold Oper.wpIn;refine ⟨λf _=>hF.fn f,?_⟩;rw [Oper.semAt_plain F _ _ hd];unfold Oper.wp at h;generalize (execOp a.eval o).run P w=r at *;cases r with
 | ok z w' =>
  cases z <;> simp only [Oper.upon] at h <;> simp only [Oper.uponIn]
  case value u=>exact h
  case skip=>exact h
  case defer d=>exact h
  case enter f args =>
   refine ⟨λe=>(by rw [hF.depth] at e;cases e),hF.calls (h.mono ?_)⟩;intro e w'' q;cases e with
   | returned v=>exact q
   | panicked c=>exact q.elim
   | outgrown=>obtain ⟨_,_,q⟩:=q;exact q.elim
  case row rw args=>exact ⟨λe=>(by rw [hF.depth] at e;cases e),hF.rows h⟩
 | halt z w' =>
  cases z <;> simp only [Oper.upon] at h <;> exact h.elim
theorem anyIn [hF:FW F] (hd:∀ (i:Nat) o,ops[i]? = some o->∀ c,o.op≠.defer c):∀ (fuel:Nat) (listed:Array Bool) (a:Act) (w:World),wpAny P .any ops (Qn Q) fuel listed a w->wpAnyIn F m P .any ops Q fuel listed a w
 | 0,_,_,_,h=>h
 | fuel+1,listed,a,w,h=>by
  refine ⟨h.1,λi hi=>?_⟩;have h1:=h.2 i hi;unfold wpOp at h1;unfold wpOpIn;cases ho:ops[i]? with
  | none =>
   rw [ho] at h1;exact anyIn hd fuel _ _ _ h1
  | some o =>
   rw [ho] at h1;dsimp only at h1|-;cases hw:Region.wanted o (yielded ops a.tmps) with
   | true =>
    rw [hw] at h1;simp only [Al_if_true] at h1|-;rcases h1 with h1 | ⟨_,_,_,h1⟩
    ·exact Oper.wpIn_mono (λa w k=>anyIn hd fuel _ a w k) (wpIn_of_wpQ (hd i o ho) h1)
    ·exact h1.elim
   | false =>
    rw [hw] at h1;simp only [Al_Bool_false_eq_true,Al_if_false] at h1|-;exact ⟨λf _=>hF.fn f,anyIn hd fuel _ _ _ h1⟩
theorem noDef_at {l:List Oper} (h:noDef l=true):∀ (i:Nat) o,l.toArray[i]? = some o->∀ c,o.op≠.defer c:=by
 intro i o ho c e;have hm:o∈l:=Al_List_mem_of_getElem? (by simpa using ho);have:=Al_List_all_eq_true.1 h o hm;rw [e] at this;cases this
theorem At.flI [FW F] {id:Nat} {l:List Oper} {trip:List (Nat × Nat × Oper)} (nn:Nat) (ord:List (Nat × Nat)) (hm:P.follows .mixedOrders=true) (hB:flowB l.toArray nn ord=true) (hd:noDef l=true) (ht:ord.map (λx=>(x.1,x.2,l[x.1]!))=trip)
 (h:FlowP dfs P l.toArray nn w0 n (λL H bs=>At dfs n L H w0 bs (wpList P l.toArray (Qn Q) (l.drop nn))) trip [] L H bs):At dfs n L H w0 bs ((Code.region id l.toArray true).wpIn F m P Q) :=
 λa W f s=>wpIn_region_any hm (anyIn (noDef_at hd) _ _ _ _ (flowAny nn ord hB ht h a W f s))
theorem At.nlQ (h:At dfs n L H w0 bs (Q .normal)):At dfs n L H w0 bs (wpList P ops (Qn Q) []):=h
theorem At.bkI {id:Nat} {c:Code} (h:At dfs n L H w0 bs (c.wpIn F m P (Exit.inBlock id Q))):At dfs n L H w0 bs ((Code.block id c).wpIn F m P Q):=λa W f s=>wpIn_block (h a W f s)
end
structure Apx (H:Hp) (p:Nat) (fx:List Res) (TX:TypeId) (cs:List Value) (b:Nat) (W:World):Prop where
 blk:W.heap[b]? = some (.cells cs.toArray TX (0,0))
 new:H b=none
 head:∃ u l t m,W.heap[p]? = some (.cells (u::l).toArray t m)/\u.ownBlock≠some b
 ne:b≠p
 fix:∀ x∈fx,x.blk≠some b
variable {H:Hp}
theorem Apx.grow {p b:Nat} {fx:List Res} {TX:TypeId} {cs:List Value} {A B:World} {row:Option Nat} (h:Apx H p fx TX cs b A) (g:A.grownBy B row) (hr:∀ r,row=some r->∃ o:Obj,A.heap[r]? = some o/\o.isCells=false):Apx H p fx TX cs b B:=by
 have key:∀ {k:Nat} {arr:Array Value} {t:TypeId} {m:Nat × Nat},A.heap[k]? = some (Obj.cells arr t m)->B.heap[k]? = some (Obj.cells arr t m):=λ{k arr t m} hk=>by
  rw [<-hk];refine g.block k (block_lt hk) λe=>?_;obtain ⟨o,h1,h2⟩:=hr k e.symm;rw [hk] at h1;cases h1;cases h2
 obtain ⟨u,l,t,m,h1,h2⟩:=h.head;exact ⟨key h.blk,h.new,⟨u,l,t,m,key h1,h2⟩,h.ne,h.fix⟩
section
variable {H:Hp} {w0:World}
def rsB (e:TypeId) (size p:Nat) (T:TypeId) (fx:List Res) (v:Value) (k:Nat) (xs l:List Value):List Res:=.row e size v k xs::.box p (v::l) T::fx
theorem Apx.of {p b size k:Nat} {e T TX:TypeId} {fx tl:List Res} {v:Value} {xs l cs:List Value} {W:World} (s:St H w0 (.box b cs TX::(rsB e size p T fx v k xs l++tl)) W):Apx H p fx TX cs b W:=by
 have hb:=s.own _ (Al_List_mem_cons_self ..);have ha:=(Al_List_pairwise_cons.1 s.apart).1;refine ⟨hb.1.2,hb.2 b rfl,⟨v,l,T,_,(s.own (.box p (v::l) T) (by simp [rsB])).1.2,λe=>ha (.row _ _ v _ _) (by simp [rsB];exact .inl ⟨Z,Z,Z,Z⟩) b rfl e⟩,λe=>ha (.box p (v::l) T) (by simp [rsB]) b rfl (by rw [e];rfl),λx hx e=>ha x (by simp [rsB,hx]) b rfl e⟩
theorem Apx.st {p b size k:Nat} {e T TX:TypeId} {fx:List Res} {v:Value} {xs l cs:List Value} {W:World} (h:Apx H p fx TX cs b W) (s:St H w0 (rsB e size p T fx v k xs l) W):St (putH H b (.cells cs.toArray TX (0,0))) w0 (rsB e size p T fx v k xs l) W:=by
 refine ⟨s.ext,⟨λc o hc=>?_,s.agr.lo⟩,λx hx=>⟨(s.own x hx).1,λc hc=>?_⟩,s.apart,s.lo⟩
 ·by_cases e:c=b
  ·subst e;rw [putH_at] at hc;rw [<-hc];exact h.blk
  ·rw [putH_ne e] at hc;exact s.agr c o hc
 ·rw [putH_ne,(s.own x hx).2 c hc];intro e;subst e;unfold rsB at hx;rcases Al_List_mem_cons.1 hx with rfl | hx
  ·obtain ⟨u,l2,t,m,h1,h2⟩:=h.head;have h3:=(s.own (.box p (v::l) T) (by simp [rsB])).1.2;rw [h1] at h3;have h4:(u::l2).toArray=(v::l).toArray:=by injection h3 with h3;injection h3
   have h5:=congrArg Array.toList h4;simp only [Al_List_cons_injEq] at h5;rw [h5.1] at h2;exact h2 hc
  ·rcases Al_List_mem_cons.1 hx with rfl | hx
   ·exact h.ne (Al_Option_some_inj hc).symm
   ·exact h.fix x hx hc
theorem up_put {b:Nat} {o:Obj} (h:H b=none):Up H (putH H b o):=by
 refine ⟨λc x hc=>?_,Z⟩;rw [putH_ne]
 ·exact hc
 ·intro e;subst e;rw [h] at hc;cases hc
theorem At.rfB {α Z:Type} {bs:List Res} {dfs:List Deferred} {P:Program} {n:Nat} {L:Sl} {Q:Exit->Act->World->Prop} {g:Operand} {pt:Tmp} {assign body:Code} {gf:Nat} {lb:Array Value} {enc:α->Value} {S:List α->Prop} {N:Nat} {e T TX:TypeId} {size p:Nat} {fx:List Res}
 (C:List α->Z->Prop) (v:Z->Value) (k:Z->Nat) (xs l:Z->List Value) (z0:Z) (L2:α->Nat->Sl) (cx:α->List Value)
 (hg:ev L g=some (.func (.func gf) #[] lb)) (eg:∀ args w,(callFunc gf args).run P w=.ok (.enter gf args) w) (ht:Nat.blt pt n=true)
 (hseq:∀ w,Agr H w->SeqStopsK Fence.wide 8 P gf lb (λx=>#[enc x]) (KpH H) S (λ_=>True) N w)
 (h0:C [] z0) (hb:bs=rsB e size p T fx (v z0) (k z0) (xs z0) (l z0)) (hn:nobj fx=true)
 (hass:∀ l x bs' K,(∀ b,At [] n (L2 x b) H w0 (.box b (cx x) TX::bs') K)->At [] n ((pt,enc x)::L) H w0 bs' (assign.wpIn (Fence.wide.inRound l) 7 P (Exit.then K (λ_ _ _=>False))))
 (hbody:∀ l' pre x z tl b H2,C pre z->pre.length<N->Up H H2->MemAt H2 b 0 (cx x)->At [] n (L2 x b) H2 w0 (rsB e size p T fx (v z) (k z) (xs z) (l z)++tl) (body.wpIn (Fence.wide.inRound l') 7 P (Sx.rE C (λz=>rsB e size p T fx (v z) (k z) (xs z) (l z)) H w0 tl (pre++[x]))))
 (hdone:∀ D ys z,S ys->C ys z->At ({ target:=.collected D,args:=#[] }::dfs) n L H w0 (.obj D (.deferred (some []))::rsB e size p T fx (v z) (k z) (xs z) (l z)) (Q .normal)) :
 At dfs n L H w0 bs ((Code.rangeFunc g #[pt] assign body).wp P Q):=by
 intro a W f s;subst hb;have hnz:∀ z,nobj (rsB e size p T fx (v z) (k z) (xs z) (l z))=true:=λz=>hn;have hB:w0.heap.size<=W.heap.size:=s.ext.size;have hH:∀ r,W.heap.size<=r->H r=none:=λr hr=>s.agr.lt hr
 refine (wpIn_wide (n:=9)).1 (wpIn_rangeFunc_ownH (n:=9) (ps:=#[pt]) (α:=α) (N:=N) (S:=S) (Sp:=λ_=>True) (encs:=λx=>#[enc x]) (Kp:=KpH H) (w0:=W) rfl (by decide) (f.ev hg) trivial eg (hseq W s.agr) (λh k q=>k (h q)) ?_ (Below.refl _ _) (λ_=>rfl)
  (λpre W=>∃ z,C pre z/\St H w0 (rsB e size p T fx (v z) (k z) (xs z) (l z)) W) (λ_ _ _=>False) (ownSt hB hH λ_ z _=>hnz z) (λ_ _ _ _ _ h _ _=>h.elim) ⟨z0,h0,s⟩ (λx a' W=>∃ b,Fr [] n (L2 x b) a'/\Apx H p fx TX (cx x) b W)
  (λx a' _ A B row h hg hr=>by obtain ⟨b,h1,h2⟩:=h;exact ⟨b,h1,h2.grow hg λr e=>(hr r e).2⟩) ?_ ?_ ?_ (λ_ _ _ _ _ _ h=>h.elim))
 ·intro W1 l o o' hl ho _ _ q;refine ⟨λb ob e=>?_,by have:=q.lo;simpa [World.putObj] using this⟩;have hne:b≠l:=λh=>by subst h;rw [hH b hl] at e;cases e
  exact (World.putObj_heap_other hne).trans (q b ob e)
 ·rintro l' pre x W1 K ⟨z,hz,s1⟩ hK
  have f1:Fr [] n ((pt,enc x)::L) { tmps:=(#[pt].zip #[enc x]).foldl (λt (p,v)=>t.setIfInBounds p v) a.tmps,defers:=[] }:=by
   have f2:Fr [] n L { a with defers:=[] }:=⟨f.size,rfl,f.slot⟩;have e:(#[pt].zip #[enc x]).foldl (λt (x:Tmp × Value)=>match x with | (p,v)=>t.setIfInBounds p v) a.tmps=a.tmps.setIfInBounds pt (enc x):=by simp
   rw [e];exact f2.put ht (enc x)
  refine hass l' x _ K ?_ _ W1 f1 (s1.tailOf (hnz z) hB hH);intro b a' W2 f' s2;have s3:=s2.drop;exact hK a' W2 s3.keepsFrom (λ_=>s3.agr) ⟨z,hz,s3.front⟩ ⟨b,f',Apx.of s2⟩
 ·rintro l' pre x a' W1 hl _ ⟨z,hz,s1⟩ ⟨b,f',hx⟩ hlen;have s2:=hx.st s1;have hH2:∀ r,W1.heap.size<=r->putH H b (Obj.cells (cx x).toArray TX (0,0)) r=none:=λr hr=>s2.agr.lt hr;have ht:=s1.tailOf (B:=W.heap.size) (hnz z) hB hH
  have s4:St (putH H b (.cells (cx x).toArray TX (0,0))) w0 (rsB e size p T fx (v z) (k z) (xs z) (l z)++Sx.tailOf W.heap.size W1) W1:=by
   refine ⟨ht.ext,s2.agr,λy hy=>?_,ht.apart,ht.lo⟩;rcases Al_List_mem_append.1 hy with h | h
   ·exact s2.own y h
   ·refine ⟨(ht.own y hy).1,λc hc=>?_⟩;rw [putH_ne,(ht.own y hy).2 c hc];rintro rfl;rcases mem_tailOf h with rfl | ⟨d,o,rfl,ho,hc2,_⟩
    ·cases hc
    ·obtain rfl:d=c:=Al_Option_some_inj hc;rw [hx.blk] at ho;cases ho;cases hc2
  refine wpIn_mono (hbody l' pre x z _ b _ hz hlen (up_put hx.new) ⟨_,_,_,Al_if_pos rfl,λj u e=>by simpa using e⟩ a' W1 f' s4) ?_;intro e a2 W2 h;cases e with
  | normal =>
   obtain ⟨z',hz',s2⟩:=h;exact ⟨s2.keepsFrom,λ_=>s2.agr,z',hz',s2.front⟩
  | _=>exact h.elim
 ·rintro D ys W1 hD hS ⟨z,hz,s1⟩ hd;refine hdone D ys z hS hz _ W1 ⟨f.size,by show _::_=_;rw [f.defers],f.slot⟩ ⟨s1.ext,s1.agr,?_,.cons ?_ s1.apart,s1.lo⟩
  ·intro x hx;rcases Al_List_mem_cons.1 hx with rfl | hx
   ·exact ⟨⟨Al_Nat_le_trans hB hD,hd⟩,λb e=>by obtain rfl:D=b:=Al_Option_some_inj e;exact hH D hD⟩
   ·exact s1.own x hx
  ·intro y hy b e e';obtain rfl:D=b:=Al_Option_some_inj e;exact nobj_ne s1 (hnz z) hd rfl y hy e'
end
variable {w0 W:World} {bs bs':List Res}
theorem St.put1 {x y:Res} (h:St H w0 bs W) (u:Upd bs x y bs') (hy:y.ok w0.heap.size W) (hb:∀ b,y.blk=some b->x.blk=some b):St H w0 bs' W :=
 h.upd u h.ext (Al_Nat_le_refl _) (λ_ _ _=>rfl) hy (λb e=>.inl (hb b e))
/-! ### A drawn region without an operation that waits for all others: each order of the heavy ones -/
structure FitE (ops:Array Oper) (n:Nat):Prop where
 all:n=ops.size
 sel:∀ (j:Nat) (o:Oper) (cs:Array SelectCase) (b:Bool),ops[j]? = some o->o.op≠.select cs b
 back:∀ i o,ops[i]? = some o->∀ e∈o.after,Region.binds .any e=true->e.on<i
 apart:∀ j k,j<n->k<n->j≠k->∀ d,dstOf ops j=some d->dstOf ops k≠some d
 look:∀ i o,i<n->ops[i]? = some o->∀ t∈o.looksAt ops,∀ j,j<n->dstOf ops j=some t->Region.waitsFor .any ops i j=true
def parE (ops:Array Oper) (n:Nat):Bool :=
 Region.noSelect ops && decide (n=ops.size) &&
 (List.range ops.size).all (λi=>((ops[i]?).map λo=>o.after.all λe=>!Region.binds .any e || decide (e.on<i)).getD true) &&
 (List.range n).all (λi=>(List.range n).all λj=>decide (i=j) || (dstOf ops i).isNone || dstOf ops i != dstOf ops j) &&
 (List.range n).all (λi=>((ops[i]?).map λo=>(o.looksAt ops).all λt=>(List.range n).all λj=>dstOf ops j != some t || Region.waitsFor .any ops i j).getD true)
variable {n:Nat}
theorem FitE.of {ops:Array Oper} (h:parE ops n=true):FitE ops n:=by
 simp only [parE,Al_Bool_and_eq_true,Al_decide_eq_true_eq] at h;obtain ⟨⟨⟨⟨h1,h2⟩,h5⟩,h6⟩,h7⟩:=h;refine ⟨h2,Region.noSelect_spec h1,?_,?_,?_⟩
 ·intro i o ho e he hb;have hi:i<ops.size:=(Array.getElem?_eq_some_iff.1 ho).1;have:=Al_List_all_eq_true.1 h5 i (Al_List_mem_range.2 hi);simp only [ho,Al_Option_map_some,Al_Option_getD_some,Al_Array_all_eq_true_iff_forall_mem] at this;have:=this e he;simpa [hb] using this
 ·intro j k hj hk hne d hd;have:=Al_List_all_eq_true.1 (Al_List_all_eq_true.1 h6 j (Al_List_mem_range.2 hj)) k (Al_List_mem_range.2 hk);simp only [hd,hne,Al_decide_false,Al_Bool_false_or,Option.isNone_some,bne_iff_ne] at this;exact λe=>this e.symm
 ·intro i o hi ho t ht j hj hd;have:=Al_List_all_eq_true.1 h7 i (Al_List_mem_range.2 hi);simp only [ho,Al_Option_map_some,Al_Option_getD_some] at this;have:=Al_List_all_eq_true.1 (Al_List_all_eq_true.1 this t ht) j (Al_List_mem_range.2 hj);simpa [hd] using this
section
variable {dfs:List Deferred} {P:Program} {ops:Array Oper} {w0:World} {n N:Nat}
variable {l:List Oper} {a0:Act} {E:Sl->Hp->List Res->Prop} {Q:Exit->Act->World->Prop} {listed:Array Bool} {a:Act} {W:World} {val:Nat->Value} {dec:Nat->Bool} {D A:List Nat} {L:Sl} {H:Hp} {bs:List Res} {pa:List (Nat × Oper × Value)}
theorem eval_sameE (F:FitE ops n) {a0:Act} {v1 v2:Nat->Value} {S1 S2:Nat->Bool} {i:Nat} {o:Oper} (hi:i<n) (ho:ops[i]? = some o)
 (h:∀ j,j<n->Region.waitsFor .any ops i j=true->S1 j=true/\S2 j=true/\v1 j=v2 j) (t:Tmp) (ht:t∈o.looksAt ops) :
 (frm ops v1 S1 n a0).eval (.tmp t)=(frm ops v2 S2 n a0).eval (.tmp t):=by
 by_cases hw:∃ j,j<n/\dstOf ops j=some t
 ·obtain ⟨j,hj,hd⟩:=hw;obtain ⟨h1,h2,h3⟩:=h j hj (F.look i o hi ho t ht j hj hd);rw [frm_in _ S1 a0 t j h1 hd n hj (λk hk hne e=>F.apart k j hk hj hne t e hd),frm_in _ S2 a0 t j h2 hd n hj (λk hk hne e=>F.apart k j hk hj hne t e hd),h3]
 ·rw [frm_out _ S1 a0 t n (λk hk _ hd=>hw ⟨k,hk,hd⟩),frm_out _ S2 a0 t n (λk hk _ hd=>hw ⟨k,hk,hd⟩)]
theorem frm_putE (F:FitE ops n) {i:Nat} {o:Oper} {v:Value} (hi:i<n) (ho:ops[i]? = some o) (hd:dec i=false) :
 frm ops (upd val i v) (upd dec i true) n a0=(frm ops val dec n a0).put o.dst v:=by
 have e1:dstOf ops i=o.dst:=by simp [dstOf,ho]
 rw [frm_more (upd val i v) dec (upd dec i true) a0 i (upd_same _ _ _) hd (λk hk=>upd_ne _ _ hk) n hi F.apart,upd_same,e1]
 congr 1
 refine frm_congr _ _ _ _ a0 n λk _=>⟨Z,λhk=>upd_ne _ _ λe=>?_⟩;subst e;rw [hd] at hk;cases hk
theorem GT.decideE (F:FitE ops n) {i:Nat} {o:Oper} (I:GT dfs P ops l w0 n N a0 E listed a W val dec D L H bs pa) (hi:i<n) (ho:ops[i]? = some o) (hiD:D.contains i=false) (hwt:((List.range n).all λj=>!Region.waitsFor .any ops i j || D.contains j)=true)
 {v:Value} (hy:∀ a W,Fr dfs N L a->St H w0 bs W->Yq P ops o v a W) (hN:∀ t,o.dst=some t->t<N) :
 GT dfs P ops l w0 n N a0 E listed a W (upd val i v) (upd dec i true) (i::D) (putL o.dst v L) H bs ((i,o,v)::pa):=by
 have hdi:dec i=false:=(I.set i).trans hiD;have hdeps:∀ j,j<n->Region.waitsFor .any ops i j=true->dec j=true:=λj hj hw=>(I.set j).trans (waits_ok hwt hj hw)
 have hii:∀ j,j<n->Region.waitsFor .any ops i j=true->j≠i:=λj hj hw e=>by
  have:=hdeps j hj hw;rw [e,hdi] at this;cases this
 have hli:st listed i=false:=by
  cases h:st listed i with
  | false=>rfl
  | true=>have:=I.sub i hi h;rw [hdi] at this;cases this
 have hput:=frm_putE (a0:=a0) (val:=val) (v:=v) F hi ho hdi;refine ⟨I.head,?_,?_,?_,I.world,?_,?_,upd_set I.set,?_⟩
 ·rw [I.frame];refine frm_congr _ _ _ _ a0 n λk _=>⟨Z,λhk=>(upd_ne _ _ λe=>?_).symm⟩;subst e;rw [hli] at hk;cases hk
 ·rw [hput];exact I.full.putL v hN
 ·intro j hj hs
  by_cases e:j=i
  ·subst e;exact upd_same _ _ _
  ·rw [upd_ne _ _ e];exact I.sub j hj hs
 ·intro j oj hj hoj hd hs W hW
  by_cases e:j=i
  ·subst e;obtain rfl:oj=o:=Al_Option_some_inj (hoj.symm.trans ho);rw [upd_same];refine Yq.same (λcs b=>F.sel j oj cs b ho) (λt ht=>?_) (hy _ W I.full hW);refine eval_sameE F hj ho (λk hk hw=>?_) t ht;have hkd:=hdeps k hk hw;have hki:=hii k hk hw;exact ⟨by rw [upd_ne _ _ hki];exact hkd,hkd,upd_ne _ _ hki⟩
  ·rw [upd_ne _ _ e] at hd|-;refine Yq.same (λcs b=>F.sel j oj cs b hoj) (λt ht=>?_) (I.light j oj hj hoj hd hs W hW);refine eval_sameE F hj hoj (λk hk hw=>?_) t ht;have hkd:=I.deps j k hj hk hd hw;have hki:k≠i:=λe=>by subst e;rw [hdi] at hkd;cases hkd
   exact ⟨by rw [upd_ne _ _ hki];exact hkd,hkd,upd_ne _ _ hki⟩
 ·intro j oj hj hoj hd hs
  by_cases e:j=i
  ·subst e;obtain rfl:oj=o:=Al_Option_some_inj (hoj.symm.trans ho);rw [upd_same];exact .head _
  ·rw [upd_ne _ _ e] at hd|-;exact .tail _ (I.past j oj hj hoj hd hs)
 ·intro j k hj hk hd hw
  by_cases e:j=i
  ·subst e;rw [upd_ne _ _ (hii k hk hw)];exact hdeps k hk hw
  ·rw [upd_ne _ _ e] at hd;have:=I.deps j k hj hk hd hw
   by_cases e2:k=i
   ·subst e2;exact upd_same _ _ _
   ·rw [upd_ne _ _ e2];exact this
theorem GT.stepE (F:FitE ops n) {i:Nat} {o:Oper} {W':World} (I:GT dfs P ops l w0 n N a0 E listed a W val dec D L H bs pa) (hi:i<n) (ho:ops[i]? = some o) (hr:i∈Region.ready .any ops listed) (hd:dec i=true) (hx:Ext W W') :
 GT dfs P ops l w0 n N a0 E (listed.setIfInBounds i true) (a.put o.dst (val i)) W' val dec D L H bs pa:=by
 have hun:st listed i=false:=(mem_ready.1 hr).1;have e1:dstOf ops i=o.dst:=by simp [dstOf,ho]
 refine ⟨I.head.set hr hi,?_,I.full,?_,I.world.more hx,?_,?_,I.set,I.deps⟩
 ·rw [I.frame,frm_more val (st listed) (st (listed.setIfInBounds i true)) a0 i st_set_same hun (λk hk=>st_set hk) n hi F.apart,e1]
 ·intro j hj hs
  by_cases e:j=i
  ·subst e;exact hd
  ·rw [st_set e] at hs;exact I.sub j hj hs
 ·intro j oj hj hoj hdj hs;have e:j≠i:=λe=>by subst e;rw [st_set_same] at hs;cases hs
  rw [st_set e] at hs;exact I.light j oj hj hoj hdj hs
 ·intro j oj hj hoj hdj hs;have e:j≠i:=λe=>by subst e;rw [st_set_same] at hs;cases hs
  rw [st_set e] at hs;exact I.past j oj hj hoj hdj hs
theorem GT.heavyE (F:FitE ops n) {i k:Nat} {o:Oper} {v:Value} {W':World} {H':Hp} {bs':List Res} (I:GT dfs P ops l w0 n N a0 E listed a W val dec D L H bs pa) (hi:i<n) (ho:ops[i]? = some o) (hiD:D.contains i=false) (hwt:((List.range n).all λj=>!Region.waitsFor .any ops i j || D.contains j)=true) (hk1:(!(k == 1) || D.all λj=>reach ops n i j)=true) (hN:∀ t,o.dst=some t->t<N) (hr:i∈Region.ready .any ops listed)
 (hs:St H' w0 bs' W') (hws:k=1\/(∀ W,St H' w0 bs' W->St H w0 bs W)\/RedoP dfs P ops n w0 N L H' bs' i pa) :
 GT dfs P ops l w0 n N a0 E (listed.setIfInBounds i true) (a.put o.dst v) W' (upd val i v) (upd dec i true) (i::D) (putL o.dst v L) H' bs' pa:=by
 have hdi:dec i=false:=(I.set i).trans hiD;have hdeps:∀ j,j<n->Region.waitsFor .any ops i j=true->dec j=true:=λj hj hw=>(I.set j).trans (waits_ok hwt hj hw)
 have hii:∀ j,j<n->Region.waitsFor .any ops i j=true->j≠i:=λj hj hw e=>by
  have:=hdeps j hj hw;rw [e,hdi] at this;cases this
 have hun:st listed i=false:=(mem_ready.1 hr).1;have e1:dstOf ops i=o.dst:=by simp [dstOf,ho]
 have hput:=frm_putE (a0:=a0) (val:=val) (v:=v) F hi ho hdi;refine ⟨I.head.set hr hi,?_,?_,?_,hs,?_,?_,upd_set I.set,?_⟩
 ·rw [I.frame,frm_more (upd val i v) (st listed) (st (listed.setIfInBounds i true)) a0 i st_set_same hun (λk hk=>st_set hk) n hi F.apart,e1,upd_same]
  congr 1
  refine frm_congr _ _ _ _ a0 n λk _=>⟨Z,λhk=>(upd_ne _ _ λe=>?_).symm⟩;subst e;rw [hun] at hk;cases hk
 ·rw [hput];exact I.full.putL v hN
 ·intro j hj hs
  by_cases e:j=i
  ·subst e;exact upd_same _ _ _
  ·rw [upd_ne _ _ e];rw [st_set e] at hs;exact I.sub j hj hs
 ·intro j oj hj hoj hd hs W hW;have e:j≠i:=λe=>by subst e;rw [st_set_same] at hs;cases hs
  rw [st_set e] at hs;rw [upd_ne _ _ e] at hd|-
  have hdone:reach ops n i j=true->False:=λh1=>by
   obtain ⟨_,oi,hoi,hall⟩:=mem_ready.1 hr
   have h2:=reach_listed I.head n i j h1 (λok hok x hx hb=>by
    obtain rfl:ok=oi:=Al_Option_some_inj (hok.symm.trans hoi);exact hall x hx hb)
   rw [getD_both hs] at h2;cases h2
  have hy:Yq P ops oj (val j) (frm ops val dec n a0) W:=by
   rcases hws with hk | hw | hw
   ·subst hk;have hjD:j∈D:=by have:=(I.set j).symm.trans hd;simpa using this
    simp only [beq_self_eq_true,Al_Bool_not_true,Al_Bool_false_or] at hk1;exact (hdone (Al_List_all_eq_true.1 hk1 j hjD)).elim
   ·exact I.light j oj hj hoj hd hs W (hw W hW)
   ·rcases hw.at (I.past j oj hj hoj hd hs) with h1 | h1
    ·exact (hdone h1).elim
    ·exact h1 _ W I.full hW
  refine Yq.same (λcs b=>F.sel j oj cs b hoj) (λt ht=>?_) hy;refine eval_sameE F hj hoj (λk hk hw=>?_) t ht;have hkd:=I.deps j k hj hk hd hw;have hki:k≠i:=λe=>by subst e;rw [hdi] at hkd;cases hkd
  exact ⟨by rw [upd_ne _ _ hki];exact hkd,hkd,upd_ne _ _ hki⟩
 ·intro j oj hj hoj hd hs;have e:j≠i:=λe=>by subst e;rw [st_set_same] at hs;cases hs
  rw [st_set e] at hs;rw [upd_ne _ _ e] at hd|-;exact I.past j oj hj hoj hd hs
 ·intro j k hj hk hd hw
  by_cases e:j=i
  ·subst e;rw [upd_ne _ _ (hii k hk hw)];exact hdeps k hk hw
  ·rw [upd_ne _ _ e] at hd;have:=I.deps j k hj hk hd hw
   by_cases e2:k=i
   ·subst e2;exact upd_same _ _ _
   ·rw [upd_ne _ _ e2];exact this
theorem flowT_gameE (hl:ops=l.toArray) (F:FitE ops n) (hend:∀ L H bs,E L H bs->At dfs N L H w0 bs (Q .normal)) :
 ∀ (m:Nat) (p:Pi0) (listed:Array Bool) (a:Act) (W:World) (val:Nat->Value) (dec:Nat->Bool) (D:List Nat) (L:Sl) (H:Hp) (bs:List Res) (pa:List (Nat × Oper × Value)),cnt (st listed) n=m->okT ops n D [] p=true ->
  FlowT dfs P ops n w0 N E (fillT l p) pa L H bs->GT dfs P ops l w0 n N a0 E listed a W val dec D L H bs pa->wpAny P .any ops Q (m+(ops.size - n)) listed a W:=by
 have hop:∀ i,i<n->ops[i]? = some l[i]! := λi hi=>by
  have h1:i<ops.size:=by have:=F.all;omega
  subst hl;have h2:i<l.length:=by simpa using h1
  simp [h2]
 intro m;induction m with
 | zero =>
  intro p;induction p with
  | done =>
   intro listed a W val dec D L H bs pa hm hok hF I;have hall:=cnt_zero _ n hm;have hsz:ops.size - n=0:=by have:=F.all;omega
   rw [hsz]
   have hrd:Region.ready .any ops listed=[]:=List.eq_nil_iff_forall_not_mem.2 λk hk=>by
    obtain ⟨h1,o,h2,_⟩:=mem_ready.1 hk;have h3:k<ops.size:=(Array.getElem?_eq_some_iff.1 h2).1;have h4:=hall k (by have:=F.all;omega);have h5:k<listed.size:=by rw [I.head.size];exact h3
    simp [st,h5] at h1 h4;rw [h4] at h1;cases h1
   have hfr:a=frm ops val dec n a0:=by
    rw [I.frame];exact frm_congr _ _ _ _ a0 n (λk hk=>⟨by rw [hall k hk,I.sub k hk (hall k hk)],λ_=>rfl⟩)
   rw [hfr];exact At.ae (n:=N) (L:=L) hrd (hend L H bs hF) _ W I.full I.world
  | no =>
   intro listed a W val dec D L H bs pa hm hok hF I;simp [okT] at hok
  | light i r ih =>
   intro listed a W val dec D L H bs pa hm hok hF I;have hall:=cnt_zero _ n hm;simp only [okT,Al_Bool_and_eq_true,Al_decide_eq_true_eq,Al_Bool_not_eq_true'] at hok;have:=I.sub i hok.1.1.1.2 (hall i hok.1.1.1.2);rw [I.set i,hok.1.1.2] at this;cases this
  | alt i k r q ih1 ih2 =>
   intro listed a W val dec D L H bs pa hm hok hF I;have hall:=cnt_zero _ n hm;simp only [okT,Al_Bool_and_eq_true,Al_decide_eq_true_eq,Al_Bool_not_eq_true'] at hok;have:=I.sub i hok.1.1.1.1.1 (hall i hok.1.1.1.1.1);rw [I.set i,hok.1.1.1.1.2] at this;cases this
 | succ m ih =>
  have one_step:∀ (p:Pi0) (listed:Array Bool) (a:Act) (W:World) (val:Nat->Value) (dec:Nat->Bool) (D:List Nat) (L:Sl) (H:Hp) (bs:List Res) (pa:List (Nat × Oper × Value)),cnt (st listed) n=m+1->okT ops n D [] p=true ->
   FlowT dfs P ops n w0 N E (fillT l p) pa L H bs->GT dfs P ops l w0 n N a0 E listed a W val dec D L H bs pa->(p=.done\/p=.no\/∃ i k r q,p=.alt i k r q)->wpAny P .any ops Q (m+1+(ops.size - n)) listed a W:=by
   intro p listed a W val dec D L H bs pa hm hok hF I hp;obtain ⟨k0,hk0,hun0,hbelow⟩:=cnt_pos (st listed) n (by omega);have hk0s:k0<ops.size:=by have:=F.all;omega
   have hready0:k0∈Region.ready .any ops listed:=by
    refine mem_ready.2 ⟨hun0,ops[k0],Array.getElem?_eq_getElem hk0s,λe he hb=>?_⟩;have hlt:=F.back k0 _ (Array.getElem?_eq_getElem hk0s) e he hb;have:=hbelow e.on hlt;have hsz:e.on<listed.size:=by rw [I.head.size];omega
    simpa [st,hsz] using this
   rw [show m+1+(ops.size - n)=(m+(ops.size - n))+1 by omega];refine ⟨λh0=>(by rw [h0] at hready0;cases hready0),λj hj=>?_⟩
   have hjn:j<n:=by
    rcases Al_Nat_lt_or_ge j n with h | h
    ·exact h
    ·exfalso
     obtain ⟨_,oj,hoj,_⟩:=mem_ready.1 hj;have h3:j<ops.size:=(Array.getElem?_eq_some_iff.1 hoj).1;have:=F.all;omega
   obtain ⟨hun,oj,hoj,hall⟩:=mem_ready.1 hj
   have hcnt:cnt (st (listed.setIfInBounds j true)) n=m:=by
    have:=cnt_more (st listed) (st (listed.setIfInBounds j true)) j st_set_same hun (λk hk=>st_set hk) n hjn;omega
   have hS:∀ k,k<n->Region.waitsFor .any ops j k=true->st listed k=true:=by
    intro k hk hw;obtain ⟨oi,hoi,e,he,hb,hon⟩:=Region.waitsFor_spec hw;obtain rfl:oi=oj:=Al_Option_some_inj (hoi.symm.trans hoj);have h1:=hall e he hb;rw [hon] at h1;have hsz:k<listed.size:=by rw [I.head.size];have:=F.all;omega
    simp [hsz] at h1;simp [st,hsz,h1]
   have hev:∀ t∈oj.looksAt ops,a.eval (.tmp t)=(frm ops val dec n a0).eval (.tmp t):=λt ht=>by
    rw [I.frame];exact eval_sameE F hjn hoj (λk hk hw=>⟨hS k hk hw,I.sub k hk (hS k hk hw),Z⟩) t ht
   cases hd:dec j with
   | true =>
    have hy:Yq P ops oj (val j) a W:=Yq.same (λcs b=>F.sel j oj cs b hoj) hev (I.light j oj hjn hoj hd hun W I.world);exact hy.wpOp hoj λW' hx=>ih p _ _ _ _ _ _ _ _ _ _ hcnt hok hF (I.stepE F hjn hoj hj hd hx)
   | false =>
    have hjD:D.contains j=false:=(I.set j).symm.trans hd
    have hch:p=.no\/∃ i k r q',p=.alt i k r q':=by
     rcases hp with rfl | rfl | h
     ·exfalso
      simp only [okT,Al_Bool_and_eq_true] at hok;have:=Al_List_all_eq_true.1 hok.2 j (Al_List_mem_range.2 hjn);rw [hjD] at this;cases this
     ·exact .inl Z
     ·exact .inr h
    obtain ⟨k,r,h1,h2,h3,h4,h5⟩:=chain_find hl hjn hjD (λi hi hin=>by
     cases hre:reach ops n j i with
     | false=>rfl
     | true =>
      have h2:=reach_listed I.head n j i hre (λok hok e he hb=>by
       obtain rfl:ok=oj:=Al_Option_some_inj (hok.symm.trans hoj);exact hall e he hb)
      have h3:st listed i=false:=by
       cases h:st listed i with
       | false=>rfl
       | true=>have:=I.sub i hin h;rw [I.set i,hi] at this;cases this
      rw [getD_both h3] at h2;cases h2) p [] hch hok (λi hi=>by cases hi) hF
    have hoj2:=hop j hjn;obtain rfl:oj=l[j]! := Al_Option_some_inj (hoj.symm.trans hoj2);refine one_same hoj (λcs b=>F.sel j _ cs b hoj) hev (λb W' ⟨v,H',bs',hf,_⟩=>hf.defers) I.full.defers ?_ (h5 _ W I.full I.world);rintro v W' ⟨v',H',bs',hf,hs,hw,hp'⟩
    have hvv:putL (l[j]!).dst v' L=putL (l[j]!).dst v L:=by
     cases hdst:(l[j]!).dst with
     | none=>rfl
     | some t =>
      rw [hdst] at hf;have h1:=hf.slot t v' (by unfold putL look;rw [Al_Nat_beq_refl,Al_cond_true]);have h2:t<N:=h4 t hdst;have h3:=(I.full.put (by simpa [Al_Nat_blt_eq] using h2) v).slot t v (by unfold look;rw [Al_Nat_beq_refl,Al_cond_true]);rw [h3] at h1;rw [h1]
    rw [hvv] at hp';exact ih r _ _ _ _ _ _ _ _ _ _ hcnt h3 hp' (I.heavyE F hjn hoj hjD h1 h2 h4 hj hs hw)
  intro p;induction p with
  | done=>exact λlisted a W val dec D L H bs pa hm hok hF I=>one_step _ listed a W val dec D L H bs pa hm hok hF I (.inl Z)
  | no=>exact λlisted a W val dec D L H bs pa hm hok hF I=>one_step _ listed a W val dec D L H bs pa hm hok hF I (.inr (.inl Z))
  | alt i k r q _ _=>exact λlisted a W val dec D L H bs pa hm hok hF I=>one_step _ listed a W val dec D L H bs pa hm hok hF I (.inr (.inr ⟨_,_,_,_,Z⟩))
  | light i r ihr =>
   intro listed a W val dec D L H bs pa hm hok hF I;simp only [okT,Al_Bool_and_eq_true,Al_decide_eq_true_eq,Al_Bool_not_eq_true'] at hok;obtain ⟨⟨⟨⟨_,hi⟩,hiD⟩,hwt⟩,hok'⟩:=hok;unfold fillT FlowT at hF;obtain ⟨v,hy,hN,hF'⟩:=hF;exact ihr listed a W _ _ _ _ H bs _ hm hok' hF' (I.decideE F hi (hop i hi) hiD hwt hy hN)
theorem flowTE {id:Nat} {l:List Oper} {p:PlT} {Q:Exit->Act->World->Prop} {L:Sl} {H:Hp} {bs:List Res} (n:Nat) (p0:Pi0) (hm:P.follows .mixedOrders=true) (hB:(parE l.toArray n && okT l.toArray n [] [] p0)=true) (ht:fillT l p0=p)
 (h:FlowT dfs P l.toArray n w0 N (λL H bs=>At dfs N L H w0 bs (Q .normal)) p [] L H bs):At dfs N L H w0 bs ((Code.region id l.toArray true).wp P Q):=by
 simp only [Al_Bool_and_eq_true] at hB;obtain ⟨h1,h2⟩:=hB;have F:=FitE.of h1;have hlt:n=l.length:=by simpa using F.all
 subst ht;intro a W f s;refine wp_region_any hm ?_;have hsz:l.toArray.size=l.length:=by simp
 have hc0:∀ m,m<=n->cnt (st (Array.replicate l.toArray.size false)) m=m:=by
  intro m;induction m with
  | zero=>intro _;rfl
  | succ m ih =>
   intro hm;unfold cnt;rw [ih (by omega)]
   have:st (Array.replicate l.toArray.size false) m=false:=by
    have:m<l.length:=by omega
    simp [st,this]
   rw [this];simp
 have hfrm:∀ (val:Nat->Value) (m:Nat),frm l.toArray val (λ_=>false) m a=a:=λval m=>by
  induction m with
  | zero=>rfl
  | succ m ih=>unfold frm;simp [ih]
 have hall:∀ m,m<=n->∀ k,k<m->st (Array.replicate l.toArray.size false) k=false:=λm hm k hk=>by
  have:k<l.length:=by omega
  simp [st,this]
 have hh:HeadInv .any l.toArray n (Array.replicate l.toArray.size false):=by
  refine ⟨by simp,λj oj hj hl=>?_,λt ht ht'=>?_⟩
  ·exfalso
   rcases Al_Nat_lt_or_ge j l.length with h | h
   ·simp [h] at hl
   ·simp [h] at hl
  ·have:t<l.length:=by simpa using ht'
   simp [this]
 have key:=flowT_gameE (Q:=Q) (a0:=a) (l:=l) rfl F (λL H bs h=>h) n p0 (Array.replicate l.toArray.size false) a _ (λ_=>undef) (λ_=>false) [] L H bs [] (hc0 n (Al_Nat_le_refl _)) h2 h
  ⟨hh,?_,by rw [hfrm];exact f,?_,s.more ((Ext.refl W).drew),λ_ _ _ _ h=>(by cases h),λ_ _ _ _ h=>(by cases h),λ_=>rfl,λ_ _ _ _ h=>(by cases h)⟩
 ·have:n+(l.toArray.size - n)=l.toArray.size:=by rw [hsz];omega
  rw [this] at key;exact key
 ·rw [frm_congr (λ_=>undef) (λ_=>undef) _ (λ_=>false) a n (λk hk=>⟨hall n (Al_Nat_le_refl _) k hk,λ_=>rfl⟩),hfrm]
 ·intro i hi hs;rw [hall n (Al_Nat_le_refl _) i hi] at hs;cases hs
end
section
variable {dfs:List Deferred} {P:Program} {n:Nat} {L:Sl} {H:Hp} {w0:World} {bs:List Res} {Q:Exit->Act->World->Prop} {ops:Array Oper} {rest:List Oper} {K:Act->World->Prop}
variable {d:Option Tmp} {ty:TypeId} {pos:String} {aft:Array Edge} {v:Value} {t:Tmp} {x y:Operand} {T:TypeId}
theorem storeR {g off k c size:Nat} {e:TypeId} {xs vs:List Value} {bs':List Res} (hp:ev L x=some (.pointer (some ⟨g,off,none⟩))) (hv:ev L y=some (.agg vs.toArray)) (hT:sizeN P T=some vs.length) (h1:∀ u∈vs,u.oneCell'=true)
 (hm:Upd bs (.row e size (.slice (some ⟨g,0,none⟩) k c) k xs) (.row e size (.slice (some ⟨g,0,none⟩) k c) k (setsL xs off vs)) bs') (ho:off+vs.length<=xs.length) (h:At dfs n L H w0 bs' K) :
 At dfs n L H w0 bs (one P ops Q ⟨none,.store T x y,ty,pos,aft,none⟩ K):=by
 intro a W f s;have ho1:W.ownsRow w0.heap.size e size (.slice (some ⟨g,0,none⟩) k c) k xs:=(s.own _ hm.mem).1;rcases ho1.2 with ⟨hr,_⟩ | ⟨g',cap,cur,hr,hbg,hgc,hnc,hcm,hcs,htake⟩
 ·cases hr
 ·injection hr with e1 _ e3
  injection e1 with e1
  injection e1 with e1
  subst e1 e3;obtain ⟨more,hmo⟩:∃ more,more=cur.toList.drop (k * size):=⟨_,Z⟩;have hcur:cur.toList=xs++more:=by rw [hmo,<-htake,Al_List_take_append_drop]
  have hcur2:cur=(xs++more).toArray:=by rw [<-hcur]
  obtain ⟨b1,u1,u2⟩:=hm.mid (.box g (xs++more) e);obtain ⟨b2,u3,u4⟩:=u2.mid (.box g (setsL (xs++more) off vs) e);have s1:St H w0 b1 W:=s.put1 u1 ⟨hbg,by rw [hgc,<-hcur2]⟩ (λb e=>e);refine stores hp hv hT rfl h1 u3 (by rw [Al_List_length_append];omega) ?_ a W f s1;intro a W f s2;have ob:=(s2.own _ u4.mem).1;have e4:setsL (xs++more) off vs=setsL xs off vs++more:=setsL_app vs xs more off ho;have hz:xs.length=k * size:=ho1.1;refine h a W f (s2.put1 u4 ⟨by rw [setsL_len];exact hz,.inr ⟨g,c,(setsL (xs++more) off vs).toArray,Z,ob.1,ob.2,hnc,hcm,?_,?_⟩⟩ (λb e=>e))
  ·rw [List.size_toArray,setsL_len,<-hcur];simpa using hcs
  ·rw [e4];show List.take (k * size) (setsL xs off vs++more)=setsL xs off vs;rw [List.take_append_of_le_length (by rw [setsL_len];omega),Al_List_take_of_length_le (by rw [setsL_len];omega)]
variable {N hn i kk:Nat} {pa:List (Nat × Oper × Value)} {E:Sl->Hp->List Res->Prop} {q:PlT} {bs':List Res}
theorem AltT.sR {g off k c size:Nat} {e:TypeId} {xs vs:List Value} (hp:ev L x=some (.pointer (some ⟨g,off,none⟩))) (hv:ev L y=some (.agg vs.toArray)) (hT:sizeN P T=some vs.length) (h1:∀ u∈vs,u.oneCell'=true)
 (hm:Upd bs (.row e size (.slice (some ⟨g,0,none⟩) k c) k xs) (.row e size (.slice (some ⟨g,0,none⟩) k c) k (setsL xs off vs)) bs') (ho:off+vs.length<=xs.length)
 (hr:RedoP dfs P ops hn w0 N L H bs' i pa) (h:FlowT dfs P ops hn w0 N E q pa L H bs'):AltT dfs P ops hn w0 N E i kk ⟨none,.store T x y,ty,pos,aft,none⟩ q pa L H bs :=
 ⟨λ_ e=>(by cases e),storeR hp hv hT h1 hm ho (AltT.into0 hr h)⟩
theorem AltT.st {b off:Nat} {l l':List Value} {t':TypeId} (hm:Upd bs (.box b l t') (.box b l' t') bs') (hp:ev L x=some (.pointer (some ⟨b,off,none⟩))) (hv:ev L y=some v) (hT:sizeN P T=some 1) (h1:v.oneCell'=true) (ho:off<l.length) (hl:l.set off v=l')
 (hr:RedoP dfs P ops hn w0 N L H bs' i pa) (h:FlowT dfs P ops hn w0 N E q pa L H bs'):AltT dfs P ops hn w0 N E i kk ⟨none,.store T x y,ty,pos,aft,none⟩ q pa L H bs :=
 ⟨λ_ e=>(by cases e),store hp hv hT h1 hm ho hl (AltT.into0 hr h)⟩
theorem AltT.apE {e:TypeId} {size bytes m c k:Nat} {p:Option Addr} {r:Value} {xs:List Value} {ds:List D} {bs':List Value->Value->List Res} (hT:rowN P T=some (e,size,bytes)) (hx:ev L x=some r)
 (hm:∀ news r',Upd bs (.row e size r k xs) (.row e size r' (k+m) (xs++news)) (bs' news r')) (hy:ev L y=some (.slice p m c)) (hr:Rep H (.seq size ds) [.slice p m c]) (hpos:0<k+m)
 (h63:k+m<=maxLen) (hb:(k+m) * bytes<=140737488355328) (ht:Nat.blt t N=true)
 (hr2:∀ news r',RedoP dfs P ops hn w0 N L H (bs' news r') i pa) (h:∀ news g c,RepZ H size ds news->FlowT dfs P ops hn w0 N E q pa ((t,.slice (some ⟨g,0,none⟩) (k+m) c)::L) H (bs' news (.slice (some ⟨g,0,none⟩) (k+m) c))) :
 AltT dfs P ops hn w0 N E i 2 ⟨some t,.call ⟨.builtin .append,#[x,y],#[T,T]⟩,ty,pos,aft,none⟩ q pa L H bs :=
 ⟨blt_of ht,appendD hT hx hm hy hr h63 hb ht λnews r' hz=>At.rs (hm news r').new hpos λg c e=>by subst e;exact AltT.into (.inr<|.inr<|hr2 _ _) (h news g c hz)⟩
theorem FlowT.fe {Q:Exit->Act->World->Prop} (h:At dfs N L H w0 bs (Q .normal)):FlowT dfs P ops hn w0 N (λL H bs=>At dfs N L H w0 bs (Q .normal)) .done pa L H bs:=h
theorem At.fx {id:Nat} {l:List Oper} {p:PlT} (nn:Nat) (p0:Pi0) (hm:P.follows .mixedOrders=true) (hB:(parE l.toArray nn && okT l.toArray nn [] [] p0)=true) (ht:fillT l p0=p)
 (h:FlowT dfs P l.toArray nn w0 n (λL H bs=>At dfs n L H w0 bs (Q .normal)) p [] L H bs):At dfs n L H w0 bs ((Code.region id l.toArray true).wp P Q):=flowTE nn p0 hm hB ht h
end
section
variable {P:Program} {L:Sl} {H:Hp} {w0:World} {bs:List Res} {d:Option Tmp} {ty:TypeId} {pos:String} {aft:Array Edge} {g:Option (Nat × Bool)} {x:Operand} {T:TypeId}
theorem Yl.neg {k:IntKind} {i c:Int} (hx:ev L x=some (.int k i)) (hw:k.wrap (0 - i)=c):Yl P L H w0 bs ⟨d,.unOp .neg T x,ty,pos,aft,g⟩ (.int k c):=.of_run λa W f _=>by
 subst hw;unfold execOp;simp [f x _ hx,Op.unary,Op.intArith]
end
section
variable {dfs:List Deferred} {n:Nat} {L:Sl} {H:Hp} {w0:World} {bs:List Res}
end
variable {t:TypeId}
theorem HUp.put {H1:Hp} {b:Nat} {arr:Array Value} (u:HUp w0 H H1) (hb:H b=none) (hw:w0.heap.size<=b):HUp w0 H (putH H1 b (.cells arr t (0,0))):=by
 refine ⟨⟨λc o e=>?_,u.up.lo⟩,λc e hc=>?_,λc o e h0=>?_⟩
 ·have:c≠b:=λh=>by subst h;rw [hb] at e;cases e
  rw [putH_ne this];exact u.up c o e
 ·rw [putH_ne (by omega)];exact u.new c e hc
 ·by_cases h:c=b
  ·subst h;rw [putH_at] at e;cases e;exact ⟨_,_,Z⟩
  ·rw [putH_ne h] at e;exact u.mark c o e h0
theorem HUp.cells {H1:Hp} {b:Nat} {arr:Array Value} {m:Nat × Nat} (u:HUp w0 H H1) (hb:H b=none) (h:H1 b=some (.cells arr t m)):H1 b=some (.cells arr t (0,0)):=by
 obtain ⟨arr',t',e⟩:=u.mark b _ h hb;cases e;exact h
def Hp.at (H:Hp) (n:Nat):Hp:=⟨H.get,n⟩
section
variable {P:Program}
end
section
variable {dfs:List Deferred} {P:Program} {n:Nat} {L:Sl} {H:Hp} {w0:World} {bs:List Res} {Q:Exit->Act->World->Prop} {ops:Array Oper} {rest:List Oper} {K:Act->World->Prop}
variable {ty:TypeId} {pos:String} {aft:Array Edge} {t:Tmp} {x y:Operand} {T:TypeId}
end
section
variable {P:Program} {H:Hp} {w0 W:World} {bs:List Res}
end
section
variable {dfs:List Deferred} {P:Program} {n N hn i:Nat} {L:Sl} {H:Hp} {w0:World} {bs:List Res} {Q:Exit->Act->World->Prop} {ops:Array Oper} {rest:List Oper} {K:Act->World->Prop}
variable {ty:TypeId} {pos:String} {aft:Array Edge} {t:Tmp} {x y:Operand} {T:TypeId} {pa:List (Nat × Oper × Value)} {E:Sl->Hp->List Res->Prop} {fr:List (Nat × Nat × Oper)}
end
section
variable {dfs:List Deferred} {P:Program} {n:Nat} {L:Sl} {H:Hp} {w0:World} {bs:List Res} {Q:Exit->Act->World->Prop} {ops:Array Oper} {rest:List Oper} {K:Act->World->Prop}
variable {d:Option Tmp} {ty:TypeId} {pos:String} {aft:Array Edge} {v:Value} {t:Tmp} {x y:Operand} {T:TypeId}
theorem At.rcut {e:TypeId} {size k m g c:Nat} {xs ys:List Value} {bs':List Res} {G:Act->World->Prop} (hm:Upd bs (.row e size (.slice (some ⟨g,0,none⟩) k c) k xs) (.row e size (.slice (some ⟨g,0,none⟩) m c) m ys) bs') (hk:m<=k) (hy:ys=xs.take (m * size)) (h:At dfs n L H w0 bs' G):At dfs n L H w0 bs G:=λa W f s=>by
 have ho:W.ownsRow w0.heap.size e size (.slice (some ⟨g,0,none⟩) k c) k xs:=(s.own _ hm.mem).1;rcases ho.2 with ⟨hr,_⟩ | ⟨g',cap,cur,hr,hbg,hgc,hnc,hcm,hcs,htake⟩
 ·cases hr
 ·injection hr with e1 _ e3
  injection e1 with e1
  injection e1 with e1
  subst e1 e3;have hms:m * size<=k * size:=Al_Nat_mul_le_mul_right size hk;have hl:=ho.1;refine h a W f (s.put1 hm ⟨?_,.inr ⟨g,c,cur,Z,hbg,hgc,by omega,hcm,hcs,?_⟩⟩ (λb e=>e))
  ·rw [hy,Al_List_length_take];omega
  ·rw [hy,<-htake,List.take_take,Al_Nat_min_eq_left hms]
theorem storeR1 {g off k c size:Nat} {e:TypeId} {xs:List Value} {v:Value} {bs':List Res} (hp:ev L x=some (.pointer (some ⟨g,off,none⟩))) (hv:ev L y=some v) (hT:sizeN P T=some 1) (h1:v.oneCell'=true)
 (hm:Upd bs (.row e size (.slice (some ⟨g,0,none⟩) k c) k xs) (.row e size (.slice (some ⟨g,0,none⟩) k c) k (xs.set off v)) bs') (ho:off<xs.length) (h:At dfs n L H w0 bs' K) :
 At dfs n L H w0 bs (one P ops Q ⟨none,.store T x y,ty,pos,aft,none⟩ K):=by
 intro a W f s;have ho1:W.ownsRow w0.heap.size e size (.slice (some ⟨g,0,none⟩) k c) k xs:=(s.own _ hm.mem).1;rcases ho1.2 with ⟨hr,_⟩ | ⟨g',cap,cur,hr,hbg,hgc,hnc,hcm,hcs,htake⟩
 ·cases hr
 ·injection hr with e1 _ e3
  injection e1 with e1
  injection e1 with e1
  subst e1 e3;obtain ⟨more,hmo⟩:∃ more,more=cur.toList.drop (k * size):=⟨_,Z⟩;have hcur:cur.toList=xs++more:=by rw [hmo,<-htake,Al_List_take_append_drop]
  have hcur2:cur=(xs++more).toArray:=by rw [<-hcur]
  obtain ⟨b1,u1,u2⟩:=hm.mid (.box g (xs++more) e);obtain ⟨b2,u3,u4⟩:=u2.mid (.box g ((xs++more).set off v) e);have s1:St H w0 b1 W:=s.put1 u1 ⟨hbg,by rw [hgc,<-hcur2]⟩ (λb e=>e);refine store hp hv hT h1 u3 (by rw [Al_List_length_append];omega) rfl ?_ a W f s1;intro a W f s2;have ob:=(s2.own _ u4.mem).1;have e4:(xs++more).set off v=xs.set off v++more:=List.set_append_left off v ho;have hz:xs.length=k * size:=ho1.1;refine h a W f (s2.put1 u4 ⟨by rw [List.length_set];exact hz,.inr ⟨g,c,((xs++more).set off v).toArray,Z,ob.1,ob.2,hnc,hcm,?_,?_⟩⟩ (λb e=>e))
  ·rw [List.size_toArray,List.length_set,<-hcur];simpa using hcs
  ·rw [e4];show List.take (k * size) (xs.set off v++more)=xs.set off v;rw [List.take_append_of_le_length (by rw [List.length_set];omega),Al_List_take_of_length_le (by rw [List.length_set];omega)]
theorem At.s1R {g off k c size:Nat} {e:TypeId} {xs:List Value} {v:Value} {bs':List Res} (hp:ev L x=some (.pointer (some ⟨g,off,none⟩))) (hv:ev L y=some v) (hT:sizeN P T=some 1) (h1:v.oneCell'=true)
 (hm:Upd bs (.row e size (.slice (some ⟨g,0,none⟩) k c) k xs) (.row e size (.slice (some ⟨g,0,none⟩) k c) k (xs.set off v)) bs') (ho:off<xs.length) (h:At dfs n L H w0 bs' (wpList P ops Q rest)) :
 At dfs n L H w0 bs (wpList P ops Q (⟨none,.store T x y,ty,pos,aft,none⟩::rest)):=cons (storeR1 hp hv hT h1 hm ho h)
end
end Go.Sx
namespace Go.Proofs.YtidclioghdbphaaGreatDoor
open Go.RowKit Go.Par Go.Sx Tryz
theorem Fx.agg32:aggN prg 32=some none:=by kernel_rfl
theorem Fx.agg76:aggN prg 76=some (some 4):=by kernel_rfl
theorem Fx.call73:callN prg 73=true:=by kernel_rfl
theorem Fx.field76_3:fieldN prg 76 3=some 3:=by kernel_rfl
theorem Fx.sl32:slN prg 32=some 4:=by kernel_rfl
theorem exprDepth_any (e:Ex):∀ (H:Hp) (cs:List Value) (w:World),Rep H (dEx .u8 e) cs->e.depth<=1000000->Agr H w ->
 Calls prg 73 #[.agg cs.toArray] w λr w'=>r=.returned (iN e.depth)/\Ext w w':=by
 induction e using Ex.ind with | _ op nm nn args ih
 intro H cs w h he hA;rw [depth_mk] at he;obtain ⟨p,c,rfl,hs,hnm⟩:=ex_open h;have hcap:=hs.cap;refine Sx.enter (H:=H) func73 rfl ntmps73 rfl hA ?_;refine .sr<|.bx Z Z Z λb1=>.a Z Z<|.ns<|.aq Z<|.sq<|.sr<|.fA Z Fx.field76_3<|.lD Z Fx.agg32 Hm Z<|.yw (.lenSl Fx.sl32 Z)<|.mv Z<|.nt<|.bk<|.lp (X:=Nat) [(1,_),(7,_)] ⟨Z,Z,Jt⟩ [_] (λk=>[(3,iN (Ex.deeps (args.take k))),(8,iN k)]) (λk=>H) (λk=>[]) (λk=>k<=args.length) (λk=>args.length - k) 0 (λ_ s=>s) ⟨Z,Z,Jt⟩ (by omega) λk hC=>?_
 refine .sr<|.yw (.lss Z Z)<|.nt<|.sq<|.ce Z (λh9=>?_) (λh9=>?_)
 ·have hk:k<args.length:=by omega
  obtain ⟨b5,o5,c5,hp5,r5,l5,m5⟩:=hs.elem (map_at hk);cases hp5;have h1:=deeps_take args k;have h2:=deeps_at hk;have h3:=deeps_succ hk;exact .sk<|.tN<|.sq<|.bk<|.sm Z<|.aq Z<|.rg<|.mv Z<|.fA Z Fx.field76_3<|.lD Z Fx.agg32 Hm Z<|.mv Z<|.yw (.indexSl Fx.sl32 Z Z Z (by omega) (q:=o5+k * 4) Z)<|.yw (.loadMW Z Fx.agg76 m5 l5)<|.yw (.call Fx.call73 Z (λW s=>ih _ (Al_List_getElem_mem hk) H c5 W r5 (by omega) s.agr))<|.yw (.max2 Z Z (c:=((Ex.deeps (args.take (k+1)):Nat):Int)) (by omega))<|.a Z Z<|.nl<|.bN<|.tN<|.rg<|.yw (.add Z Z w7)<|.mv Z<|.nt<|.ag (k+1) ⟨Z,Z,Jt⟩ ⟨Z,Z,Jt⟩ (λ_ s=>s) (by omega) (by omega)
 obtain rfl:k=args.length:=by omega
 rw [Al_List_take_length];refine .ex<|.eb<|.sm Z<|.yw (.add Z Z w7)<|.az Z<|?_
 exact y9 Z Z λW s=>⟨by rw [depth_mk];rfl,s.ext⟩
theorem Fx.agg235:aggN prg 235=some (some 39):=by kernel_rfl
theorem Fx.are235:arrE prg 235=true:=by kernel_rfl
theorem Fx.arr235:arrN prg 235=some (39,1):=by kernel_rfl
theorem Fx.call150:callN prg 150=true:=by kernel_rfl
theorem Fx.call153:callN prg 153=true:=by kernel_rfl
theorem Fx.call179:callN prg 179=true:=by kernel_rfl
theorem Fx.str9:isStr prg 9=true:=by kernel_rfl
theorem letter_any (c:UInt8) (w:World):Calls prg 150 #[byteV c] w λr w'=>r=.returned (.bool (letB c))/\Ext w w':=by
 refine y6 func150 Z ntmps150 Z ?_;refine .sr<|.a Z Z<|.ns<|.mv Z<|.yw (.geq Z Z)<|.mv Z<|.e2 (λh5=>?_) (λh5=>?_)
 ·refine .gy (.move Z)<|.gy (.leq Z Z)<|.yw (.pickT Z Z)<|.mv Z<|.e2 (λh9=>?_) (λh9=>?_)
  ·refine .gG<|.gG<|.gG<|.gV<|.gV<|.gG<|.yw (.pickT Z Z)<|.az Z<|?_
   exact y9 Z Z λW s=>⟨retB (by simp only [letB,Al_Bool_or_eq_true,Al_Bool_and_eq_true,Al_decide_eq_true_eq,reduceCtorEq,Al_true_iff,Al_false_iff,Al_iff_true,Al_iff_false,Al_beq_iff_eq,Al_Bool_true_eq_false,Al_Bool_false_eq_true];try omega),s.ext⟩
  refine .gy (.move Z)<|.gy (.geq Z Z)<|.gy (.move Z)<|.b2 (λh12=>?_) (λh12=>?_)
  ·try simp only [dt] at h12
   refine .gy (.move Z)<|.gy (.leq Z Z)<|.gy (.pickT Z Z)<|.yw (.pickF Z Z)<|.az Z<|?_
   exact y9 Z Z λW s=>⟨retB (by simp only [letB,Al_Bool_or_eq_true,Al_Bool_and_eq_true,Al_decide_eq_true_eq,reduceCtorEq,Al_true_iff,Al_false_iff,Al_iff_true,Al_iff_false,Al_beq_iff_eq,Al_Bool_true_eq_false,Al_Bool_false_eq_true];try omega),s.ext⟩
  try simp only [df] at h12
  refine .gG<|.gG<|.gy (.pickF Z Z)<|.yw (.pickF Z Z)<|.az Z<|?_
  exact y9 Z Z λW s=>⟨retB (by simp only [letB,Al_Bool_or_eq_true,Al_Bool_and_eq_true,Al_decide_eq_true_eq,reduceCtorEq,Al_true_iff,Al_false_iff,Al_iff_true,Al_iff_false,Al_beq_iff_eq,Al_Bool_true_eq_false,Al_Bool_false_eq_true];try omega),s.ext⟩
 refine .gG<|.gG<|.yw (.pickF Z Z)<|.mv Z<|.gy (.move Z)<|.gy (.geq Z Z)<|.gy (.move Z)<|.b2 (λh12=>?_) (λh12=>?_)
 ·try simp only [dt] at h12
  refine .gy (.move Z)<|.gy (.leq Z Z)<|.gy (.pickT Z Z)<|.yw (.pickF Z Z)<|.az Z<|?_
  exact y9 Z Z λW s=>⟨retB (by simp only [letB,Al_Bool_or_eq_true,Al_Bool_and_eq_true,Al_decide_eq_true_eq,reduceCtorEq,Al_true_iff,Al_false_iff,Al_iff_true,Al_iff_false,Al_beq_iff_eq,Al_Bool_true_eq_false,Al_Bool_false_eq_true];try omega),s.ext⟩
 try simp only [df] at h12
 refine .gG<|.gG<|.gy (.pickF Z Z)<|.yw (.pickF Z Z)<|.az Z<|?_
 exact y9 Z Z λW s=>⟨retB (by simp only [letB,Al_Bool_or_eq_true,Al_Bool_and_eq_true,Al_decide_eq_true_eq,reduceCtorEq,Al_true_iff,Al_false_iff,Al_iff_true,Al_iff_false,Al_beq_iff_eq,Al_Bool_true_eq_false,Al_Bool_false_eq_true];try omega),s.ext⟩
theorem digit_any (c:UInt8) (w:World):Calls prg 153 #[byteV c] w λr w'=>r=.returned (.bool (digB c))/\Ext w w':=by
 refine y6 func153 Z ntmps153 Z ?_;refine .sr<|.a Z Z<|.ns<|.mv Z<|.yw (.geq Z Z)<|.mv Z<|.e2 (λh5=>?_) (λh5=>?_)
 ·refine .gy (.move Z)<|.gy (.leq Z Z)<|.yw (.pickT Z Z)<|.az Z<|?_
  exact y9 Z Z λW s=>⟨retB (by simp only [digB,Al_Bool_or_eq_true,Al_Bool_and_eq_true,Al_decide_eq_true_eq,reduceCtorEq,Al_true_iff,Al_false_iff,Al_iff_true,Al_iff_false,Al_beq_iff_eq,Al_Bool_true_eq_false,Al_Bool_false_eq_true];try omega),s.ext⟩
 refine .gG<|.gG<|.yw (.pickF Z Z)<|.az Z<|?_
 exact y9 Z Z λW s=>⟨retB (by simp only [digB,Al_Bool_or_eq_true,Al_Bool_and_eq_true,Al_decide_eq_true_eq,reduceCtorEq,Al_true_iff,Al_false_iff,Al_iff_true,Al_iff_false,Al_beq_iff_eq,Al_Bool_true_eq_false,Al_Bool_false_eq_true];try omega),s.ext⟩
theorem rletter_any (c:UInt8) (w:World):Calls prg 124 #[byteV c] w λr w'=>r=.returned (.bool (letB c))/\Ext w w':=by
 refine y6 func124 Z ntmps124 Z ?_;refine .sr<|.a Z Z<|.ns<|.mv Z<|.yw (.geq Z Z)<|.mv Z<|.e2 (λh5=>?_) (λh5=>?_)
 ·refine .gy (.move Z)<|.gy (.leq Z Z)<|.yw (.pickT Z Z)<|.mv Z<|.e2 (λh9=>?_) (λh9=>?_)
  ·refine .gG<|.gG<|.gG<|.gV<|.gV<|.gG<|.yw (.pickT Z Z)<|.az Z<|?_
   exact y9 Z Z λW s=>⟨retB (by simp only [letB,Al_Bool_or_eq_true,Al_Bool_and_eq_true,Al_decide_eq_true_eq,reduceCtorEq,Al_true_iff,Al_false_iff,Al_iff_true,Al_iff_false,Al_beq_iff_eq,Al_Bool_true_eq_false,Al_Bool_false_eq_true];try omega),s.ext⟩
  refine .gy (.move Z)<|.gy (.geq Z Z)<|.gy (.move Z)<|.b2 (λh12=>?_) (λh12=>?_)
  ·try simp only [dt] at h12
   refine .gy (.move Z)<|.gy (.leq Z Z)<|.gy (.pickT Z Z)<|.yw (.pickF Z Z)<|.az Z<|?_
   exact y9 Z Z λW s=>⟨retB (by simp only [letB,Al_Bool_or_eq_true,Al_Bool_and_eq_true,Al_decide_eq_true_eq,reduceCtorEq,Al_true_iff,Al_false_iff,Al_iff_true,Al_iff_false,Al_beq_iff_eq,Al_Bool_true_eq_false,Al_Bool_false_eq_true];try omega),s.ext⟩
  try simp only [df] at h12
  refine .gG<|.gG<|.gy (.pickF Z Z)<|.yw (.pickF Z Z)<|.az Z<|?_
  exact y9 Z Z λW s=>⟨retB (by simp only [letB,Al_Bool_or_eq_true,Al_Bool_and_eq_true,Al_decide_eq_true_eq,reduceCtorEq,Al_true_iff,Al_false_iff,Al_iff_true,Al_iff_false,Al_beq_iff_eq,Al_Bool_true_eq_false,Al_Bool_false_eq_true];try omega),s.ext⟩
 refine .gG<|.gG<|.yw (.pickF Z Z)<|.mv Z<|.gy (.move Z)<|.gy (.geq Z Z)<|.gy (.move Z)<|.b2 (λh12=>?_) (λh12=>?_)
 ·try simp only [dt] at h12
  refine .gy (.move Z)<|.gy (.leq Z Z)<|.gy (.pickT Z Z)<|.yw (.pickF Z Z)<|.az Z<|?_
  exact y9 Z Z λW s=>⟨retB (by simp only [letB,Al_Bool_or_eq_true,Al_Bool_and_eq_true,Al_decide_eq_true_eq,reduceCtorEq,Al_true_iff,Al_false_iff,Al_iff_true,Al_iff_false,Al_beq_iff_eq,Al_Bool_true_eq_false,Al_Bool_false_eq_true];try omega),s.ext⟩
 try simp only [df] at h12
 refine .gG<|.gG<|.gy (.pickF Z Z)<|.yw (.pickF Z Z)<|.az Z<|?_
 exact y9 Z Z λW s=>⟨retB (by simp only [letB,Al_Bool_or_eq_true,Al_Bool_and_eq_true,Al_decide_eq_true_eq,reduceCtorEq,Al_true_iff,Al_false_iff,Al_iff_true,Al_iff_false,Al_beq_iff_eq,Al_Bool_true_eq_false,Al_Bool_false_eq_true];try omega),s.ext⟩
theorem rdigit_any (c:UInt8) (w:World):Calls prg 125 #[byteV c] w λr w'=>r=.returned (.bool (digB c))/\Ext w w':=by
 refine y6 func125 Z ntmps125 Z ?_;refine .sr<|.a Z Z<|.ns<|.mv Z<|.yw (.geq Z Z)<|.mv Z<|.e2 (λh5=>?_) (λh5=>?_)
 ·refine .gy (.move Z)<|.gy (.leq Z Z)<|.yw (.pickT Z Z)<|.az Z<|?_
  exact y9 Z Z λW s=>⟨retB (by simp only [digB,Al_Bool_or_eq_true,Al_Bool_and_eq_true,Al_decide_eq_true_eq,reduceCtorEq,Al_true_iff,Al_false_iff,Al_iff_true,Al_iff_false,Al_beq_iff_eq,Al_Bool_true_eq_false,Al_Bool_false_eq_true];try omega),s.ext⟩
 refine .gG<|.gG<|.yw (.pickF Z Z)<|.az Z<|?_
 exact y9 Z Z λW s=>⟨retB (by simp only [digB,Al_Bool_or_eq_true,Al_Bool_and_eq_true,Al_decide_eq_true_eq,reduceCtorEq,Al_true_iff,Al_false_iff,Al_iff_true,Al_iff_false,Al_beq_iff_eq,Al_Bool_true_eq_false,Al_Bool_false_eq_true];try omega),s.ext⟩
theorem inside_any (c:UInt8) (w:World):Calls prg 151 #[byteV c] w λr w'=>r=.returned (.bool (insB c))/\Ext w w':=by
 refine y6 func151 Z ntmps151 Z ?_;refine .sr<|.a Z Z<|.ns<|.mv Z<|.yw (.call Fx.call150 Z (λW s=>letter_any c W))<|.mv Z<|.b2 (λh5=>?_) (λh5=>?_)
 ·refine .gG<|.gG<|.yw (.pickT Z Z)<|.mv Z<|.gG<|.gG<|.yw (.pickT Z Z)<|.az Z<|?_
  exact y9 Z Z λW s=>⟨retB (by simp_all [insB];try omega),s.ext⟩
 refine .gy (.move Z)<|.gy (.call Fx.call153 Z (λW s=>digit_any c W))<|.yw (.pickF Z Z)<|.mv Z<|.b2 (λh9=>?_) (λh9=>?_)
 ·refine .gG<|.gG<|.yw (.pickT Z Z)<|.az Z<|?_
  exact y9 Z Z λW s=>⟨retB (by simp_all [insB];try omega),s.ext⟩
 refine .gy (.move Z)<|.gy (.eql Z Z)<|.yw (.pickF Z Z)<|.az Z<|?_
 exact y9 Z Z λW s=>⟨retB (by simp_all [insB];try omega),s.ext⟩
theorem prefix_any (gf:FuncId) (q:UInt8->Bool) (hf:callN prg gf=true) (hg:∀ b w,Calls prg gf #[byteV b] w λr w'=>r=.returned (.bool (q b))/\Ext w w') (l:Str) (hl:l.length<=9223372036854775807) (w:World) :
 Calls prg 146 #[strV l,.func (.func gf) #[] #[]] w λr w'=>r=.returned (iN (pre q l))/\Ext w w':=by
 refine y6 func146 Z ntmps146 Z ?_;refine .sr<|.a Z Z<|.ns<|.aq Z<|.sq<|.bk<|.lp (X:=Nat) [(0,_),(1,_)] ⟨Z,Z,Jt⟩ [] (λk=>[(5,iN k)]) (λk=>(⟨λ_=>none,0⟩:Hp)) (λk=>[]) (λk=>k<=pre q l) (λk=>l.length - k) 0 (λ_ s=>s) ⟨Z,Jt⟩ (by omega) λk hC=>?_
 have hp:=pre_le q l;refine .sq<|.sm Z<|.mv Z<|.yw (.lenS Fx.str9 Z)<|.yw (.lss Z Z)<|.mv Z<|.e2 (λh10=>?_) (λh10=>?_)
 ·have hk:k<l.length:=by omega
  refine .gy (.move Z)<|.gy (.move Z)<|.gy (.move Z)<|.gy (.idxS Fx.str9 Z Z Z (List.getElem?_eq_getElem hk))<|.gy (.callV (fi:=[]) (ca:=[]) Z hf Z (λW s=>hg _ W))<|.yw (.pickT Z Z)<|.nt<|.cd Z (λh16=>?_) (λh16=>?_)
  ·exact .sk<|.tN<|.bk<|.rg<|.mv Z<|.yw (.add Z Z w7)<|.a Z Z<|.nl<|.bN<|.tN<|.ag (k+1) ⟨Z,Jt⟩ ⟨Z,Z,Jt⟩ (λ_ s=>s) (pre_step hk hC (by simpa using h16)) (by omega)
  refine .ex<|.eb<|.sm Z<|.az Z<|?_
  first
   | exact y9 Z Z λW s=>⟨by rw [show k=pre q l by omega],s.ext⟩
   | exact y9 Z Z λW s=>⟨by rw [pre_stop hk hC (by simpa using h16)],s.ext⟩
 refine .gG<|.gG<|.gG<|.gG<|.gG<|.yw (.pickF Z Z)<|.nt<|.cF Z<|.ex<|.eb<|.sm Z<|.az Z<|?_
 first
  | exact y9 Z Z λW s=>⟨by rw [show k=pre q l by omega],s.ext⟩
  | exact y9 Z Z λW s=>⟨by rw [pre_stop hk hC (by simpa using h16)],s.ext⟩
theorem keyword_any (H:Hp) (G:Gl H) (l:Str) (w:World) (hA:Agr H w) :
 Calls prg 152 #[strV l] w λr w'=>r=.returned (.bool (words.contains l))/\Ext w w':=by
 refine Sx.enter (H:=H) func152 rfl ntmps152 rfl hA ?_;refine .sr<|.aq Z<|.sq<|.sr<|.yw (.loadMW Z Fx.agg235 G.words Z)<|.mv Z<|.nt<|.bk<|.lp (X:=Nat) [(0,_),(5,_)] ⟨Z,Z,Jt⟩ [] (λk=>[(6,iN k)]) (λk=>H) (λk=>[]) (λk=>k<=39/\∀ j,j<k->words.getD j []≠l) (λk=>39 - k) 0 (λ_ s=>s) ⟨Z,Jt⟩ ⟨by omega,λj hj=>by omega⟩ λk hC=>?_
 obtain ⟨hk,hne⟩:=hC;refine .sr<|.yw (.lss Z Z)<|.nt<|.sq<|.ce Z (λh7=>?_) (λh7=>?_)
 ·refine .sk<|.tN<|.sq<|.bk<|.sr<|.yw (.idxA Fx.arr235 Fx.are235 Z Z Z (by omega) (list_at (by show k<39;omega) []))<|.a Z Z<|.ns<|.mv Z<|.mv Z<|.yw (.eqS Z Z)<|.nt<|.ce Z (λh11=>?_) (λh11=>?_)
  ·have hmem:l∈words:=by
    rw [<-h11,getD_at (show k<words.length by show k<39;omega)];exact Al_List_getElem_mem _
   refine .sr<|.az Z<|.bR<|.tR<|.tR<|.bR<|.tR<|?_
   exact y9 Z Z λW s=>⟨retB (by simp [Al_List_contains_iff_mem, *]),s.ext⟩
  exact .sk<|.bN<|.tN<|.rg<|.yw (.add Z Z w7)<|.mv Z<|.nt<|.ag (k+1) ⟨Z,Jt⟩ ⟨Z,Z,Jt⟩ (λ_ s=>s) ⟨by omega,λj hj=>by
   by_cases e:j=k
   ·subst e;exact h11
   ·exact hne j (by omega)⟩ (by omega)
 have hno:l ∉ words:=λhm=>by
  obtain ⟨j,hj,e⟩:=Al_List_mem_iff_getElem.1 hm;have hj2:j<39:=hj;exact hne j (by omega) (by rw [getD_at hj];exact e)
 refine .ex<|.eb<|.sr<|.az Z<|?_
 exact y9 Z Z λW s=>⟨retB (by simp [Al_List_contains_iff_mem, *]),s.ext⟩
theorem hasPrefixL_any (l m:Str) (w:World):Calls prg 179 #[strV l,strV m] w λr w'=>r=.returned (.bool (hasP l m))/\Ext w w':=by
 refine y6 func179 Z ntmps179 Z ?_;refine .sr<|.a Z Z<|.ns<|.mv Z<|.yw (.lenS Fx.str9 Z)<|.mv Z<|.yw (.lenS Fx.str9 Z)<|.yw (.geq Z Z)<|.mv Z<|.e2 (λh10=>?_) (λh10=>?_)
 ·refine .gy (.move Z)<|.gy (.move Z)<|.gy (.lenS Fx.str9 Z)<|.gy (.takeS Fx.str9 Z Z Z (by omega))<|.gy (.move Z)<|.gy (.eqS Z Z)<|.yw (.pickT Z Z)<|.az Z<|?_
  exact y9 Z Z λW s=>⟨retB (by first | (simp only [hasP,Al_Bool_or_eq_true,Al_Bool_and_eq_true,Al_decide_eq_true_eq,reduceCtorEq,Al_true_iff,Al_false_iff,Al_iff_true,Al_iff_false,Al_beq_iff_eq,Al_Bool_true_eq_false,Al_Bool_false_eq_true];omega) | exact ⟨λe=>by simp only [hasP,Al_Bool_or_eq_true,Al_Bool_and_eq_true,Al_decide_eq_true_eq,reduceCtorEq,Al_true_iff,Al_false_iff,Al_iff_true,Al_iff_false,Al_beq_iff_eq,Al_Bool_true_eq_false,Al_Bool_false_eq_true] at e|-;exact ⟨by omega,e⟩,λe=>by simp only [hasP,Al_Bool_or_eq_true,Al_Bool_and_eq_true,Al_decide_eq_true_eq,reduceCtorEq,Al_true_iff,Al_false_iff,Al_iff_true,Al_iff_false,Al_beq_iff_eq,Al_Bool_true_eq_false,Al_Bool_false_eq_true] at e|-;exact e.2⟩),s.ext⟩
 refine .gG<|.gG<|.gG<|.gG<|.gG<|.gG<|.yw (.pickF Z Z)<|.az Z<|?_
 exact y9 Z Z λW s=>⟨retB (by first | (simp only [hasP,Al_Bool_or_eq_true,Al_Bool_and_eq_true,Al_decide_eq_true_eq,reduceCtorEq,Al_true_iff,Al_false_iff,Al_iff_true,Al_iff_false,Al_beq_iff_eq,Al_Bool_true_eq_false,Al_Bool_false_eq_true];omega) | exact ⟨λe=>by simp only [hasP,Al_Bool_or_eq_true,Al_Bool_and_eq_true,Al_decide_eq_true_eq,reduceCtorEq,Al_true_iff,Al_false_iff,Al_iff_true,Al_iff_false,Al_beq_iff_eq,Al_Bool_true_eq_false,Al_Bool_false_eq_true] at e|-;exact ⟨by omega,e⟩,λe=>by simp only [hasP,Al_Bool_or_eq_true,Al_Bool_and_eq_true,Al_decide_eq_true_eq,reduceCtorEq,Al_true_iff,Al_false_iff,Al_iff_true,Al_iff_false,Al_beq_iff_eq,Al_Bool_true_eq_false,Al_Bool_false_eq_true] at e|-;exact e.2⟩),s.ext⟩
theorem hasPrefix_any (l m:Str) (w:World):Calls prg 148 #[strV l,strV m] w λr w'=>r=.returned (.bool (hasP l m))/\Ext w w':=by
 refine y6 func148 Z ntmps148 Z ?_;refine .sr<|.a Z Z<|.ns<|.mv Z<|.mv Z<|.yw (.call Fx.call179 Z (λW s=>hasPrefixL_any l m W))<|.az Z<|?_
 exact y9 Z Z λW s=>⟨Z,s.ext⟩
theorem Fx.agg217:aggN prg 217=some (some 25):=by kernel_rfl
theorem Fx.are217:arrE prg 217=true:=by kernel_rfl
theorem Fx.arr217:arrN prg 217=some (25,1):=by kernel_rfl
theorem Fx.call97:callN prg 97=true:=by kernel_rfl
theorem Fx.call146:callN prg 146=true:=by kernel_rfl
theorem Fx.call148:callN prg 148=true:=by kernel_rfl
theorem Fx.call151:callN prg 151=true:=by kernel_rfl
theorem Fx.call152:callN prg 152=true:=by kernel_rfl
variable {k:Nat}
theorem sym_find {l:Str} (hk:k<25) (h0:∀ j,j<k->hasP l (symbols.getD j [])=false) (h1:hasP l (symbols.getD k [])=true):symbols.find? (λx=>x.isPrefixOf l)=some (symbols.getD k []):=by
 have hk':k<symbols.length:=hk;rw [getD_at hk'] at h1|-;rw [hasP_pre] at h1;refine List.find?_eq_some_iff_getElem.2 ⟨h1,k,hk',Z,λj hj=>?_⟩;have:=h0 j hj;rw [getD_at (by omega),hasP_pre] at this;simp [this]
theorem sym_none {l:Str} (h0:∀ j,j<25->hasP l (symbols.getD j [])=false):symbols.find? (λx=>x.isPrefixOf l)=none:=by
 rw [List.find?_eq_none];intro x hx;obtain ⟨j,hj,rfl⟩:=Al_List_mem_iff_getElem.1 hx;have:=h0 j hj;rw [getD_at hj,hasP_pre] at this;simp [this]
theorem read_any (H:Hp) (G:Gl H) (l:Str) (hl:l.length<=9223372036854775807) (h0:l≠[]) (w:World) (hA:Agr H w) :
 Calls prg 97 #[strV l] w λe w'=>e=.returned (.tuple #[.int .u8 ((readK l).1.toNat:Nat),iN ((readK l).2)])/\Ext w w':=by
 match l,h0 with
 | c::r,_ =>
 refine Sx.enter (H:=H) func97 rfl ntmps97 rfl hA ?_;refine .sr<|.a Z Z<|.aq Z<|.sq<|.sm Z<|.yw (.idxS Fx.str9 Z Z Z (b:=c) (j:=0) Z)<|.aq Z<|.bk<|.sm Z<|.yw (.call Fx.call150 Z (λW s=>letter_any c W))<|.aq Z<|.cd Z (λh21=>?_) (λh21=>?_)
 ·refine .sm Z<|.yw (.call Fx.call146 Z (λW s=>prefix_any 151 insB Fx.call151 inside_any (c::r) hl W))<|.aq Z<|.sq<|.sm Z<|.mv Z<|.yw (.takeS Fx.str9 Z Z Z (pre_le _ _))<|.yw (.call Fx.call152 Z (λW s=>keyword_any H G _ W s.agr))<|.nt<|.cd Z (λh29=>?_) (λh29=>?_)
  ·refine .sm Z<|.a Z Z<|.az Z<|.tR<|.bR<|.tR<|?_
   first
    | exact y7 Z (.cons (.tmp rfl) (.cons (.tmp rfl) .nil)) rfl λW s=>⟨by simp only [readK,Al_List_headD_cons,h21,h29,Al_if_true];rfl,s.ext⟩
    | exact y7 Z (.cons (.tmp rfl) (.cons (.tmp rfl) .nil)) rfl λW s=>⟨by simp only [readK,Al_List_headD_cons,h21,h29,Al_if_true,Al_Bool_false_eq_true,Al_if_false,show pre insB (c::r)<=12 by omega];rfl,s.ext⟩
    | exact y7 Z (.cons (.tmp rfl) (.cons (.tmp rfl) .nil)) rfl λW s=>⟨by simp only [readK,Al_List_headD_cons,h21,h29,Al_if_true,Al_Bool_false_eq_true,Al_if_false,show ¬ pre insB (c::r)<=12 by omega];rfl,s.ext⟩
    | exact y7 Z (.cons (.tmp rfl) (.cons (.tmp rfl) .nil)) rfl λW s=>⟨by simp only [readK,Al_List_headD_cons,h21,h34,Al_if_true,Al_Bool_false_eq_true,Al_if_false,hor];rfl,s.ext⟩
    | exact y7 Z (.cons (.tmp rfl) (.cons (.tmp rfl) .nil)) rfl λW s=>⟨by simp only [readK,Al_List_headD_cons,h21,h34,Al_Bool_false_eq_true,Al_if_false,hfind];rfl,s.ext⟩
  refine .sk<|.tN<|.sm Z<|.yw (.leq Z Z)<|.nt<|.ce Z (λh32=>?_) (λh32=>?_)
  ·refine .sm Z<|.a Z Z<|.az Z<|.bR<|.tR<|?_
   first
    | exact y7 Z (.cons (.tmp rfl) (.cons (.tmp rfl) .nil)) rfl λW s=>⟨by simp only [readK,Al_List_headD_cons,h21,h29,Al_if_true];rfl,s.ext⟩
    | exact y7 Z (.cons (.tmp rfl) (.cons (.tmp rfl) .nil)) rfl λW s=>⟨by simp only [readK,Al_List_headD_cons,h21,h29,Al_if_true,Al_Bool_false_eq_true,Al_if_false,show pre insB (c::r)<=12 by omega];rfl,s.ext⟩
    | exact y7 Z (.cons (.tmp rfl) (.cons (.tmp rfl) .nil)) rfl λW s=>⟨by simp only [readK,Al_List_headD_cons,h21,h29,Al_if_true,Al_Bool_false_eq_true,Al_if_false,show ¬ pre insB (c::r)<=12 by omega];rfl,s.ext⟩
    | exact y7 Z (.cons (.tmp rfl) (.cons (.tmp rfl) .nil)) rfl λW s=>⟨by simp only [readK,Al_List_headD_cons,h21,h34,Al_if_true,Al_Bool_false_eq_true,Al_if_false,hor];rfl,s.ext⟩
    | exact y7 Z (.cons (.tmp rfl) (.cons (.tmp rfl) .nil)) rfl λW s=>⟨by simp only [readK,Al_List_headD_cons,h21,h34,Al_Bool_false_eq_true,Al_if_false,hfind];rfl,s.ext⟩
  refine .sk<|.bN<|.tN<|.sm Z<|.yw (.lenS Fx.str9 Z)<|.a Z Z<|.az Z<|?_
  first
   | exact y7 Z (.cons (.tmp rfl) (.cons (.tmp rfl) .nil)) rfl λW s=>⟨by simp only [readK,Al_List_headD_cons,h21,h29,Al_if_true];rfl,s.ext⟩
   | exact y7 Z (.cons (.tmp rfl) (.cons (.tmp rfl) .nil)) rfl λW s=>⟨by simp only [readK,Al_List_headD_cons,h21,h29,Al_if_true,Al_Bool_false_eq_true,Al_if_false,show pre insB (c::r)<=12 by omega];rfl,s.ext⟩
   | exact y7 Z (.cons (.tmp rfl) (.cons (.tmp rfl) .nil)) rfl λW s=>⟨by simp only [readK,Al_List_headD_cons,h21,h29,Al_if_true,Al_Bool_false_eq_true,Al_if_false,show ¬ pre insB (c::r)<=12 by omega];rfl,s.ext⟩
   | exact y7 Z (.cons (.tmp rfl) (.cons (.tmp rfl) .nil)) rfl λW s=>⟨by simp only [readK,Al_List_headD_cons,h21,h34,Al_if_true,Al_Bool_false_eq_true,Al_if_false,hor];rfl,s.ext⟩
   | exact y7 Z (.cons (.tmp rfl) (.cons (.tmp rfl) .nil)) rfl λW s=>⟨by simp only [readK,Al_List_headD_cons,h21,h34,Al_Bool_false_eq_true,Al_if_false,hfind];rfl,s.ext⟩
 refine .sm Z<|.yw (.call Fx.call153 Z (λW s=>digit_any c W))<|.aq Z<|.cd Z (λh34=>?_) (λh34=>?_)
 ·refine .sm Z<|.yw (.call Fx.call146 Z (λW s=>prefix_any 153 digB Fx.call153 digit_any (c::r) hl W))<|.a Z Z<|.ns<|.mv Z<|.yw (.eql Z Z)<|.mv Z<|.e2 (λh41=>?_) (λh41=>?_)
  ·have hor:(pre digB (c::r)=1\/c≠48)=True:=eq_true (.inl (by omega));refine .gG<|.gG<|.yw (.pickT Z Z)<|.nt<|.cT Z<|.sm Z<|.a Z Z<|.az Z<|.bR<|.tR<|?_
   first
    | exact y7 Z (.cons (.tmp rfl) (.cons (.tmp rfl) .nil)) rfl λW s=>⟨by simp only [readK,Al_List_headD_cons,h21,h29,Al_if_true];rfl,s.ext⟩
    | exact y7 Z (.cons (.tmp rfl) (.cons (.tmp rfl) .nil)) rfl λW s=>⟨by simp only [readK,Al_List_headD_cons,h21,h29,Al_if_true,Al_Bool_false_eq_true,Al_if_false,show pre insB (c::r)<=12 by omega];rfl,s.ext⟩
    | exact y7 Z (.cons (.tmp rfl) (.cons (.tmp rfl) .nil)) rfl λW s=>⟨by simp only [readK,Al_List_headD_cons,h21,h29,Al_if_true,Al_Bool_false_eq_true,Al_if_false,show ¬ pre insB (c::r)<=12 by omega];rfl,s.ext⟩
    | exact y7 Z (.cons (.tmp rfl) (.cons (.tmp rfl) .nil)) rfl λW s=>⟨by simp only [readK,Al_List_headD_cons,h21,h34,Al_if_true,Al_Bool_false_eq_true,Al_if_false,hor];rfl,s.ext⟩
    | exact y7 Z (.cons (.tmp rfl) (.cons (.tmp rfl) .nil)) rfl λW s=>⟨by simp only [readK,Al_List_headD_cons,h21,h34,Al_Bool_false_eq_true,Al_if_false,hfind];rfl,s.ext⟩
  refine .gy (.move Z)<|.gy (.neq Z Z)<|.yw (.pickF Z Z)<|.nt<|.ce Z (λh44=>?_) (λh44=>?_)
  ·have hor:(pre digB (c::r)=1\/c≠48)=True:=eq_true (.inr λe=>h44 (by rw [e];rfl));refine .sm Z<|.a Z Z<|.az Z<|.bR<|.tR<|?_
   first
    | exact y7 Z (.cons (.tmp rfl) (.cons (.tmp rfl) .nil)) rfl λW s=>⟨by simp only [readK,Al_List_headD_cons,h21,h29,Al_if_true];rfl,s.ext⟩
    | exact y7 Z (.cons (.tmp rfl) (.cons (.tmp rfl) .nil)) rfl λW s=>⟨by simp only [readK,Al_List_headD_cons,h21,h29,Al_if_true,Al_Bool_false_eq_true,Al_if_false,show pre insB (c::r)<=12 by omega];rfl,s.ext⟩
    | exact y7 Z (.cons (.tmp rfl) (.cons (.tmp rfl) .nil)) rfl λW s=>⟨by simp only [readK,Al_List_headD_cons,h21,h29,Al_if_true,Al_Bool_false_eq_true,Al_if_false,show ¬ pre insB (c::r)<=12 by omega];rfl,s.ext⟩
    | exact y7 Z (.cons (.tmp rfl) (.cons (.tmp rfl) .nil)) rfl λW s=>⟨by simp only [readK,Al_List_headD_cons,h21,h34,Al_if_true,Al_Bool_false_eq_true,Al_if_false,hor];rfl,s.ext⟩
    | exact y7 Z (.cons (.tmp rfl) (.cons (.tmp rfl) .nil)) rfl λW s=>⟨by simp only [readK,Al_List_headD_cons,h21,h34,Al_Bool_false_eq_true,Al_if_false,hfind];rfl,s.ext⟩
  have hor:(pre digB (c::r)=1\/c≠48)=False:=eq_false λh=>by
   rcases h with h | h
   ·omega
   ·exact h (Al_UInt8_toNat_inj.1 (by show c.toNat=48;simp at h44;omega))
  refine .sk<|.bN<|.tN<|.sm Z<|.yw (.lenS Fx.str9 Z)<|.a Z Z<|.az Z<|?_
  first
   | exact y7 Z (.cons (.tmp rfl) (.cons (.tmp rfl) .nil)) rfl λW s=>⟨by simp only [readK,Al_List_headD_cons,h21,h29,Al_if_true];rfl,s.ext⟩
   | exact y7 Z (.cons (.tmp rfl) (.cons (.tmp rfl) .nil)) rfl λW s=>⟨by simp only [readK,Al_List_headD_cons,h21,h29,Al_if_true,Al_Bool_false_eq_true,Al_if_false,show pre insB (c::r)<=12 by omega];rfl,s.ext⟩
   | exact y7 Z (.cons (.tmp rfl) (.cons (.tmp rfl) .nil)) rfl λW s=>⟨by simp only [readK,Al_List_headD_cons,h21,h29,Al_if_true,Al_Bool_false_eq_true,Al_if_false,show ¬ pre insB (c::r)<=12 by omega];rfl,s.ext⟩
   | exact y7 Z (.cons (.tmp rfl) (.cons (.tmp rfl) .nil)) rfl λW s=>⟨by simp only [readK,Al_List_headD_cons,h21,h34,Al_if_true,Al_Bool_false_eq_true,Al_if_false,hor];rfl,s.ext⟩
   | exact y7 Z (.cons (.tmp rfl) (.cons (.tmp rfl) .nil)) rfl λW s=>⟨by simp only [readK,Al_List_headD_cons,h21,h34,Al_Bool_false_eq_true,Al_if_false,hfind];rfl,s.ext⟩
 refine .sr<|.yw (.loadMW Z Fx.agg217 G.symbols Z)<|.mv Z<|.nt<|.bk<|.lp (X:=Nat) [(0,_),(11,_)] ⟨Z,Z,Jt⟩ [] (λk=>[(12,iN k)]) (λk=>H) (λk=>[]) (λk=>k<=25/\∀ j,j<k->hasP (c::r) (symbols.getD j [])=false) (λk=>25 - k) 0 (λ_ s=>s) ⟨Z,Jt⟩ ⟨by omega,λj hj=>by omega⟩ λk hC=>?_
 obtain ⟨hk,hne⟩:=hC;refine .sr<|.yw (.lss Z Z)<|.nt<|.sq<|.ce Z (λh13=>?_) (λh13=>?_)
 ·refine .sk<|.tN<|.sq<|.bk<|.sr<|.yw (.idxA Fx.arr217 Fx.are217 Z Z Z (by omega) (list_at (by show k<25;omega) []))<|.a Z Z<|.ns<|.mv Z<|.mv Z<|.yw (.call Fx.call148 Z (λW s=>hasPrefix_any (c::r) _ W))<|.nt<|.cd Z (λh17=>?_) (λh17=>?_)
  ·have hfind:=sym_find (by omega) hne h17;refine .sm Z<|.yw (.lenS Fx.str9 Z)<|.a Z Z<|.az Z<|.bR<|.tR<|.tR<|.bR<|.bR<|.tR<|?_
   first
    | exact y7 Z (.cons (.tmp rfl) (.cons (.tmp rfl) .nil)) rfl λW s=>⟨by simp only [readK,Al_List_headD_cons,h21,h29,Al_if_true];rfl,s.ext⟩
    | exact y7 Z (.cons (.tmp rfl) (.cons (.tmp rfl) .nil)) rfl λW s=>⟨by simp only [readK,Al_List_headD_cons,h21,h29,Al_if_true,Al_Bool_false_eq_true,Al_if_false,show pre insB (c::r)<=12 by omega];rfl,s.ext⟩
    | exact y7 Z (.cons (.tmp rfl) (.cons (.tmp rfl) .nil)) rfl λW s=>⟨by simp only [readK,Al_List_headD_cons,h21,h29,Al_if_true,Al_Bool_false_eq_true,Al_if_false,show ¬ pre insB (c::r)<=12 by omega];rfl,s.ext⟩
    | exact y7 Z (.cons (.tmp rfl) (.cons (.tmp rfl) .nil)) rfl λW s=>⟨by simp only [readK,Al_List_headD_cons,h21,h34,Al_if_true,Al_Bool_false_eq_true,Al_if_false,hor];rfl,s.ext⟩
    | exact y7 Z (.cons (.tmp rfl) (.cons (.tmp rfl) .nil)) rfl λW s=>⟨by simp only [readK,Al_List_headD_cons,h21,h34,Al_Bool_false_eq_true,Al_if_false,hfind];rfl,s.ext⟩
  exact .sk<|.bN<|.tN<|.rg<|.yw (.add Z Z w7)<|.mv Z<|.nt<|.ag (k+1) ⟨Z,Jt⟩ ⟨Z,Z,Jt⟩ (λ_ s=>s) ⟨by omega,λj hj=>by
   by_cases e:j=k
   ·subst e;exact h17
   ·exact hne j (by omega)⟩ (by omega)
 have hfind:=sym_none (l:=c::r) (λj hj=>hne j (by omega));refine .ex<|.tE<|.tE<|.bE<|.bN<|.tN<|.sm Z<|.yw (.lenS Fx.str9 Z)<|.a Z Z<|.az Z<|?_
 first
  | exact y7 Z (.cons (.tmp rfl) (.cons (.tmp rfl) .nil)) rfl λW s=>⟨by simp only [readK,Al_List_headD_cons,h21,h29,Al_if_true];rfl,s.ext⟩
  | exact y7 Z (.cons (.tmp rfl) (.cons (.tmp rfl) .nil)) rfl λW s=>⟨by simp only [readK,Al_List_headD_cons,h21,h29,Al_if_true,Al_Bool_false_eq_true,Al_if_false,show pre insB (c::r)<=12 by omega];rfl,s.ext⟩
  | exact y7 Z (.cons (.tmp rfl) (.cons (.tmp rfl) .nil)) rfl λW s=>⟨by simp only [readK,Al_List_headD_cons,h21,h29,Al_if_true,Al_Bool_false_eq_true,Al_if_false,show ¬ pre insB (c::r)<=12 by omega];rfl,s.ext⟩
  | exact y7 Z (.cons (.tmp rfl) (.cons (.tmp rfl) .nil)) rfl λW s=>⟨by simp only [readK,Al_List_headD_cons,h21,h34,Al_if_true,Al_Bool_false_eq_true,Al_if_false,hor];rfl,s.ext⟩
  | exact y7 Z (.cons (.tmp rfl) (.cons (.tmp rfl) .nil)) rfl λW s=>⟨by simp only [readK,Al_List_headD_cons,h21,h34,Al_Bool_false_eq_true,Al_if_false,hfind];rfl,s.ext⟩
theorem isName_any (H:Hp) (G:Gl H) (l:Str) (hl:l.length<=9223372036854775807) (w:World) (hA:Agr H w) :
 Calls prg 75 #[strV l] w λr w'=>r=.returned (.bool (nameB l))/\Ext w w':=by
 refine Sx.enter (H:=H) func75 rfl ntmps75 rfl hA ?_;refine .sr<|.aq Z<|.sq<|.sm Z<|.yw (.eqS Z Z)<|.nt<|.ce Z (λh6=>?_) (λh6=>?_)
 ·subst h6;refine .sr<|.az Z<|.tR<|?_
  refine y9 Z Z λW s=>⟨retB ?_,s.ext⟩
  first
   | (rw [nameB,show (readK l).1=1 from h1];simp [h6];omega)
   | (rw [show nameB l=false by simp [nameB,h1]])
   | (rfl)
 refine .sk<|.tN<|.sm Z<|.yw (.call Fx.call97 Z (λW s=>read_any H G l hl h6 W s.agr))<|.mv Z<|.yw (.extract Z Z)<|.yw (.extract Z Z)<|.a Z Z<|.a Z Z<|.ns<|.mv Z<|.yw (.eql Z Z)<|.mv Z<|.e2 (λh14=>?_) (λh14=>?_)
 ·have h1:(readK l).1=1:=Al_UInt8_toNat_inj.1 (by show _=1;omega);refine .gy (.move Z)<|.gy (.move Z)<|.gy (.lenS Fx.str9 Z)<|.gy (.eql Z Z)<|.yw (.pickT Z Z)<|.az Z<|?_
  refine y9 Z Z λW s=>⟨retB ?_,s.ext⟩
  first
   | (rw [nameB,show (readK l).1=1 from h1];simp [h6];omega)
   | (rw [show nameB l=false by simp [nameB,h1]])
   | (rfl)
 have h1:¬ (readK l).1=1:=λe=>h14 (by rw [e];rfl);refine .gG<|.gG<|.gG<|.gG<|.yw (.pickF Z Z)<|.az Z<|?_
 refine y9 Z Z λW s=>⟨retB ?_,s.ext⟩
 first
  | (rw [nameB,show (readK l).1=1 from h1];simp [h6];omega)
  | (rw [show nameB l=false by simp [nameB,h1]])
  | (rfl)
theorem Fx.agg9:aggN prg 9=some none:=by kernel_rfl
theorem Fx.sl71:slN prg 71=some 1:=by kernel_rfl
theorem Fx.agg2:aggN prg 2=some none:=by kernel_rfl
theorem Fx.agg3:aggN prg 3=some none:=by kernel_rfl
theorem Fx.int3:intN prg 3=some Go.IntKind.i64:=by kernel_rfl
theorem Fx.row32:rowN prg 32=some (76,4,56):=by kernel_rfl
theorem Fx.size32:sizeN prg 32=some 1:=by kernel_rfl
theorem Fx.size76:sizeN prg 76=some 4:=by kernel_rfl
theorem Fx.zero76:zeroN prg 76=some
 [Go.Value.int Go.IntKind.u8 (Int.ofNat 0),Go.Value.string { data:={ toList:=[] } },
  Go.Value.int Go.IntKind.i64 (Int.ofNat 0),Go.Value.slice none 0 0]:=by kernel_rfl
theorem Fx.bsl32_1 (x00 x01 x02 x03:Value):bslN prg 32 1 [(0,.agg [x00,x01,x02,x03].toArray)]=some (76,[x00,x01,x02,x03]):=by kernel_rfl
theorem Fx.agg4:aggN prg 4=some none:=by kernel_rfl
theorem Fx.agg5:aggN prg 5=some none:=by kernel_rfl
theorem Fx.int5:intN prg 5=some Go.IntKind.u8:=by kernel_rfl
theorem Fx.size9:sizeN prg 9=some 1:=by kernel_rfl
theorem Fx.bsl71_25 (x0 x1 x2 x3 x4 x5 x6 x7 x8 x9 x10 x11 x12 x13 x14 x15 x16 x17 x18 x19 x20 x21 x22 x23 x24:ByteArray):bslN prg 71 25 [(0,.string x0),(1,.string x1),(2,.string x2),(3,.string x3),(4,.string x4),(5,.string x5),(6,.string x6),(7,.string x7),(8,.string x8),(9,.string x9),(10,.string x10),(11,.string x11),(12,.string x12),(13,.string x13),(14,.string x14),(15,.string x15),(16,.string x16),(17,.string x17),(18,.string x18),(19,.string x19),(20,.string x20),(21,.string x21),(22,.string x22),(23,.string x23),(24,.string x24)]=some (9,[.string x0,.string x1,.string x2,.string x3,.string x4,.string x5,.string x6,.string x7,.string x8,.string x9,.string x10,.string x11,.string x12,.string x13,.string x14,.string x15,.string x16,.string x17,.string x18,.string x19,.string x20,.string x21,.string x22,.string x23,.string x24]):=by kernel_rfl
theorem Fx.bsl71_39 (x0 x1 x2 x3 x4 x5 x6 x7 x8 x9 x10 x11 x12 x13 x14 x15 x16 x17 x18 x19 x20 x21 x22 x23 x24 x25 x26 x27 x28 x29 x30 x31 x32 x33 x34 x35 x36 x37 x38:ByteArray):bslN prg 71 39 [(0,.string x0),(1,.string x1),(2,.string x2),(3,.string x3),(4,.string x4),(5,.string x5),(6,.string x6),(7,.string x7),(8,.string x8),(9,.string x9),(10,.string x10),(11,.string x11),(12,.string x12),(13,.string x13),(14,.string x14),(15,.string x15),(16,.string x16),(17,.string x17),(18,.string x18),(19,.string x19),(20,.string x20),(21,.string x21),(22,.string x22),(23,.string x23),(24,.string x24),(25,.string x25),(26,.string x26),(27,.string x27),(28,.string x28),(29,.string x29),(30,.string x30),(31,.string x31),(32,.string x32),(33,.string x33),(34,.string x34),(35,.string x35),(36,.string x36),(37,.string x37),(38,.string x38)]=some (9,[.string x0,.string x1,.string x2,.string x3,.string x4,.string x5,.string x6,.string x7,.string x8,.string x9,.string x10,.string x11,.string x12,.string x13,.string x14,.string x15,.string x16,.string x17,.string x18,.string x19,.string x20,.string x21,.string x22,.string x23,.string x24,.string x25,.string x26,.string x27,.string x28,.string x29,.string x30,.string x31,.string x32,.string x33,.string x34,.string x35,.string x36,.string x37,.string x38]):=by kernel_rfl
theorem Fx.agg70:aggN prg 70=some (some 3):=by kernel_rfl
theorem Fx.call124:callN prg 124=true:=by kernel_rfl
theorem Fx.call125:callN prg 125=true:=by kernel_rfl
theorem Fx.call126:callN prg 126=true:=by kernel_rfl
theorem Fx.call127:callN prg 127=true:=by kernel_rfl
theorem Fx.size70:sizeN prg 70=some 3:=by kernel_rfl
theorem Fx.zero70:zeroN prg 70=some
 [Go.Value.int Go.IntKind.i64 (Int.ofNat 0),Go.Value.string { data:={ toList:=[] } },
  Go.Value.int Go.IntKind.i64 (Int.ofNat 0)]:=by kernel_rfl
theorem Fx.bld70_0_1_2 (x0:Int) (x1:ByteArray) (x2:Int):buildN prg 70 [(0,.int .i64 x0),(1,.string x1),(2,.int .i64 x2)]=some [.int .i64 x0,.string x1,.int .i64 x2]:=by kernel_rfl
theorem Fx.call32:callN prg 32=true:=by kernel_rfl
theorem Fx.call67:callN prg 67=true:=by kernel_rfl
theorem Fx.call68:callN prg 68=true:=by kernel_rfl
theorem Fx.field70_1:fieldN prg 70 1=some 1:=by kernel_rfl
theorem Fx.row67:rowN prg 67=some (70,3,32):=by kernel_rfl
theorem Fx.sl67:slN prg 67=some 3:=by kernel_rfl
theorem Fx.bsl67_1 (x00 x01 x02:Value):bslN prg 67 1 [(0,.agg [x00,x01,x02].toArray)]=some (70,[x00,x01,x02]):=by kernel_rfl
theorem Fx.row71:rowN prg 71=some (9,1,16):=by kernel_rfl
theorem Fx.sl50:slN prg 50=some 1:=by kernel_rfl
theorem Fx.bsl71_1 (x0:ByteArray):bslN prg 71 1 [(0,.string x0)]=some (9,[.string x0]):=by kernel_rfl
theorem Fx.size3:sizeN prg 3=some 1:=by kernel_rfl
theorem Fx.agg74:aggN prg 74=some none:=by kernel_rfl
theorem Fx.call51:callN prg 51=true:=by kernel_rfl
theorem Fx.call52:callN prg 52=true:=by kernel_rfl
theorem Fx.field76_0:fieldN prg 76 0=some 0:=by kernel_rfl
theorem Fx.field76_1:fieldN prg 76 1=some 1:=by kernel_rfl
theorem Fx.field76_2:fieldN prg 76 2=some 2:=by kernel_rfl
theorem Fx.agg29:aggN prg 29=some none:=by kernel_rfl
theorem Fx.agg99:aggN prg 99=some none:=by kernel_rfl
theorem Fx.agg106:aggN prg 106=some none:=by kernel_rfl
theorem Fx.agg108:aggN prg 108=some (some 3):=by kernel_rfl
theorem Fx.call98:callN prg 98=true:=by kernel_rfl
theorem Fx.field102_0:fieldN prg 102 0=some 0:=by kernel_rfl
theorem Fx.field102_1:fieldN prg 102 1=some 1:=by kernel_rfl
theorem Fx.field102_7:fieldN prg 102 7=some 7:=by kernel_rfl
theorem Fx.field102_8:fieldN prg 102 8=some 8:=by kernel_rfl
theorem Fx.field108_0:fieldN prg 108 0=some 0:=by kernel_rfl
theorem Fx.field108_1:fieldN prg 108 1=some 1:=by kernel_rfl
theorem Fx.size29:sizeN prg 29=some 1:=by kernel_rfl
theorem Fx.size108:sizeN prg 108=some 3:=by kernel_rfl
theorem Fx.sl99:slN prg 99=some 3:=by kernel_rfl
theorem Fx.zero108:zeroN prg 108=some
 [Go.Value.int Go.IntKind.u8 (Int.ofNat 0),Go.Value.string { data:={ toList:=[] } },
  Go.Value.int Go.IntKind.i64 (Int.ofNat 0)]:=by kernel_rfl
structure Tkf (H:Hp) (l:Tks) (tp:Option Addr) (tc:Nat):Prop where
 rep:Rep H (.seq 3 (l.map (dTk .u8))) [.slice tp l.length tc]
 gd:Tgd l
 short:∀ t∈l,t.t.length<=400000
 few:l.length<=600000
 num:∀ t∈l,t.k=3->pre digB t.t=t.t.length/\¬ t.t=[]
variable {H H':Hp} {tp:Option Addr} {tc:Nat}
theorem Tkf.up {l:Tks} (h:Tkf H l tp tc) (u:Up H H'):Tkf H' l tp tc:=⟨h.rep.up u,h.gd,h.short,h.few,h.num⟩
variable {i:Nat}
theorem tkf_at {l:Tks} (h:i<l.length):l[i]=tkf l i:=by unfold tkf;rw [List.getD_eq_getElem?_getD,List.getElem?_eq_getElem h];rfl
theorem tkf_mem {l:Tks} (h:i<l.length):tkf l i∈l:=by rw [<-tkf_at h];exact Al_List_getElem_mem h
variable {q:Rq}
theorem nmV_len {l:Tks} (K:Tkf H l tp tc) (hq:q.i<l.length):(q.nmV l).length<=400000:=by
 unfold Rq.nmV
 split
 ·exact K.short _ (tkf_mem hq)
 ·exact Al_Nat_zero_le _
theorem fld_f0 (a b c:Value):∀ W,(Instr.field 108 (.agg [a,b,c].toArray) 0).run prg W=.ok a W:=λ_=>by kernel_rfl
theorem fld_f2 (a b c:Value):∀ W,(Instr.field 108 (.agg [a,b,c].toArray) 2).run prg W=.ok c W:=λ_=>by kernel_rfl
theorem k8 {k:UInt8} {m:Nat} (hm:m<256):decide (((k.toNat:Nat):Int)=(m:Int))=decide (k=UInt8.ofNat m):=by
 rw [Al_Bool_eq_iff_iff,Al_decide_eq_true_eq,Al_decide_eq_true_eq]
 constructor
 ·intro e;exact Al_UInt8_toNat_inj.1 (by rw [Al_UInt8_toNat_ofNat_of_lt' hm];omega)
 ·intro e;rw [e,Al_UInt8_toNat_ofNat_of_lt' hm]
theorem k80 {k:UInt8} :decide (((k.toNat:Nat):Int)=0)=decide (k=0):=k8 (m:=0) (by decide)
theorem k81 {k:UInt8} :decide (((k.toNat:Nat):Int)=1)=decide (k=1):=k8 (m:=1) (by decide)
theorem k82 {k:UInt8} :decide (((k.toNat:Nat):Int)=2)=decide (k=2):=k8 (m:=2) (by decide)
theorem k84 {k:UInt8} :decide (((k.toNat:Nat):Int)=4)=decide (k=4):=k8 (m:=4) (by decide)
variable {n:Nat}
theorem er0:decide (((n:Nat):Int)=0)=decide (n=0):=by rw [Al_Bool_eq_iff_iff,Al_decide_eq_true_eq,Al_decide_eq_true_eq];omega
variable {w0 W:World} {bs:List Res} {ro rv:Value} {bd:Bool}
theorem token_f {b:Nat} {l:Tks} {rd dn:Bool} (K:Tkf H l tp tc) (hq:q.i<l.length) (s:St H w0 (.box b [.slice tp l.length tc,iN q.i,ro,rv,.bool rd,.bool dn,.bool bd,iN q.off,iN q.er] 102::bs) W) :
 Calls prg 98 #[.pointer (some ⟨b,0,none⟩)] W λe W'=>∃ _:Unit,(True)/\e=.returned (.agg (cTk .u8 (tkf l q.i)).toArray)/\St H w0 (.box b [.slice tp l.length tc,iN q.i,ro,rv,.bool rd,.bool dn,.bool bd,iN q.off,iN q.er] 102::bs) W':=by
 have hcap:=K.rep.cap;obtain ⟨bE,oE,cE,hpE,rE,lE,mE⟩:=K.rep.elem (map_at (f:=dTk .u8) hq);cases hpE;rw [tkf_at hq] at rE;obtain ⟨rfl,_⟩:=tk_open rE;refine enterS func98 rfl ntmps98 rfl s ?_;refine .sr<|.al Fx.zero108 Z λb2=>.nt<|.sq<|.fL 10 [(0,0),(1,0),(2,0),(3,0),(4,0),(5,0),(6,0),(7,0),(8,0),(9,0)]<|.mv Z<|.nC Z<|.fA Z Fx.field102_0<|.lD Z Fx.agg99 mem1 Z<|.mv Z<|.nC Z<|.fA Z Fx.field102_1<|.lD Z Fx.agg3 mem1 Z<|.yw (.indexSl Fx.sl99 Z Z Z (by omega) (q:=oE+q.i * 3) Z)<|.yw (.loadMW Z Fx.agg108 mE Z)<|.fn (tl:=[_]) Z<|.sW .head Z Z Fx.size108 (by simp [cTk,Value.oneCell',strV]) Z<|.nt<|.rt<|?_
 refine y8 Z (.cell Z Fx.agg108 Hm rfl) λW s=>?_;exact ⟨(),Jt,Z,s.p2_1 [1] rfl⟩
theorem fail_f {b:Nat} {l:Tks} {rd dn:Bool} (K:Tkf H l tp tc) (hq:q.i<l.length) (c:Nat) (s:St H w0 (.box b [.slice tp l.length tc,iN q.i,ro,rv,.bool rd,.bool dn,.bool bd,iN q.off,iN q.er] 102::bs) W) :
 Calls prg 104 #[.pointer (some ⟨b,0,none⟩),iN c] W λe W'=>∃ _:Unit,(True)/\e=.returned (.tuple #[])/\St H w0 (.box b [.slice tp l.length tc,iN ((q.fail l c).i),ro,rv,.bool rd,.bool dn,.bool bd,iN ((q.fail l c).off),iN ((q.fail l c).er)] 102::bs) W':=by
 refine enterS func104 rfl ntmps104 rfl s ?_;refine .sm Z<|.nC Z<|.fA Z Fx.field102_8<|.lD Z Fx.agg29 Hm Z<|.yw (.eql Z Z)<|.nt<|.ce Z (λh8=>?_) (λh8=>?_)
 ·have h0:q.er=0:=by omega
  have e1:q.fail l c=⟨q.i,(tkf l q.i).o,c⟩:=by unfold Rq.fail;rw [Al_if_pos h0]
  rw [e1];refine .rg<|.mv Z<|.mv Z<|.mv Z<|.mv Z<|.cs (X:=Unit) Fx.call98 Z (λW s=>token_f K hq  (s.p1_1 [0] Z)) Z λ_ _=>.yw (.fld Z (fld_f2 _ _ _))<|.nC Z<|.fA Z Fx.field102_8<|.st .head Z Z Fx.size29 Z (nb Z) Z<|.nC Z<|.fA Z Fx.field102_7<|.st .head Z Z Fx.size3 Z (nb Z) Z<|.nl<|?_
  refine retN (.inr Z) rfl .nil rfl λW s=>⟨(),Jt,Z,?_⟩;exact s.p1_1 [0] rfl
 have h0:¬ q.er=0:=by omega
 have e1:q.fail l c=q:=by unfold Rq.fail;rw [Al_if_neg h0]
 rw [e1];refine .sk<|?_
 refine retN (.inr Z) rfl .nil rfl λW s=>⟨(),Jt,Z,?_⟩;exact s.p1_1 [0] rfl
theorem is_f {b:Nat} {l:Tks} {rd dn:Bool} (K:Tkf H l tp tc) (hq:q.i<l.length) (w:Str) (s:St H w0 (.box b [.slice tp l.length tc,iN q.i,ro,rv,.bool rd,.bool dn,.bool bd,iN q.off,iN q.er] 102::bs) W) :
 Calls prg 100 #[.pointer (some ⟨b,0,none⟩),strV w] W λe W'=>∃ _:Unit,(True)/\e=.returned (.bool (q.is l w))/\St H w0 (.box b [.slice tp l.length tc,iN q.i,ro,rv,.bool rd,.bool dn,.bool bd,iN q.off,iN q.er] 102::bs) W':=by
 refine enterS func100 rfl ntmps100 rfl s ?_;refine .sr<|.a Z Z<|.ns<|.mv Z<|.cs (X:=Unit) Fx.call98 Z (λW s=>token_f K hq  (s.p1_1 [0] Z)) Z λ_ _=>.al Fx.zero108 Z λb5=>.sW .head Z Z Fx.size108 (by simp [cTk,Value.oneCell',strV]) Z<|.ns<|.fA Z Fx.field108_0<|.lD Z Fx.agg106 Hm Z<|.yw (.eql Z Z)<|.mv Z<|.b2 (λh11=>?_) (λh11=>?_)
 ·refine .gG<|.gG<|.gG<|.yw (.pickT Z Z)<|.mv Z<|.gy (.fieldAddr Z Fx.field108_1)<|.gy (.load Z Fx.agg9 Hm Z)<|.gy (.move Z)<|.gy (.eqS Z Z)<|.yw (.pickT Z Z)<|.az Z<|?_
  refine y9 Z Z λW s=>?_
  first
   | (exact ⟨(),Jt,(by unfold Rq.is;rw [<-k82,<-k84,h11,h16];first | rfl | (rw [Al_Bool_true_and]) | (rw [Bool.or_true,Al_Bool_true_and])),s.p2_1 [1] rfl⟩)
   | (exact ⟨(),Jt,(by unfold Rq.is;rw [<-k82,<-k84,h11];first | rfl | (rw [Al_Bool_true_and]) | (rw [Bool.or_true,Al_Bool_true_and])),s.p2_1 [1] rfl⟩)
   | (exact ⟨(),Jt,(by unfold Rq.is;rw [<-k82,<-k84,h16];first | rfl | (rw [Al_Bool_true_and]) | (rw [Bool.or_true,Al_Bool_true_and])),s.p2_1 [1] rfl⟩)
 refine .gy (.fieldAddr Z Fx.field108_0)<|.gy (.load Z Fx.agg106 Hm Z)<|.gy (.eql Z Z)<|.yw (.pickF Z Z)<|.mv Z<|.b2 (λh16=>?_) (λh16=>?_)
 ·refine .gy (.fieldAddr Z Fx.field108_1)<|.gy (.load Z Fx.agg9 Hm Z)<|.gy (.move Z)<|.gy (.eqS Z Z)<|.yw (.pickT Z Z)<|.az Z<|?_
  refine y9 Z Z λW s=>?_
  first
   | (exact ⟨(),Jt,(by unfold Rq.is;rw [<-k82,<-k84,h11,h16];first | rfl | (rw [Al_Bool_true_and]) | (rw [Bool.or_true,Al_Bool_true_and])),s.p2_1 [1] rfl⟩)
   | (exact ⟨(),Jt,(by unfold Rq.is;rw [<-k82,<-k84,h11];first | rfl | (rw [Al_Bool_true_and]) | (rw [Bool.or_true,Al_Bool_true_and])),s.p2_1 [1] rfl⟩)
   | (exact ⟨(),Jt,(by unfold Rq.is;rw [<-k82,<-k84,h16];first | rfl | (rw [Al_Bool_true_and]) | (rw [Bool.or_true,Al_Bool_true_and])),s.p2_1 [1] rfl⟩)
 refine .gG<|.gG<|.gG<|.gG<|.yw (.pickF Z Z)<|.az Z<|?_
 refine y9 Z Z λW s=>?_
 first
  | (exact ⟨(),Jt,(by unfold Rq.is;rw [<-k82,<-k84,h11,h16];first | rfl | (rw [Al_Bool_true_and]) | (rw [Bool.or_true,Al_Bool_true_and])),s.p2_1 [1] rfl⟩)
  | (exact ⟨(),Jt,(by unfold Rq.is;rw [<-k82,<-k84,h11];first | rfl | (rw [Al_Bool_true_and]) | (rw [Bool.or_true,Al_Bool_true_and])),s.p2_1 [1] rfl⟩)
  | (exact ⟨(),Jt,(by unfold Rq.is;rw [<-k82,<-k84,h16];first | rfl | (rw [Al_Bool_true_and]) | (rw [Bool.or_true,Al_Bool_true_and])),s.p2_1 [1] rfl⟩)
theorem Fx.call100:callN prg 100=true:=by kernel_rfl
theorem Fx.call104:callN prg 104=true:=by kernel_rfl
theorem Fx.call107:callN prg 107=true:=by kernel_rfl
theorem accept_f {b:Nat} {l:Tks} {rd dn:Bool} (K:Tkf H l tp tc) (hq:q.i<l.length) (w:Str) (s:St H w0 (.box b [.slice tp l.length tc,iN q.i,ro,rv,.bool rd,.bool dn,.bool bd,iN q.off,iN q.er] 102::bs) W) :
 Calls prg 107 #[.pointer (some ⟨b,0,none⟩),strV w] W λe W'=>∃ _:Unit,(True)/\e=.returned (.bool (q.ac l w))/\St H w0 (.box b [.slice tp l.length tc,iN ((q.acS l w).i),ro,rv,.bool rd,.bool dn,.bool bd,iN ((q.acS l w).off),iN ((q.acS l w).er)] 102::bs) W':=by
 have hcap:=K.rep.cap;refine enterS func107 rfl ntmps107 rfl s ?_;refine .sr<|.aq Z<|.sq<|.sm Z<|.nC Z<|.fA Z Fx.field102_8<|.lD Z Fx.agg29 Hm Z<|.yw (.neq Z Z)<|.mv Z<|.b2 (λh10=>?_) (λh10=>?_)
 ·have h0:¬ q.er=0:=by have:=Al_of_decide_eq_true h10;omega
  have e3:q.ac l w=false:=acF_bad h0;have e1:q.acS l w=q:=by unfold Rq.acS;rw [Al_if_neg (by rw [e3];decide)]
  rw [e1];refine .gG<|.gG<|.gG<|.gG<|.yw (.pickT Z Z)<|.nt<|.cT Z<|.sr<|.az Z<|.tR<|?_
  refine y9 Z Z λW s=>?_;exact ⟨(),Jt,(by rw [e3]),s.p1_1 [0] rfl⟩
 have h0:q.er=0:=by have:=Al_of_decide_eq_false h10;omega
 have ea:q.ac l w=q.is l w:=(is_ac0 h0).symm;refine .gy (.move Z)<|.gy (.move Z)<|.gd Z Z<|.cs (X:=Unit) Fx.call100 Z (λW s=>is_f K hq w (s.p1_1 [0] Z)) Z λ_ _=>.gy (.not Z)<|.yw (.pickF Z Z)<|.nt<|.cd Z (λh15=>?_) (λh15=>?_)
 ·have e3:q.ac l w=false:=by rw [ea];simpa using h15
  have e1:q.acS l w=q:=by unfold Rq.acS;rw [Al_if_neg (by rw [e3];decide)]
  rw [e1];refine .sr<|.az Z<|.tR<|?_
  refine y9 Z Z λW s=>?_;exact ⟨(),Jt,(by rw [e3]),s.p1_1 [0] rfl⟩
 have e3:q.ac l w=true:=by rw [ea];simpa using h15
 have e1:q.acS l w=q.nx:=by unfold Rq.acS;rw [Al_if_pos e3]
 rw [e1];have hi:=wi_ac K.gd.last hq e3;have hi2:q.nx.i=q.i+1:=rfl;refine .sk<|.tN<|.sm Z<|.nC Z<|.fA Z Fx.field102_1<|.lD Z Fx.agg3 Hm Z<|.yw (.add Z Z (c:=((q.nx.i:Nat):Int)) ((w6 (by omega)).trans (by show _=((q.i+1:Nat):Int);omega)))<|.nC Z<|.fA Z Fx.field102_1<|.st .head Z Z Fx.size3 Z (nb Z) Z<|.ns<|.az Z<|?_
 refine y9 Z Z λW s=>?_;exact ⟨(),Jt,(by rw [e3]),s.p1_1 [0] rfl⟩
variable {w:Str}
theorem acF_T {l:Tks} (h:q.ac l w=true):q.acS l w=q.nx:=by unfold Rq.acS;rw [Al_if_pos h]
theorem acF_F {l:Tks} (h:q.ac l w=false):q.acS l w=q:=by unfold Rq.acS;rw [Al_if_neg (by rw [h];decide)]
theorem expect_f {b:Nat} {l:Tks} {rd dn:Bool} (K:Tkf H l tp tc) (hq:q.i<l.length) (w:Str) (s:St H w0 (.box b [.slice tp l.length tc,iN q.i,ro,rv,.bool rd,.bool dn,.bool bd,iN q.off,iN q.er] 102::bs) W) :
 Calls prg 114 #[.pointer (some ⟨b,0,none⟩),strV w] W λe W'=>∃ _:Unit,(True)/\e=.returned (.tuple #[])/\St H w0 (.box b [.slice tp l.length tc,iN ((q.exS l w).i),ro,rv,.bool rd,.bool dn,.bool bd,iN ((q.exS l w).off),iN ((q.exS l w).er)] 102::bs) W':=by
 refine enterS func114 rfl ntmps114 rfl s ?_;refine .sm Z<|.mv Z<|.cs (X:=Unit) Fx.call107 Z (λW s=>accept_f K hq w (s.p1_1 [0] Z)) Z λ_ _=>.yw (.not Z)<|.nt<|.cd Z (λh7=>?_) (λh7=>?_)
 ·have hb:q.ac l w=false:=by simpa using h7
  have e1:q.exS l w=q.fail l 8:=ex_no hb;rw [acF_F hb,e1];refine .rg<|.mv Z<|.cs (X:=Unit) Fx.call104 Z (λW s=>fail_f K hq 8 (s.p1_1 [0] Z)) Z λ_ _=>.nl<|?_
  refine retN (.inr Z) rfl .nil rfl λW s=>⟨(),Jt,Z,?_⟩;exact s.p1_1 [0] rfl
 have hb:q.ac l w=true:=by simpa using h7
 have e1:q.exS l w=q.nx:=ex_ac hb;rw [acF_T hb,e1];refine .sk<|?_
 refine retN (.inr Z) rfl .nil rfl λW s=>⟨(),Jt,Z,?_⟩;exact s.p1_1 [0] rfl
theorem name_f {b:Nat} {l:Tks} {rd dn:Bool} (K:Tkf H l tp tc) (hq:q.i<l.length) (s:St H w0 (.box b [.slice tp l.length tc,iN q.i,ro,rv,.bool rd,.bool dn,.bool bd,iN q.off,iN q.er] 102::bs) W) :
 Calls prg 113 #[.pointer (some ⟨b,0,none⟩)] W λe W'=>∃ _:Unit,(True)/\e=.returned (strV (q.nmV l))/\St H w0 (.box b [.slice tp l.length tc,iN ((q.nmS l).i),ro,rv,.bool rd,.bool dn,.bool bd,iN ((q.nmS l).off),iN ((q.nmS l).er)] 102::bs) W':=by
 have hcap:=K.rep.cap;refine enterS func113 rfl ntmps113 rfl s ?_;refine .sr<|.aq Z<|.sq<|.sm Z<|.nC Z<|.fA Z Fx.field102_8<|.lD Z Fx.agg29 Hm Z<|.yw (.neq Z Z)<|.mv Z<|.e2 (λh8=>?_) (λh8=>?_)
 ·have hbad:¬ q.nmK l=true:=λe=>by have:=(nmK_er e).1;omega
  have e1:q.nmS l=q.fail l 8:=by unfold Rq.nmS;rw [Al_if_neg hbad]
  have e2:q.nmV l=[]:=by unfold Rq.nmV;rw [Al_if_neg hbad]
  rw [e1,e2];refine .gG<|.gG<|.gG<|.gG<|.yw (.pickT Z Z)<|.nt<|.cT Z<|.sm Z<|.cs (X:=Unit) Fx.call104 Z (λW s=>fail_f K hq 8 (s.p1_1 [0] Z)) Z λ_ _=>.ns<|.az Z<|.tR<|?_
  refine y9 Z Z λW s=>?_;exact ⟨(),Jt,Z,s.p1_1 [0] rfl⟩
 have h0:q.er=0:=by omega
 refine .gy (.move Z)<|.gd Z Z<|.cs (X:=Unit) Fx.call98 Z (λW s=>token_f K hq  (s.p1_1 [0] Z)) Z λ_ _=>.gy (.fld Z (fld_f0 _ _ _))<|.gy (.neq Z Z)<|.yw (.pickF Z Z)<|.nt<|.ce Z (λh13=>?_) (λh13=>?_)
 ·have hbad:¬ q.nmK l=true:=λe=>by have:=(nmK_er e).2;simp [this] at h13
  have e1:q.nmS l=q.fail l 8:=by unfold Rq.nmS;rw [Al_if_neg hbad]
  have e2:q.nmV l=[]:=by unfold Rq.nmV;rw [Al_if_neg hbad]
  rw [e1,e2];refine .sm Z<|.cs (X:=Unit) Fx.call104 Z (λW s=>fail_f K hq 8 (s.p1_1 [0] Z)) Z λ_ _=>.ns<|.az Z<|.tR<|?_
  refine y9 Z Z λW s=>?_;exact ⟨(),Jt,Z,s.p1_1 [0] rfl⟩
 have hk:(tkf l q.i).k=1:=Al_UInt8_toNat_inj.1 (by show (tkf l q.i).k.toNat=1;omega);have hok:q.nmK l=true:=by unfold Rq.nmK;rw [Al_decide_eq_true h0,Al_decide_eq_true hk];rfl
 have e1:q.nmS l=q.nx:=by unfold Rq.nmS;rw [Al_if_pos hok]
 have e2:q.nmV l=(tkf l q.i).t:=by unfold Rq.nmV;rw [Al_if_pos hok]
 rw [e1,e2];have hi:=wi_nmK K.gd.last hq hok;have hi2:q.nx.i=q.i+1:=rfl;obtain ⟨bE,oE,cE,hpE,rE,lE,mE⟩:=K.rep.elem (map_at (f:=dTk .u8) hq);cases hpE;rw [tkf_at hq] at rE;obtain ⟨rfl,_⟩:=tk_open rE;refine .sk<|.tN<|.sm Z<|.nC Z<|.fA Z Fx.field102_1<|.lD Z Fx.agg3 Hm Z<|.yw (.add Z Z (c:=((q.nx.i:Nat):Int)) ((w6 (by omega)).trans (by show _=((q.i+1:Nat):Int);omega)))<|.nC Z<|.fA Z Fx.field102_1<|.st .head Z Z Fx.size3 Z (nb Z) Z<|.nt<|.sq<|.fL 12 [(0,0),(1,0),(2,0),(3,0),(4,0),(5,0),(6,0),(7,0),(8,0),(9,0),(10,0),(11,0)]<|.mv Z<|.nC Z<|.fA Z Fx.field102_0<|.lD Z Fx.agg99 Hm Z<|.mv Z<|.nC Z<|.fA Z Fx.field102_1<|.lD Z Fx.agg3 Hm Z<|.yw (.sub Z Z (c:=((q.i:Nat):Int)) ((w6 (by omega)).trans (by omega)))<|.yw (.indexSl Fx.sl99 Z Z Z (by omega) (q:=oE+q.i * 3) Z)<|.fA Z Fx.field108_1<|.yw (.loadM Z Fx.agg9 mE (k:=1) Z Z)<|.fn (tl:=[_]) Z<|.az Z<|?_
 refine y9 Z Z λW s=>?_;exact ⟨(),Jt,Z,s.p1_1 [0] rfl⟩
end Go.Proofs.YtidclioghdbphaaGreatDoor
namespace Go.Plain
open Go.Lib

theorem digits_more (x:Nat) (h:¬ x<10):decDigits x=decDigits (x / 10)++[UInt8.ofNat (48+x % 10)]:=by
 rw [decDigits,Al_dif_neg h]
theorem digit_nat (d:Nat) (h:d<10):(UInt8.ofNat (48+d)).toNat=48+d:=by
 rw [Al_UInt8_toNat_ofNat'];omega
theorem digits_are:∀ (u:Nat) (c:UInt8),c∈decDigits u->48<=c.toNat/\c.toNat<=57:=by
 intro u;induction u using Nat.strongRecOn with
 | _ u ih =>
  intro c hc
  by_cases h:u<10
  ·rw [decDigits_one h] at hc;obtain rfl:=Al_List_mem_singleton.1 hc;rw [digit_nat u h];omega
  ·rw [digits_more u h] at hc;rcases Al_List_mem_append.1 hc with hc | hc
   ·exact ih (u / 10) (by omega) c hc
   ·obtain rfl:=Al_List_mem_singleton.1 hc;rw [digit_nat (u % 10) (by omega)];omega
end Go.Plain
namespace Go.Proofs.YtidclioghdbphaaGreatDoor
abbrev Kt:=UInt8 × Str
def kt (t:Tk):Kt:=(t.k,t.t)
def isK (w:Str) (x:Kt):Bool:=(x.1 == 2 || x.1 == 4) && decide (x.2=w)
def opK (lv:Nat) (x:Kt):Option UInt8:=((opsL lv).find? λy=>isK y.1 x).map (·.2)
theorem isT_cons (w:Str) (t:Tk) (r:List Tk):isT w (t::r)=isK w (kt t):=rfl
theorem opAt_cons (lv:Nat) (t:Tk) (r:List Tk):opAt lv (t::r)=opK lv (kt t):=rfl
def parK (n lv:Nat) (l:List Kt):List Kt:=if lv<n then (4,[40])::(l++[(4,[41])]) else l
def symK (op:UInt8):Kt:=(if op=22\/op=23 then 2 else 4,((shapeOf op).tx.drop 1).dropLast)
def ktx (op:UInt8) (nm:Str) (n:Int64) (ls:List (Nat × List Kt)):List Kt :=
 if op=1 then [(3,Lib.itoa n.toInt)]
 else if op=5 then [(1,nm)]
 else if op=8 then [(2,[115,105,122,101]),(1,nm)]
 else if op=6 then (1,nm)::(4,[91])::((ls.getD 0 (0,[])).2++[(4,[93])])
 else if op=7 then (2,[104,97,115])::(1,nm)::(4,[91])::((ls.getD 0 (0,[])).2++[(4,[93])])
 else if op=9 then (4,[45])::parK 6 (ls.getD 0 (0,[])).1 (ls.getD 0 (0,[])).2
 else if op=10 then (2,[110,111,116])::parK 6 (ls.getD 0 (0,[])).1 (ls.getD 0 (0,[])).2
 else if (shapeOf op).n=0 then [(2,(shapeOf op).tx)]
 else parK (lftT (shapeOf op).lv) (ls.getD 0 (0,[])).1 (ls.getD 0 (0,[])).2++symK op::parK ((shapeOf op).lv+1) (ls.getD 1 (0,[])).1 (ls.getD 1 (0,[])).2
mutual
def ktE:Ex->List Kt
 | .mk op nm n args=>ktx op nm n (ktEs args)
def ktEs:List Ex->List (Nat × List Kt)
 | []=>[]
 | e::r=>((shapeOf e.op).lv,ktE e)::ktEs r
end
def Ex.lv (e:Ex):Nat:=(shapeOf e.op).lv
def Stp (j:Nat) (r:List Tk):Prop:=(∀ i,j<=i->i<=4->opAt i r=none)/\isT [91] r=false
variable {i j:Nat}
theorem Stp.up {r:List Tk} (h:Stp i r) (hij:i<=j):Stp j r:=⟨λk h1 h2=>h.1 k (by omega) h2,h.2⟩
theorem Stp.of {t:Tk} {r:List Tk} (h:∀ i∈List.range 5,j<=i->opK i (kt t)=none) (h2:isK [91] (kt t)=false):Stp j (t::r) :=
 ⟨λi h1 h3=>h i (Al_List_mem_range.2 (by omega)) h1,h2⟩
theorem pX_up {l:List Tk} {a:Ex} {r:List Tk}:∀ (d lv j:Nat),j=lv+1+d->j<=5->pX j l=.ok a r->Stp (lv+1) r->pX lv l=pL lv a r
 | 0,lv,j,e,hj,h,_=>by
  rw [pX_low (by omega),show lv+1=j by omega,h];rfl
 | d+1,lv,j,e,hj,h,hs=>by
  have:=pX_up d (lv+1) j (by omega) hj h (hs.up (by omega));rw [pX_low (by omega),this,pL_none (hs.1 _ (Al_Nat_le_refl _) (by omega))];rfl
def Rd (e:Ex):Prop:=∀ le r,le.map kt=ktE e->(∀ lv,lv<=4->lv+1<=e.lv->Stp (lv+1) r->pX lv (le++r)=if lv=2/\e.lv=3 then .ok e r else pL lv e r)/\(6<=e.lv->isT [91] r=false->pX 5 (le++r)=.ok e r)
theorem Rd.full {e:Ex} (h:Rd e) {le r:List Tk} (hk:le.map kt=ktE e) {lv:Nat} (h5:lv<=5) (hl:lv+1<=e.lv) (hs:Stp lv r):pX lv (le++r)=.ok e r:=by
 by_cases e5:lv=5
 ·subst e5;exact (h le r hk).2 hl hs.2
 ·rw [(h le r hk).1 lv (by omega) hl (hs.up (by omega)),pL_none (hs.1 lv (Al_Nat_le_refl _) (by omega))]
  split <;> rfl
theorem Rd.of {e:Ex} (h6:6<=e.lv) (h:∀ le r,le.map kt=ktE e->isT [91] r=false->pX 5 (le++r)=.ok e r):Rd e:=λle r hk=>by
 refine ⟨λlv hl h1 hs=>?_,λ_=>h le r hk⟩;rw [Al_if_neg (by omega)];exact pX_up (4 - lv) lv 5 (by omega) (by omega) (h le r hk hs.2) hs
theorem Rd.par {e:Ex} (h:Rd e) (h1:1<=e.lv) {le r:List Tk} (hk:le.map kt=(4,[40])::(ktE e++[(4,[41])])):pX 5 (le++r)=.ok e r:=by
 obtain ⟨t,l1,rfl,ht,hk⟩:=Al_List_map_eq_cons_iff.1 hk;obtain ⟨l2,l3,rfl,h2,h3⟩:=Al_List_map_eq_append_iff.1 hk;obtain ⟨t2,l4,rfl,ht2,h4⟩:=Al_List_map_eq_cons_iff.1 h3;obtain rfl:=Al_List_map_eq_nil_iff.1 h4;simp only [Al_List_cons_append,Al_List_append_assoc,Al_List_nil_append];have hf:=h.full h2 (r:=t2::r) (lv:=0) (by omega) h1 (.of (by rw [ht2];decide) (by rw [ht2];decide));rw [pX_un,isT_cons,isT_cons,ht,Al_if_neg (by decide),Al_if_neg (by decide),primE];have hk0:t.k=4:=congrArg Prod.fst ht;simp only [isT_cons,ht];rw [Al_if_neg (by rw [hk0];decide),Al_if_neg (by decide),Al_if_neg (by decide),Al_if_neg (by decide),Al_if_neg (by decide),Al_if_pos (by decide),hf];show needT [41] (t2::r) _=_;rw [needT,isT_cons,ht2,Al_if_pos (by decide)]
 rfl
variable {n:Nat}
theorem Rd.opnd {e:Ex} (h:Rd e) (h1:1<=e.lv) {le r:List Tk} (hk:le.map kt=parK n e.lv (ktE e)) (hn:n<=6) (h0:0<n) (hs:Stp (n - 1) r):pX (n - 1) (le++r)=.ok e r:=by
 unfold parK at hk
 split at hk
 ·have hp:=h.par h1 hk (r:=r)
  by_cases e5:n=6
  ·subst e5;exact hp
  ·rw [pX_up (5 - n) (n - 1) 5 (by omega) (by omega) hp (hs.up (by omega)),pL_none (hs.1 _ (Al_Nat_le_refl _) (by omega))]
 ·exact h.full hk (by omega) (by omega) hs
theorem Rd.left {e:Ex} (h:Rd e) (h1:1<=e.lv) {lv:Nat} {le r:List Tk} (hk:le.map kt=parK (lv+1) e.lv (ktE e)) (hn:lv<=4) (h2:lv≠2) (hs:Stp (lv+1) r):pX lv (le++r)=pL lv e r:=by
 unfold parK at hk
 split at hk
 ·exact pX_up (4 - lv) lv 5 (by omega) (by omega) (h.par h1 hk (r:=r)) hs
 ·rw [(h le r hk).1 lv hn (by omega) hs,Al_if_neg (by omega)]
theorem numV_digits (u:Nat):numV (Lib.decDigits u)=u:=by
 induction u using Nat.strongRecOn with
 | _ u ih =>
  by_cases h:u<10
  ·rw [Lib.decDigits_one h];simp only [numV,Al_List_foldl_cons,Al_List_foldl_nil,Plain.digit_nat u h];omega
  ·rw [Plain.digits_more u h];have:=ih (u / 10) (by omega);unfold numV at this|-;rw [Al_List_foldl_append,this];simp only [Al_List_foldl_cons,Al_List_foldl_nil,Plain.digit_nat (u % 10) (by omega)];omega
theorem numV_itoa {n:Int} (h:0<=n):numV (Lib.itoa n)=n.toNat:=by
 unfold Lib.itoa;rw [Al_if_neg (by omega),numV_digits]
theorem ok_cases {op:UInt8} (h:okOp op=true):op∈([1,2,3,4,5,6,7,8,9,10,11,12,13,14,15,16,17,18,19,20,21,22,23]:List UInt8):=by
 simp only [okOp,Al_Bool_and_eq_true,Al_decide_eq_true_eq] at h;have key:∀ i∈List.range 24,1<=i->UInt8.ofNat i∈([1,2,3,4,5,6,7,8,9,10,11,12,13,14,15,16,17,18,19,20,21,22,23]:List UInt8):=by decide
 have:=key op.toNat (Al_List_mem_range.2 (by omega)) h.1
 rwa [Al_UInt8_ofNat_toNat] at this
theorem ok_split {op:UInt8} (h:okOp op=true):op=1\/op∈([11,12,13,14,15,16,17,18,19,20,21,22,23]:List UInt8)\/(op=2\/op=3\/op=4\/op=5\/op=6\/op=7\/op=8\/op=9\/op=10):=by
 have key:∀ o∈([1,2,3,4,5,6,7,8,9,10,11,12,13,14,15,16,17,18,19,20,21,22,23]:List UInt8),o=1\/o∈([11,12,13,14,15,16,17,18,19,20,21,22,23]:List UInt8)\/(o=2\/o=3\/o=4\/o=5\/o=6\/o=7\/o=8\/o=9\/o=10):=by decide
 exact key op (ok_cases h)
theorem ok_lv {op:UInt8} (h:okOp op=true):1<=(shapeOf op).lv:=by
 have key:∀ o∈([1,2,3,4,5,6,7,8,9,10,11,12,13,14,15,16,17,18,19,20,21,22,23]:List UInt8),1<=(shapeOf o).lv:=by decide
 exact key op (ok_cases h)
theorem args0 {l:List Ex} (h:l.length=0):l=[]:=Al_List_eq_nil_of_length_eq_zero h
theorem args1 {l:List Ex} (h:l.length=1):∃ a,l=[a]:=List.length_eq_one_iff.1 h
theorem args2 {l:List Ex} (h:l.length=2):∃ a b,l=[a,b]:=by
 match l,h with
 | [a,b],_=>exact ⟨a,b,Z⟩
theorem i64_zero {n:Int64} (h:n.toInt=0):n=0:=Al_Int64_toInt_inj.1 (by rw [h];rfl)
def binOp (op:UInt8):Bool:=decide (11<=op.toNat) && decide (op.toNat<=23)
theorem bin_facts:∀ op∈([11,12,13,14,15,16,17,18,19,20,21,22,23]:List UInt8),(shapeOf op).n=2/\(shapeOf op).nm=false/\1<=(shapeOf op).lv/\(shapeOf op).lv<=5/\opK ((shapeOf op).lv - 1) (symK op)=some op/\isK [91] (symK op)=false /\
 (∀ i∈List.range 5,(shapeOf op).lv<=i->opK i (symK op)=none)/\¬ op=1/\¬ op=5/\¬ op=8/\¬ op=6/\¬ op=7/\¬ op=9/\¬ op=10:=by decide
theorem ktE_bin {op:UInt8} (h:op∈([11,12,13,14,15,16,17,18,19,20,21,22,23]:List UInt8)) (nm:Str) (n:Int64) (a b:Ex) :
 ktE (.mk op nm n [a,b])=parK (lftT (shapeOf op).lv) a.lv (ktE a)++symK op::parK ((shapeOf op).lv+1) b.lv (ktE b):=by
 obtain ⟨h1,_,_,_,_,_,_,g1,g2,g3,g4,g5,g6,g7⟩:=bin_facts op h;rw [ktE,ktx,Al_if_neg g1,Al_if_neg g2,Al_if_neg g3,Al_if_neg g4,Al_if_neg g5,Al_if_neg g6,Al_if_neg g7,Al_if_neg (by omega)]
 rfl
theorem rd_bin {op:UInt8} (h:op∈([11,12,13,14,15,16,17,18,19,20,21,22,23]:List UInt8)) {a b:Ex} (ha:Rd a) (hb:Rd b) (ha1:1<=a.lv) (hb1:1<=b.lv):Rd (opE op [a,b]):=by
 intro le r hk;obtain ⟨_,_,h3,h4,h5,h6,h7,_⟩:=bin_facts op h;have hlv:(opE op [a,b]).lv=(shapeOf op).lv:=rfl;rw [hlv];rw [show opE op [a,b]=.mk op [] 0 [a,b] from rfl,ktE_bin h] at hk;obtain ⟨la,l1,rfl,hla,hk⟩:=Al_List_map_eq_append_iff.1 hk;obtain ⟨t,lb,rfl,ht,hlb⟩:=Al_List_map_eq_cons_iff.1 hk;generalize hL:(shapeOf op).lv=L at *;refine ⟨?_,λh8=>absurd h8 (by omega)⟩;have hst:∀ q,Stp L (t::q):=λq=>.of (by rw [ht];exact h7) (by rw [ht];exact h6)
 -- at its own level
 have own:Stp L r->pX (L - 1) (la++t::lb++r)=if L - 1=2 then .ok (opE op [a,b]) r else pL (L - 1) (opE op [a,b]) r:=by
  intro hs;have hopt:∀ q,opAt (L - 1) (t::q)=some op:=λq=>by rw [opAt_cons,ht];exact h5
  have hB:pX L (lb++r)=.ok b r:=by
   have:=hb.opnd hb1 (n:=L+1) hlb (by omega) (by omega) (r:=r) (by simpa using hs);simpa using this
  have hA:pX (L - 1) (la++(t::lb++r))=pL (L - 1) a (t::lb++r):=by
   by_cases h2:L=3
   ·subst h2;have:=ha.opnd ha1 (n:=4) (r:=t::lb++r) hla (by omega) (by omega) (hst _);rw [pX_low (by omega)];show (pX 3 _).bind _=_;rw [show (4:Nat) - 1=3 from rfl] at this;rw [this];rfl
   ·have e:lftT L=L - 1+1:=by unfold lftT;rw [Al_if_neg h2];omega
    rw [e] at hla;exact ha.left ha1 hla (by omega) (by omega) (by rw [show L - 1+1=L by omega];exact hst _)
  rw [Al_List_append_assoc,hA,Al_List_cons_append,pL_some (by omega) (hopt _)];show (pX (L - 1+1) (lb++r)).bind _=_;rw [show L - 1+1=L by omega,hB]
  rfl
 intro lv hl4 hl hs
 by_cases e:lv=L - 1
 ·subst e;rw [show L - 1+1=L by omega] at hs;rw [own hs];exact ifI (by omega)
 ·rw [Al_if_neg (by omega)];refine pX_up (L - 2 - lv) lv (L - 1) (by omega) (by omega) ?_ hs;rw [own (hs.up (by omega)),pL_none (hs.1 _ (by omega) (by omega))]
  split <;> rfl
theorem ktE_one {op:UInt8} {nm:Str} {n:Int64} {args:List Ex} {x:Kt} (h:ktE (.mk op nm n args)=[x]) {le:List Tk} (hk:le.map kt=ktE (.mk op nm n args)):∃ t,le=[t]/\kt t=x:=by
 rw [h] at hk;obtain ⟨t,l,rfl,ht,hl⟩:=Al_List_map_eq_cons_iff.1 hk;obtain rfl:=Al_List_map_eq_nil_iff.1 hl;exact ⟨t,Z,ht⟩
theorem rd_un {op:UInt8} {a:Ex} (ha:Rd a) (h1:1<=a.lv) (hop:op=9\/op=10):Rd (opE op [a]):=by
 refine .of (by rcases hop with rfl | rfl <;> exact (by decide:6<=6)) λle r hk h91=>?_
 have key:∃ t l,le=t::l/\kt t=(if op=9 then (4,[45]) else (2,[110,111,116]))/\l.map kt=parK 6 a.lv (ktE a):=by
  rcases hop with rfl | rfl
  ·obtain ⟨t,l,rfl,ht,hl⟩:=Al_List_map_eq_cons_iff.1 (show le.map kt=(4,[45])::parK 6 a.lv (ktE a) from hk);exact ⟨t,l,Z,ht,hl⟩
  ·obtain ⟨t,l,rfl,ht,hl⟩:=Al_List_map_eq_cons_iff.1 (show le.map kt=(2,[110,111,116])::parK 6 a.lv (ktE a) from hk);exact ⟨t,l,Z,ht,hl⟩
 obtain ⟨t,l,rfl,ht,hl⟩:=key;have hA:pX 5 (l++r)=.ok a r:=ha.opnd h1 (n:=6) hl (by omega) (by omega) ⟨λi h1 h2=>by omega,h91⟩;rw [Al_List_cons_append,pX_un];rcases hop with rfl | rfl
 ·rw [isT_cons,ht,Al_if_pos (by decide)];show (pX 5 (l++r)).bind _=_;rw [hA];rfl
 ·rw [isT_cons,isT_cons,ht,Al_if_neg (by decide),Al_if_pos (by decide)];show (pX 5 (l++r)).bind _=_;rw [hA];rfl
theorem rd_key {a:Ex} (ha:Rd a) (h1:1<=a.lv) {l r:List Tk} (hl:l.map kt=(4,[91])::(ktE a++[(4,[93])])):isT [91] (l++r)=true/\∀ (g:Ex->List Tk->Rs Ex),((pX 0 (l++r).tail).bind λx r4=>needT [93] r4 λr5=>g x r5)=g a r:=by
 obtain ⟨t,l1,rfl,ht,hk⟩:=Al_List_map_eq_cons_iff.1 hl;obtain ⟨l2,l3,rfl,h2,h3⟩:=Al_List_map_eq_append_iff.1 hk;obtain ⟨t2,l4,rfl,ht2,h4⟩:=Al_List_map_eq_cons_iff.1 h3;obtain rfl:=Al_List_map_eq_nil_iff.1 h4;refine ⟨by rw [Al_List_cons_append,isT_cons,ht];decide,λg=>?_⟩;have hf:=ha.full h2 (r:=t2::r) (lv:=0) (by omega) h1 (.of (by rw [ht2];decide) (by rw [ht2];decide));simp only [Al_List_cons_append,Al_List_append_assoc,Al_List_nil_append,Al_List_tail_cons];rw [hf];show needT [93] (t2::r) _=_;rw [needT,isT_cons,ht2,Al_if_pos (by decide)]
 rfl
theorem rd_all (e:Ex):Ex.all frmE e=true->Rd e/\1<=e.lv:=by
 induction e using Ex.ind with
 | _ op nm n args ih =>
  intro h;rw [all_mk,Al_Bool_and_eq_true] at h;obtain ⟨hf,hr⟩:=h;have ha:∀ a∈args,Rd a/\1<=a.lv:=λa m=>ih a m (alls_mem m hr);simp only [frmE,Al_Bool_and_eq_true,Al_Bool_or_eq_true,Al_decide_eq_true_eq] at hf;obtain ⟨⟨⟨hop,hl⟩,hnm⟩,hn⟩:=hf;refine ⟨?_,ok_lv hop⟩;have hm:=ok_cases hop
  by_cases h1:op=1
  ·subst h1;obtain rfl:=args0 hl;obtain rfl:nm=[]:=hnm.resolve_left (by decide);rw [Al_if_pos rfl,Al_decide_eq_true_eq] at hn;refine .of (show 6<=(shapeOf 1).lv by decide) λle r hk _=>?_;obtain ⟨t,rfl,ht⟩:=ktE_one (x:=(3,Lib.itoa n.toInt)) rfl hk;have hk3:t.k=3:=congrArg Prod.fst ht;have ht2:t.t=Lib.itoa n.toInt:=congrArg Prod.snd ht;have hlt:=n.toInt_lt;rw [Al_List_cons_append,Al_List_nil_append,pX_un,isT_cons,isT_cons,ht,Al_if_neg (by simp [isK]),Al_if_neg (by simp [isK]),primE];rw [Al_if_pos hk3,ht2,numV_itoa hn,Al_if_pos (by omega)]
   congr 2
   exact Al_Int64_toInt_inj.1 (by rw [Al_Int64_toInt_ofNat_of_lt (by omega)];omega)
  rw [Al_if_neg h1,Al_decide_eq_true_eq] at hn;obtain rfl:=i64_zero hn
  by_cases hb:op∈([11,12,13,14,15,16,17,18,19,20,21,22,23]:List UInt8)
  ·obtain ⟨b1,b2,_⟩:=bin_facts op hb;obtain ⟨a,b,rfl⟩:=args2 (l:=args) (by omega)
   obtain rfl : nm = [] := by rcases hnm with e | e
                              ·rw [b2] at e;cases e
                              ·exact e
   have h3:=ha a (by simp);have h4:=ha b (by simp);exact rd_bin hb h3.1 h4.1 h3.2 h4.2
  have hs:op=2\/op=3\/op=4\/op=5\/op=6\/op=7\/op=8\/op=9\/op=10:=((ok_split hop).resolve_left h1).resolve_left hb
  have cst:∀ (w:Str),op=2\/op=3\/op=4->w=(shapeOf op).tx->Rd (.mk op nm 0 args):=by
   intro w ho hw
   have hnil:args=[]:=by
    rcases ho with rfl | rfl | rfl <;> exact args0 hl
   have hnm0:nm=[]:=by
    rcases ho with rfl | rfl | rfl <;> exact hnm.resolve_left (by decide)
   subst hnil hnm0;refine .of (by rcases ho with rfl | rfl | rfl <;> exact (by decide:6<=7)) λle r hk _=>?_;rcases ho with rfl | rfl | rfl
   all_goals
    obtain ⟨t,rfl,ht⟩:=ktE_one rfl hk;have hk3:t.k=2:=congrArg Prod.fst ht;rw [Al_List_cons_append,Al_List_nil_append,pX_un,isT_cons,isT_cons,ht,Al_if_neg (by decide),Al_if_neg (by decide),primE];simp only [isT_cons,ht];rw [Al_if_neg (by rw [hk3];decide)]
   ·rw [Al_if_pos (by decide)];rfl
   ·rw [Al_if_neg (by decide),Al_if_pos (by decide)];rfl
   ·rw [Al_if_neg (by decide),Al_if_neg (by decide),Al_if_pos (by decide)];rfl
  rcases hs with rfl | rfl | rfl | rfl | rfl | rfl | rfl | rfl | rfl
  ·exact cst _ (.inl Z) rfl
  ·exact cst _ (.inr (.inl Z)) rfl
  ·exact cst _ (.inr (.inr Z)) rfl
  ·obtain rfl:=args0 hl;refine .of (show 6<=(shapeOf 5).lv by decide) λle r hk h91=>?_;obtain ⟨t,rfl,ht⟩:=ktE_one (x:=(1,nm)) rfl hk;have hk1:t.k=1:=congrArg Prod.fst ht;have ht2:t.t=nm:=congrArg Prod.snd ht;have hno:∀ w,isK w (1,nm)=false:=λw=>by simp [isK]
   rw [Al_List_cons_append,Al_List_nil_append,pX_un,isT_cons,isT_cons,ht,hno,hno,Al_if_neg (by decide),Al_if_neg (by decide),primE];simp only [isT_cons,ht,hno];rw [Al_if_neg (by rw [hk1];decide)];simp only [Al_Bool_false_eq_true,Al_if_false];rw [Al_if_pos hk1,h91,Al_if_neg (by decide),ht2]
  ·obtain ⟨a,rfl⟩:=args1 hl;obtain ⟨ra,r1⟩:=ha a (by simp);refine .of (show 6<=(shapeOf 6).lv by decide) λle r hk h91=>?_;obtain ⟨t,l,rfl,ht,hl⟩:=Al_List_map_eq_cons_iff.1 (show le.map kt=(1,nm)::(4,[91])::(ktE a++[(4,[93])]) from hk);have hk1:t.k=1:=congrArg Prod.fst ht;have ht2:t.t=nm:=congrArg Prod.snd ht;have hno:∀ w,isK w (1,nm)=false:=λw=>by simp [isK]
   obtain ⟨k1,k2⟩:=rd_key ra r1 hl (r:=r);rw [Al_List_cons_append,pX_un,isT_cons,isT_cons,ht,hno,hno,Al_if_neg (by decide),Al_if_neg (by decide),primE];simp only [isT_cons,ht,hno];rw [Al_if_neg (by rw [hk1];decide)];simp only [Al_Bool_false_eq_true,Al_if_false];rw [Al_if_pos hk1,k1,Al_if_pos rfl,k2,ht2]
  ·obtain ⟨a,rfl⟩:=args1 hl;obtain ⟨ra,r1⟩:=ha a (by simp);refine .of (show 6<=(shapeOf 7).lv by decide) λle r hk h91=>?_;obtain ⟨t,l,rfl,ht,hl⟩:=Al_List_map_eq_cons_iff.1 (show le.map kt=(2,[104,97,115])::(1,nm)::(4,[91])::(ktE a++[(4,[93])]) from hk);obtain ⟨t2,l2,rfl,ht2,hl⟩:=Al_List_map_eq_cons_iff.1 hl;have hk1:t.k=2:=congrArg Prod.fst ht;have hk2:t2.k=1:=congrArg Prod.fst ht2;have ht3:t2.t=nm:=congrArg Prod.snd ht2;obtain ⟨k1,k2⟩:=rd_key ra r1 hl (r:=r);rw [Al_List_cons_append,pX_un,isT_cons,isT_cons,ht,Al_if_neg (by decide),Al_if_neg (by decide),primE];simp only [isT_cons,ht];rw [Al_if_neg (by rw [hk1];decide),Al_if_neg (by decide),Al_if_neg (by decide),Al_if_neg (by decide),Al_if_neg (by decide),Al_if_neg (by decide),Al_if_pos (by decide),Al_List_cons_append,nameT];rw [Al_if_pos hk2,needT,k1,Al_if_pos rfl,k2,ht3]
  ·obtain rfl:=args0 hl;refine .of (show 6<=(shapeOf 8).lv by decide) λle r hk h91=>?_;obtain ⟨t,l,rfl,ht,hl⟩:=Al_List_map_eq_cons_iff.1 (show le.map kt=(2,[115,105,122,101])::(1,nm)::[] from hk);obtain ⟨t2,l2,rfl,ht2,hl⟩:=Al_List_map_eq_cons_iff.1 hl;obtain rfl:=Al_List_map_eq_nil_iff.1 hl;have hk1:t.k=2:=congrArg Prod.fst ht;have hk2:t2.k=1:=congrArg Prod.fst ht2;have ht3:t2.t=nm:=congrArg Prod.snd ht2;rw [Al_List_cons_append,pX_un,isT_cons,isT_cons,ht,Al_if_neg (by decide),Al_if_neg (by decide),primE];simp only [isT_cons,ht];rw [Al_if_neg (by rw [hk1];decide),Al_if_neg (by decide),Al_if_neg (by decide),Al_if_neg (by decide),Al_if_pos (by decide),Al_List_cons_append,nameT];rw [Al_if_pos hk2,ht3];rfl
  ·obtain ⟨a,rfl⟩:=args1 hl;obtain ⟨ra,r1⟩:=ha a (by simp);obtain rfl:nm=[]:=hnm.resolve_left (by decide);exact rd_un ra r1 (.inl Z)
  ·obtain ⟨a,rfl⟩:=args1 hl;obtain ⟨ra,r1⟩:=ha a (by simp);obtain rfl:nm=[]:=hnm.resolve_left (by decide);exact rd_un ra r1 (.inr Z)
abbrev Pz (α:Type):=List Tk->Rs α
section
variable {α β:Type}
def gPure (a:α):Pz α:=λr=>.ok a r
def gBind (p:Pz α) (f:α->Pz β):Pz β:=λr=>(p r).bind f
def gNd (w:Str):Pz Unit:=λr=>if isT w r then .ok () r.tail else .er r 8
def gNm:Pz Str:=λr=>match r with | []=>.er r 8 | t::q=>if t.k=1 then .ok t.t q else .er r 8
def gNu:Pz Int64:=λr=>match r with | []=>.er r 8 | t::q=>if t.k=3 then (if numV t.t<=9223372036854775807 then .ok (Int64.ofNat (numV t.t)) q else .er r 2) else .er r 8
def gAlt (w:Str) (p q:Pz α):Pz α:=λr=>if isT w r then p r.tail else q r
def gManyF (w:Str) (p:Pz α):Nat->Pz (List α)
 | 0=>λr=>.er r 99
 | f+1=>gAlt w (gBind p λa=>gBind (gManyF w p f) λl=>gPure (a::l)) (gPure [])
def gMany (w:Str) (p:Pz α):Pz (List α):=λr=>gManyF w p (r.length+1) r
end
def gEx:Pz Ex:=pX 0
def gBlk (b:Pz (List Sm)):Pz (List Sm):=gBind (gNd [123]) λ_=>gBind b λl=>gBind (gNd [125]) λ_=>gPure l
def gEls (b:Pz (List Sm)):Pz (List Sm):=gAlt [101,108,115,101] (gBlk b) (gPure [])
def gOth (b:Pz (List Sm)):Pz (List Sm):=gAlt [101,108,115,101] (gBlk b) (gBind (gNd [59]) λ_=>gPure [])
def gList {α:Type} (p:Pz α):Pz (List α):=gBind (gNd [40]) λ_=>gAlt [41] (gPure []) (gBind p λa=>gBind (gMany [44] p) λl=>gBind (gNd [41]) λ_=>gPure (a::l))
def gSt (b:Pz (List Sm)):Pz Sm :=
 gAlt [105,102] (gBind gEx λe=>gBind (gBlk b) λt=>gBind (gEls b) λl=>gPure (.mk 4 [] [] [e] t l))<|gAlt [119,104,105,108,101] (gBind gEx λe=>gBind (gBlk b) λt=>gPure (.mk 5 [] [] [e] t []))<|gAlt [115,116,111,114,101] (gBind gEx λe=>gBind (gNd [61]) λ_=>gBind gEx λe2=>gBind (gOth b) λl=>gPure (.mk 8 [] [] [e,e2] [] l))<|gAlt [102,101,116,99,104] (gBind gNm λn=>gBind (gNd [61]) λ_=>gBind gEx λe=>gBind (gOth b) λl=>gPure (.mk 9 n [] [e] [] l))<|gAlt [115,101,110,100] (gBind gNm λn=>gBind (gNd [46]) λ_=>gBind gNm λh=>gBind (gList gEx) λl=>gBind (gNd [59]) λ_=>gPure (.mk 6 n h l [] []))<|gAlt [97,102,116,101,114] (gBind gEx λe=>gBind (gNd [100,111]) λ_=>gBind gNm λh=>gBind (gList gEx) λl=>gBind (gNd [59]) λ_=>gPure (.mk 7 [] h (e::l) [] []))<|gAlt [115,116,111,112] (gBind (gNd [59]) λ_=>gPure (.mk 10 [] [] [] [] []))<|gAlt [100,101,108,101,116,101] (gBind gNm λn=>gBind (gNd [91]) λ_=>gBind gEx λe=>gBind (gNd [93]) λ_=>gBind (gNd [59]) λ_=>gPure (.mk 3 n [] [e] [] []))<|gBind gNm λn=>gAlt [91] (gBind gEx λe=>gBind (gNd [93]) λ_=>gBind (gNd [61]) λ_=>gBind gEx λe2=>gBind (gNd [59]) λ_=>gPure (.mk 2 n [] [e,e2] [] []))
  (gBind (gNd [61]) λ_=>gBind gEx λe=>gBind (gNd [59]) λ_=>gPure (.mk 1 n [] [e] [] []))
def gBF:Nat->Pz (List Sm)
 | 0=>λr=>.er r 99
 | f+1=>λr=>if isT [125] r then .ok [] r else (gSt (gBF f) r).bind λs r1=>(gBF f r1).bind λl r2=>.ok (s::l) r2
def gB:Pz (List Sm):=λr=>gBF (r.length+1) r
def gInt:Pz Int64:=gAlt [45] (gBind gNu λv=>gPure (-v)) gNu
def gHd:Pz Hd:=gBind gNm λn=>gBind (gList gNm) λl=>gBind (gBlk gB) λb=>gPure ⟨n,l,b⟩
/-! ### Rules that consume -/
section
variable {α β:Type}
def Shr (p:Pz α):Prop:=∀ r a r',p r=.ok a r'->r'.length<=r.length
def Shs (p:Pz α):Prop:=∀ r a r',p r=.ok a r'->r'.length<r.length
theorem Shs.le {p:Pz α} (h:Shs p):Shr p:=λr a r' e=>Al_Nat_le_of_lt (h r a r' e)
theorem Shr.pure (a:α):Shr (gPure a):=λr a r' e=>by injection e with _ e;subst e;exact Al_Nat_le_refl _
theorem Shr.bind {p:Pz α} {f:α->Pz β} (h:Shr p) (k:∀ a,Shr (f a)):Shr (gBind p f):=λr b r' e=>by
 obtain ⟨a,q,h1,h2⟩:=Rs.bind_ok e;have:=h _ _ _ h1;have:=k _ _ _ _ h2;omega
theorem Shs.bind {p:Pz α} {f:α->Pz β} (h:Shs p) (k:∀ a,Shr (f a)):Shs (gBind p f):=λr b r' e=>by
 obtain ⟨a,q,h1,h2⟩:=Rs.bind_ok e;have:=h _ _ _ h1;have:=k _ _ _ _ h2;omega
theorem Shs.nd (w:Str):Shs (gNd w):=λr a r' e=>by
 unfold gNd at e
 split at e
 ·rename_i h;injection e with _ e;subst e;have:=isT_ne h;omega
 ·cases e
theorem Shs.nm:Shs gNm:=λr a r' e=>by
 unfold gNm at e
 split at e
 ·cases e
 ·split at e
  ·injection e with _ e;subst e;simp
  ·cases e
theorem Shs.nu:Shs gNu:=λr a r' e=>by
 unfold gNu at e
 split at e
 ·cases e
 ·split at e
  ·split at e
   ·injection e with _ e;subst e;simp
   ·cases e
  ·cases e
theorem Shs.ex:Shs gEx:=λr a r' e=>(pE_len _).1 _ _ _ _ e
theorem Shr.alt {w:Str} {p q:Pz α} (h:Shr p) (k:Shr q):Shr (gAlt w p q):=λr a r' e=>by
 unfold gAlt at e
 split at e
 ·rename_i h2;have:=isT_ne h2;have:=h _ _ _ e;omega
 ·exact k _ _ _ e
theorem Shs.alt {w:Str} {p q:Pz α} (h:Shr p) (k:Shs q):Shs (gAlt w p q):=λr a r' e=>by
 unfold gAlt at e
 split at e
 ·rename_i h2;have:=isT_ne h2;have:=h _ _ _ e;omega
 ·exact k _ _ _ e
theorem Shr.many {w:Str} {p:Pz α} (h:Shr p):Shr (gMany w p):=by
 have key:∀ f,Shr (gManyF w p f):=λf=>by
  induction f with
  | zero=>intro r a r' e;cases e
  | succ f ih=>exact .alt (.bind h λa=>.bind ih λl=>.pure _) (.pure _)
 exact λr a r' e=>key _ _ _ _ e
theorem gManyF_more {w:Str} {p:Pz α} (h:Shr p):∀ (f g:Nat) (r:List Tk),r.length<f->r.length<g->gManyF w p f r=gManyF w p g r
 | 0,_,_,k,_=>by omega
 | _,0,_,_,k=>by omega
 | f+1,g+1,r,k1,k2=>by
  unfold gManyF gAlt
  split
  ·rename_i e;have:=isT_ne e;refine Rs.bind_congr rfl λa q e2=>?_;have:=h _ _ _ e2;exact Rs.bind_congr (gManyF_more h f g q (by omega) (by omega)) λ_ _ _=>rfl
  ·rfl
theorem gMany_eq {w:Str} {p:Pz α} (h:Shr p):gMany w p=gAlt w (gBind p λa=>gBind (gMany w p) λl=>gPure (a::l)) (gPure []):=funext λr=>by
 unfold gMany
 conv=>lhs;unfold gManyF
 unfold gAlt
 split
 ·rename_i e;have:=isT_ne e;refine Rs.bind_congr rfl λa q e2=>?_;have:=h _ _ _ e2;exact Rs.bind_congr (gManyF_more h _ _ q (by omega) (by omega)) λ_ _ _=>rfl
 ·rfl
theorem Shs.list {p:Pz α} (h:Shr p):Shs (gList p):=.bind (.nd _) λ_=>.alt (.pure _) (.bind h λ_=>.bind (.many h) λ_=>.bind (Shs.nd _).le λ_=>.pure _)
/-! ### Rules that agree on short lists of tokens -/
def Agz (n:Nat) (p q:Pz α):Prop:=∀ r,r.length<=n->p r=q r
theorem Agz.rfl' {n:Nat} {p:Pz α}:Agz n p p:=λ_ _=>rfl
theorem Agz.bind {n:Nat} {p q:Pz α} {f g:α->Pz β} (hp:Shr p) (h:Agz n p q) (k:∀ a,Agz n (f a) (g a)):Agz n (gBind p f) (gBind q g):=λr hr =>
 Rs.bind_congr (h r hr) λa r' e=>k a r' (Al_Nat_le_trans (hp _ _ _ e) hr)
theorem Agz.alt {n:Nat} {w:Str} {p q p' q':Pz α} (h:Agz (n - 1) p p') (k:Agz n q q'):Agz n (gAlt w p q) (gAlt w p' q'):=λr hr=>by
 unfold gAlt
 split
 ·rename_i e;have:=isT_ne e;exact h _ (by omega)
 ·exact k r hr
theorem Agz.altr {n:Nat} {w:Str} {p q p' q':Pz α} (h:Agz n p p') (k:Agz n q q'):Agz n (gAlt w p q) (gAlt w p' q'):=.alt (λr hr=>h r (by omega)) k
end
theorem Shs.blk {b:Pz (List Sm)} (h:Shr b):Shs (gBlk b):=.bind (.nd _) λ_=>.bind h λ_=>.bind (Shs.nd _).le λ_=>.pure _
theorem Shr.els {b:Pz (List Sm)} (h:Shr b):Shr (gEls b):=.alt (Shs.blk h).le (.pure _)
theorem Shr.oth {b:Pz (List Sm)} (h:Shr b):Shr (gOth b):=.alt (Shs.blk h).le (.bind (Shs.nd _).le λ_=>.pure _)
theorem Shs.st {b:Pz (List Sm)} (h:Shr b):Shs (gSt b) :=
 .alt (.bind Shs.ex.le λ_=>.bind (Shs.blk h).le λ_=>.bind (.els h) λ_=>.pure _)<|.alt (.bind Shs.ex.le λ_=>.bind (Shs.blk h).le λ_=>.pure _)<|.alt (.bind Shs.ex.le λ_=>.bind (Shs.nd _).le λ_=>.bind Shs.ex.le λ_=>.bind (.oth h) λ_=>.pure _)<|.alt (.bind Shs.nm.le λ_=>.bind (Shs.nd _).le λ_=>.bind Shs.ex.le λ_=>.bind (.oth h) λ_=>.pure _)<|.alt (.bind Shs.nm.le λ_=>.bind (Shs.nd _).le λ_=>.bind Shs.nm.le λ_=>.bind (Shs.list Shs.ex.le).le λ_=>.bind (Shs.nd _).le λ_=>.pure _)<|.alt (.bind Shs.ex.le λ_=>.bind (Shs.nd _).le λ_=>.bind Shs.nm.le λ_=>.bind (Shs.list Shs.ex.le).le λ_=>.bind (Shs.nd _).le λ_=>.pure _)<|.alt (.bind (Shs.nd _).le λ_=>.pure _)<|.alt (.bind Shs.nm.le λ_=>.bind (Shs.nd _).le λ_=>.bind Shs.ex.le λ_=>.bind (Shs.nd _).le λ_=>.bind (Shs.nd _).le λ_=>.pure _)<|.bind .nm λ_=>.alt (.bind Shs.ex.le λ_=>.bind (Shs.nd _).le λ_=>.bind (Shs.nd _).le λ_=>.bind Shs.ex.le λ_=>.bind (Shs.nd _).le λ_=>.pure _) (.bind (Shs.nd _).le λ_=>.bind Shs.ex.le λ_=>.bind (Shs.nd _).le λ_=>.pure _)
theorem Agz.blk {b c:Pz (List Sm)} (h:Agz n b c) (hb:Shr b):Agz n (gBlk b) (gBlk c):=.bind (Shs.nd _).le .rfl' λ_=>.bind hb h λ_=>.rfl'
theorem Agz.els {b c:Pz (List Sm)} (h:Agz n b c) (hb:Shr b):Agz n (gEls b) (gEls c):=.altr (.blk h hb) .rfl'
theorem Agz.oth {b c:Pz (List Sm)} (h:Agz n b c) (hb:Shr b):Agz n (gOth b) (gOth c):=.altr (.blk h hb) .rfl'
theorem Agz.st {b c:Pz (List Sm)} (h:Agz (n - 1) b c) (hb:Shr b):Agz n (gSt b) (gSt c) :=
 .alt (.bind Shs.ex.le .rfl' λ_=>.bind (Shs.blk hb).le (.blk h hb) λ_=>.bind (.els hb) (.els h hb) λ_=>.rfl')<|.alt (.bind Shs.ex.le .rfl' λ_=>.bind (Shs.blk hb).le (.blk h hb) λ_=>.rfl')<|.alt (.bind Shs.ex.le .rfl' λ_=>.bind (Shs.nd _).le .rfl' λ_=>.bind Shs.ex.le .rfl' λ_=>.bind (.oth hb) (.oth h hb) λ_=>.rfl')<|.alt (.bind Shs.nm.le .rfl' λ_=>.bind (Shs.nd _).le .rfl' λ_=>.bind Shs.ex.le .rfl' λ_=>.bind (.oth hb) (.oth h hb) λ_=>.rfl') .rfl'
theorem gBF_shr:∀ f,Shr (gBF f)
 | 0=>λ_ _ _ e=>by cases e
 | f+1=>λr a r' e=>by
  unfold gBF at e
  split at e
  ·injection e with _ e;subst e;exact Al_Nat_le_refl _
  ·obtain ⟨s,q,h1,h2⟩:=Rs.bind_ok e;obtain ⟨l,q2,h3,h4⟩:=Rs.bind_ok h2;injection h4 with _ h4;subst h4
   have:=(Shs.st (gBF_shr f)) _ _ _ h1;have:=gBF_shr f _ _ _ h3;omega
theorem Shr.b:Shr gB:=λ_ _ _ e=>gBF_shr _ _ _ _ e
theorem gBF_more:∀ (f g:Nat) (r:List Tk),r.length<f->r.length<g->gBF f r=gBF g r
 | 0,_,_,k,_=>by omega
 | _,0,_,_,k=>by omega
 | f+1,g+1,[],_,_=>rfl
 | f+1,g+1,t::r,k1,k2=>by
  unfold gBF;simp only [Al_List_length_cons] at k1 k2;refine ifC rfl (Rs.bind_congr (Agz.st (n:=(t::r).length) (λq hq=>?_) (gBF_shr f) _ (Al_Nat_le_refl _)) λs q e=>?_)
  ·simp only [Al_List_length_cons] at hq;exact gBF_more f g q (by omega) (by omega)
  ·have:=(Shs.st (gBF_shr f)) _ _ _ e;simp only [Al_List_length_cons] at this;exact Rs.bind_congr (gBF_more f g q (by omega) (by omega)) λ_ _ _=>rfl
theorem gB_eq (r:List Tk):gB r=if isT [125] r then .ok [] r else (gSt gB r).bind λs r1=>(gB r1).bind λl r2=>.ok (s::l) r2:=by
 match r with
 | []=>rfl
 | t::r =>
  conv=>lhs;unfold gB;unfold gBF
  refine ifC rfl (Rs.bind_congr (Agz.st (n:=(t::r).length) (λq hq=>?_) (gBF_shr _) _ (Al_Nat_le_refl _)) λs q e=>?_)
  ·simp only [Al_List_length_cons] at hq;exact gBF_more _ _ q (by simp only [Al_List_length_cons];omega) (by omega)
  ·have:=(Shs.st (gBF_shr _)) _ _ _ e;exact Rs.bind_congr (gBF_more _ _ q (by omega) (by omega)) λ_ _ _=>rfl
def hdO (r:List Tk):Option Kt:=r.head?.map kt
def hdC (k:List Kt) (o:Option Kt):Option Kt:=match k with | []=>o | x::_=>some x
theorem hdO_app {l r:List Tk} {k:List Kt} (h:l.map kt=k):hdO (l++r)=hdC k (hdO r):=by
 subst h;cases l <;> rfl
def anyO (_:Option Kt):Prop:=True
def notW (w:Str):Option Kt->Prop
 | none=>True
 | some x=>isK w x=false
def stpO:Option Kt->Prop
 | none=>True
 | some x=>(∀ i∈List.range 5,opK i x=none)/\isK [91] x=false
theorem isT_hdO (w:Str) (r:List Tk):isT w r=match hdO r with | none=>false | some x=>isK w x:=by cases r <;> rfl
variable {w:Str}
theorem notW_isT {r:List Tk} (h:notW w (hdO r)):isT w r=false:=by
 rw [isT_hdO];cases e:hdO r with
 | none=>rfl
 | some x=>rw [e] at h;exact h
section
variable {α β:Type}
def Rdc (p:Pz α) (ks:List Kt) (v:α) (C:Option Kt->Prop):Prop:=∀ le r,le.map kt=ks->C (hdO r)->p (le++r)=.ok v r
variable {k k1 k2:List Kt} {v a:α} {C C1 C2:Option Kt->Prop} {w:Str} {x:Kt}
theorem Rdc.pure:Rdc (gPure v) [] v C:=λle r e _=>by
 obtain rfl:=Al_List_map_eq_nil_iff.1 e;rfl
theorem Rdc.seq {p:Pz α} {f:α->Pz β} {b:β} (h1:Rdc p k1 a C1) (hc:∀ o,C2 o->C1 (hdC k2 o)) (h2:Rdc (f a) k2 b C2):Rdc (gBind p f) (k1++k2) b C2:=λle r e c=>by
 obtain ⟨l1,l2,rfl,e1,e2⟩:=Al_List_map_eq_append_iff.1 e;unfold gBind;rw [Al_List_append_assoc,h1 l1 (l2++r) e1 (by rw [hdO_app e2];exact hc _ c)];exact h2 l2 r e2 c
theorem Rdc.nd {f:Unit->Pz β} {b:β} (hx:isK w x=true) (h:Rdc (f ()) k b C):Rdc (gBind (gNd w) f) (x::k) b C:=λle r e c=>by
 obtain ⟨t,l,rfl,ht,hl⟩:=Al_List_map_eq_cons_iff.1 e;unfold gBind gNd;rw [Al_List_cons_append,isT_cons,ht,hx];exact h l r hl c
theorem Rdc.nm {f:Str->Pz β} {b:β} (h:Rdc (f w) k b C):Rdc (gBind gNm f) ((1,w)::k) b C:=λle r e c=>by
 obtain ⟨t,l,rfl,ht,hl⟩:=Al_List_map_eq_cons_iff.1 e;have h1:t.k=1:=congrArg Prod.fst ht;have h2:t.t=w:=congrArg Prod.snd ht;unfold gBind gNm;rw [Al_List_cons_append];simp only [h1,h2,Al_if_true];exact h l r hl c
theorem Rdc.nm1:Rdc gNm [(1,w)] w C:=λle r e c=>by
 obtain ⟨t,l,rfl,ht,hl⟩:=Al_List_map_eq_cons_iff.1 e;obtain rfl:=Al_List_map_eq_nil_iff.1 hl;have h1:t.k=1:=congrArg Prod.fst ht;have h2:t.t=w:=congrArg Prod.snd ht;unfold gNm;rw [Al_List_cons_append];simp only [h1,h2,Al_if_true]
 rfl
theorem Rdc.nu {u:Nat} (h:u<=9223372036854775807):Rdc gNu [(3,Lib.decDigits u)] (Int64.ofNat u) C:=λle r e c=>by
 obtain ⟨t,l,rfl,ht,hl⟩:=Al_List_map_eq_cons_iff.1 e;obtain rfl:=Al_List_map_eq_nil_iff.1 hl;have h1:t.k=3:=congrArg Prod.fst ht;have h2:t.t=Lib.decDigits u:=congrArg Prod.snd ht;unfold gNu;rw [Al_List_cons_append];simp only [h1,h2,Al_if_true,numV_digits,h]
 rfl
theorem Rdc.altT {p q:Pz α} (hx:isK w x=true) (h:Rdc p k v C):Rdc (gAlt w p q) (x::k) v C:=λle r e c=>by
 obtain ⟨t,l,rfl,ht,hl⟩:=Al_List_map_eq_cons_iff.1 e;unfold gAlt;rw [Al_List_cons_append,isT_cons,ht,hx];exact h l r hl c
theorem Rdc.altF {p q:Pz α} (hx:isK w x=false) (h:Rdc q (x::k) v C):Rdc (gAlt w p q) (x::k) v C:=λle r e c=>by
 have h2:=h le r e c;obtain ⟨t,l,rfl,ht,hl⟩:=Al_List_map_eq_cons_iff.1 e;unfold gAlt;rw [Al_List_cons_append,isT_cons,ht,hx];exact h2
theorem Rdc.altE {p q:Pz α} (hc:∀ o,C o->notW w o) (h:Rdc q [] v C):Rdc (gAlt w p q) [] v C:=λle r e c=>by
 have h2:=h le r e c;obtain rfl:=Al_List_map_eq_nil_iff.1 e;unfold gAlt;rw [Al_List_nil_append,notW_isT (hc _ c),Al_if_neg (by decide)];exact h2
theorem Rdc.many {p:Pz α} (hp:Shr p) (hx:isK w x=true) {g:α->List Kt} {Cp:Option Kt->Prop} (h1:Cp (some x)) (hc:∀ o,C o->Cp o/\notW w o):∀ l:List α,(∀ a∈l,Rdc p (g a) a Cp)->Rdc (gMany w p) ((l.map λa=>x::g a).flatten) l C
 | [],_=>by
  rw [gMany_eq hp];exact .altE (λo c=>(hc o c).2) .pure
 | a::l,h=>by
  have ih:=Rdc.many hp hx h1 hc l λb hb=>h b (Al_List_mem_cons_of_mem _ hb);rw [gMany_eq hp];simp only [Al_List_map_cons,Al_List_flatten_cons,Al_List_cons_append];refine .altT hx (.seq (h a (Al_List_mem_cons_self ..)) (λo c=>?_) ?_)
  ·cases l with
   | nil=>exact (hc o c).1
   | cons b l=>exact h1
  ·have:=Rdc.seq (f:=λl=>gPure (a::l)) (k2:=[]) ih (λo c=>c) .pure
   rwa [Al_List_append_nil] at this
def comK (l:List (List Kt)):List Kt:=(l.map λk=>(4,[44])::k).flatten
def sepK:List (List Kt)->List Kt
 | []=>[]
 | k::l=>k++comK l
def lstK (l:List (List Kt)):List Kt:=(4,[40])::(sepK l++[(4,[41])])
theorem Rdc.list {p:Pz α} (hp:Shr p) {g:α->List Kt} {Cp:Option Kt->Prop} (h1:Cp (some (4,[44]))) (h2:Cp (some (4,[41]))) {l:List α} (h:∀ a∈l,Rdc p (g a) a Cp) (hg:∀ a∈l,∃ x k,g a=x::k/\isK [41] x=false):Rdc (gList p) (lstK (l.map g)) l C:=by
 refine .nd Z ?_;cases l with
 | nil=>exact .altT rfl .pure
 | cons a l =>
  obtain ⟨x,k,e,hk⟩:=hg a (Al_List_mem_cons_self ..);have ha:=h a (Al_List_mem_cons_self ..)
  have hm:Rdc (gMany [44] p) (comK (l.map g)) l (λo=>o=some (4,[41])):=by
   have:=Rdc.many (C:=λo=>o=some (4,[41])) hp (w:=[44]) (x:=(4,[44])) rfl (g:=g) h1 (λo c=>by subst c;exact ⟨h2,Z⟩) l λb hb=>h b (Al_List_mem_cons_of_mem _ hb);unfold comK
   rwa [Al_List_map_map]
  have key:Rdc (gBind p λa=>gBind (gMany [44] p) λl=>gBind (gNd [41]) λ_=>gPure (a::l)) (g a++(comK (l.map g)++[(4,[41])])) (a::l) C:=by
   refine .seq ha (λo c=>?_) (.seq hm (λo c=>rfl) (.nd Z .pure));cases l with
   | nil=>exact h2
   | cons b l=>exact h1
  simp only [Al_List_map_cons,sepK,Al_List_append_assoc];rw [e] at key|-;exact .altF hk key
end
def stK (kd:UInt8) (nm hd:Str) (es:List (List Kt)) (T:List Kt) (noE:Bool) (E:List Kt):List Kt :=
 if kd=1 then (1,nm)::(4,[61])::(es.getD 0 []++[(4,[59])])
 else if kd=2 then (1,nm)::(4,[91])::(es.getD 0 []++(4,[93])::(4,[61])::(es.getD 1 []++[(4,[59])]))
 else if kd=3 then (2,[100,101,108,101,116,101])::(1,nm)::(4,[91])::(es.getD 0 []++[(4,[93]),(4,[59])])
 else if kd=4 then (2,[105,102])::(es.getD 0 []++((4,[123])::(T++[(4,[125])])++if noE then [] else (2,[101,108,115,101])::(4,[123])::(E++[(4,[125])])))
 else if kd=5 then (2,[119,104,105,108,101])::(es.getD 0 []++(4,[123])::(T++[(4,[125])]))
 else if kd=6 then (2,[115,101,110,100])::(1,nm)::(4,[46])::(1,hd)::(lstK es++[(4,[59])])
 else if kd=7 then (2,[97,102,116,101,114])::(es.getD 0 []++(2,[100,111])::(1,hd)::(lstK (es.drop 1)++[(4,[59])]))
 else if kd=8 then (2,[115,116,111,114,101])::(es.getD 0 []++(4,[61])::(es.getD 1 []++if noE then [(4,[59])] else (2,[101,108,115,101])::(4,[123])::(E++[(4,[125])])))
 else if kd=9 then (2,[102,101,116,99,104])::(1,nm)::(4,[61])::(es.getD 0 []++if noE then [(4,[59])] else (2,[101,108,115,101])::(4,[123])::(E++[(4,[125])]))
 else [(2,[115,116,111,112]),(4,[59])]
mutual
def ktS:Sm->List Kt
 | .mk kd nm hd ex th el=>stK kd nm hd (ex.map ktE) (ktSs th) (decide (el.length=0)) (ktSs el)
def ktSs:List Sm->List Kt
 | []=>[]
 | s::r=>ktS s++ktSs r
end
theorem ktS_mk (kd:UInt8) (nm hd:Str) (ex:List Ex) (th el:List Sm):ktS (.mk kd nm hd ex th el)=stK kd nm hd (ex.map ktE) (ktSs th) (decide (el.length=0)) (ktSs el):=by rw [ktS]
theorem Rdc.ex {e:Ex} (h:Ex.all frmE e=true):Rdc gEx (ktE e) e stpO:=λle r hk c=>by
 obtain ⟨h1,h2⟩:=rd_all e h;refine h1.full hk (by omega) h2 ⟨λi _ h4=>?_,?_⟩
 ·cases r with
  | nil=>unfold opAt isT;simp
  | cons t r=>exact c.1 i (Al_List_mem_range.2 (by omega))
 ·cases r with
  | nil=>rfl
  | cons t r=>exact c.2
theorem ktE_hd (e:Ex):Ex.all frmE e=true->∃ x k,ktE e=x::k/\isK [41] x=false:=by
 induction e using Ex.ind with
 | _ op nm n args ih =>
  intro h;rw [all_mk,Al_Bool_and_eq_true] at h;obtain ⟨hf,hr⟩:=h;have ha:∀ a∈args,∃ x k,ktE a=x::k/\isK [41] x=false:=λa m=>ih a m (alls_mem m hr);simp only [frmE,Al_Bool_and_eq_true,Al_Bool_or_eq_true,Al_decide_eq_true_eq] at hf;obtain ⟨⟨⟨hop,hl⟩,_⟩,_⟩:=hf
  by_cases h1:op=1
  ·subst h1;exact ⟨_,_,Z,by simp [isK]⟩
  by_cases hb:op∈([11,12,13,14,15,16,17,18,19,20,21,22,23]:List UInt8)
  ·obtain ⟨b1,_⟩:=bin_facts op hb;obtain ⟨a,b,rfl⟩:=args2 (l:=args) (by omega);rw [ktE_bin hb];unfold parK
   split
   ·exact ⟨_,_,Z,Z⟩
   ·obtain ⟨x,k,e,hx⟩:=ha a (by simp);rw [e];exact ⟨_,_,Z,hx⟩
  have hs:op=2\/op=3\/op=4\/op=5\/op=6\/op=7\/op=8\/op=9\/op=10:=((ok_split hop).resolve_left h1).resolve_left hb;rcases hs with rfl | rfl | rfl | rfl | rfl | rfl | rfl | rfl | rfl
  all_goals first | exact ⟨_,_,Z,Z⟩ | exact ⟨_,_,Z,by decide⟩
theorem Rdc.exs {C:Option Kt->Prop} {l:List Ex} (h:∀ a∈l,Ex.all frmE a=true):Rdc (gList gEx) (lstK (l.map ktE)) l C :=
 .list Shs.ex.le ⟨by decide,by decide⟩ ⟨by decide,by decide⟩ (λa ha=>.ex (h a ha)) λa ha=>ktE_hd a (h a ha)
def endB (o:Option Kt):Prop:=o=some (4,[125])
theorem Rdc.blk {C:Option Kt->Prop} {l:List Sm} (h:Rdc gB (ktSs l) l endB):Rdc (gBlk gB) ((4,[123])::(ktSs l++[(4,[125])])) l C :=
 .nd rfl (.seq h (λ_ _=>rfl) (.nd rfl .pure))
theorem okKd_cases {kd:UInt8} (h:okKd kd=true):kd=1\/kd=2\/kd=3\/kd=4\/kd=5\/kd=6\/kd=7\/kd=8\/kd=9\/kd=10:=by
 simp only [okKd,Al_Bool_and_eq_true,Al_decide_eq_true_eq] at h;have key:∀ i∈List.range 11,1<=i->(UInt8.ofNat i=1\/UInt8.ofNat i=2\/UInt8.ofNat i=3\/UInt8.ofNat i=4\/UInt8.ofNat i=5\/UInt8.ofNat i=6\/UInt8.ofNat i=7\/UInt8.ofNat i=8\/UInt8.ofNat i=9\/UInt8.ofNat i=10):=by decide
 have:=key kd.toNat (Al_List_mem_range.2 (by omega)) h.1
 rwa [Al_UInt8_ofNat_toNat] at this
theorem exs1 {l:List Ex} (h:l.length=1) (hf:Ex.alls frmE l=true):∃ a,l=[a]/\Ex.all frmE a=true:=by
 obtain ⟨a,rfl⟩:=args1 h;exact ⟨a,Z,alls_mem (by simp) hf⟩
theorem exs2 {l:List Ex} (h:l.length=2) (hf:Ex.alls frmE l=true):∃ a b,l=[a,b]/\Ex.all frmE a=true/\Ex.all frmE b=true:=by
 obtain ⟨a,b,rfl⟩:=args2 h;exact ⟨a,b,Z,alls_mem (by simp) hf,alls_mem (by simp) hf⟩
inductive FmS:Sm->Prop where
 | k1 {nm:Str} {a:Ex} (ha:Ex.all frmE a=true):FmS (.mk 1 nm [] [a] [] [])
 | k2 {nm:Str} {a b:Ex} (ha:Ex.all frmE a=true) (hb:Ex.all frmE b=true):FmS (.mk 2 nm [] [a,b] [] [])
 | k3 {nm:Str} {a:Ex} (ha:Ex.all frmE a=true):FmS (.mk 3 nm [] [a] [] [])
 | k4 {a:Ex} {th el:List Sm} (ha:Ex.all frmE a=true):FmS (.mk 4 [] [] [a] th el)
 | k5 {a:Ex} {th:List Sm} (ha:Ex.all frmE a=true):FmS (.mk 5 [] [] [a] th [])
 | k6 {nm hd:Str} {l:List Ex} (hl:∀ a∈l,Ex.all frmE a=true):FmS (.mk 6 nm hd l [] [])
 | k7 {hd:Str} {a:Ex} {l:List Ex} (ha:Ex.all frmE a=true) (hl:∀ a∈l,Ex.all frmE a=true):FmS (.mk 7 [] hd (a::l) [] [])
 | k8 {a b:Ex} {el:List Sm} (ha:Ex.all frmE a=true) (hb:Ex.all frmE b=true):FmS (.mk 8 [] [] [a,b] [] el)
 | k9 {nm:Str} {a:Ex} {el:List Sm} (ha:Ex.all frmE a=true):FmS (.mk 9 nm [] [a] [] el)
 | k10:FmS (.mk 10 [] [] [] [] [])
theorem frmS_form {s:Sm} (h:frmS s=true):FmS s:=by
 obtain ⟨kd,nm,hd,ex,th,el⟩:=s;simp only [frmS,Al_Bool_and_eq_true,Al_Bool_or_eq_true,Al_decide_eq_true_eq] at h;obtain ⟨⟨⟨⟨⟨⟨⟨hk,h1⟩,h2⟩,h3⟩,h4⟩,h5⟩,h6⟩,h7⟩:=h;have z:∀ {l:List Sm},l.length=0->l=[]:=Al_List_eq_nil_of_length_eq_zero;rcases okKd_cases hk with rfl | rfl | rfl | rfl | rfl | rfl | rfl | rfl | rfl | rfl
 ·obtain rfl:=h4.resolve_left (by decide);obtain rfl:=z (h5.resolve_left (by decide));obtain rfl:=z (h6.resolve_left (by decide));obtain ⟨a,rfl,ha⟩:=exs1 (Al_Nat_le_antisymm h2 h1) h7;exact .k1 ha
 ·obtain rfl:=h4.resolve_left (by decide);obtain rfl:=z (h5.resolve_left (by decide));obtain rfl:=z (h6.resolve_left (by decide));obtain ⟨a,b,rfl,ha,hb⟩:=exs2 (Al_Nat_le_antisymm h2 h1) h7;exact .k2 ha hb
 ·obtain rfl:=h4.resolve_left (by decide);obtain rfl:=z (h5.resolve_left (by decide));obtain rfl:=z (h6.resolve_left (by decide));obtain ⟨a,rfl,ha⟩:=exs1 (Al_Nat_le_antisymm h2 h1) h7;exact .k3 ha
 ·obtain rfl:=h3.resolve_left (by decide);obtain rfl:=h4.resolve_left (by decide);obtain ⟨a,rfl,ha⟩:=exs1 (Al_Nat_le_antisymm h2 h1) h7;exact .k4 ha
 ·obtain rfl:=h3.resolve_left (by decide);obtain rfl:=h4.resolve_left (by decide);obtain rfl:=z (h6.resolve_left (by decide));obtain ⟨a,rfl,ha⟩:=exs1 (Al_Nat_le_antisymm h2 h1) h7;exact .k5 ha
 ·obtain rfl:=z (h5.resolve_left (by decide));obtain rfl:=z (h6.resolve_left (by decide));exact .k6 λa ha=>alls_mem ha h7
 ·obtain rfl:=h3.resolve_left (by decide);obtain rfl:=z (h5.resolve_left (by decide));obtain rfl:=z (h6.resolve_left (by decide));cases ex with
  | nil=>exact absurd h1 (by decide)
  | cons a l=>exact .k7 (alls_mem (by simp) h7) λb hb=>alls_mem (by simp [hb]) h7
 ·obtain rfl:=h3.resolve_left (by decide);obtain rfl:=h4.resolve_left (by decide);obtain rfl:=z (h5.resolve_left (by decide));obtain ⟨a,b,rfl,ha,hb⟩:=exs2 (Al_Nat_le_antisymm h2 h1) h7;exact .k8 ha hb
 ·obtain rfl:=h4.resolve_left (by decide);obtain rfl:=z (h5.resolve_left (by decide));obtain ⟨a,rfl,ha⟩:=exs1 (Al_Nat_le_antisymm h2 h1) h7;exact .k9 ha
 ·obtain rfl:=h3.resolve_left (by decide);obtain rfl:=h4.resolve_left (by decide);obtain rfl:=z (h5.resolve_left (by decide));obtain rfl:=z (h6.resolve_left (by decide));obtain rfl:=args0 (Nat.le_zero.1 h2);exact .k10
theorem ktS_hd {s:Sm} (h:FmS s):∃ x k,ktS s=x::k/\isK [125] x=false/\isK [101,108,115,101] x=false:=by
 cases h <;> rw [ktS_mk] <;> exact ⟨_,_,Z,Z,Z⟩
def RdS (s:Sm):Prop:=Rdc (gSt gB) (ktS s) s (notW [101,108,115,101])
theorem stp_ {x:Kt} (h1:(List.range 5).all (λi=>(opK i x).isNone)=true) (h2:isK [91] x=false):stpO (some x):=⟨λi hi=>by simpa using Al_List_all_eq_true.1 h1 i hi,h2⟩
theorem Rdc.oth {C:Option Kt->Prop} {el:List Sm} (h:Rdc gB (ktSs el) el endB):Rdc (gOth gB) (if decide (el.length=0)=true then [(4,[59])] else (2,[101,108,115,101])::(4,[123])::(ktSs el++[(4,[125])])) el C:=by
 split
 ·rename_i e;obtain rfl:=Al_List_eq_nil_of_length_eq_zero (Al_of_decide_eq_true e);exact .altF Z (.nd Z .pure)
 ·exact .altT Z (.blk h)
theorem oth_stp (el:List Sm) (o:Option Kt):stpO (hdC (if decide (el.length=0)=true then [(4,[59])] else (2,[101,108,115,101])::(4,[123])::(ktSs el++[(4,[125])])) o):=by
 split <;> exact stp_ rfl rfl
theorem Rdc.st {s:Sm} (h:FmS s) (ht:∀ nm hd kd ex th el,s=.mk kd nm hd ex th el->Rdc gB (ktSs th) th endB/\Rdc gB (ktSs el) el endB):RdS s:=by
 unfold RdS;cases h with
 | k1 ha=>exact .altF rfl<|.altF rfl<|.altF rfl<|.altF rfl<|.altF rfl<|.altF rfl<|.altF rfl<|.altF rfl<|.nm<|.altF rfl<|.nd rfl<|.seq (.ex ha) (λ_ _=>stp_ rfl rfl)<|.nd rfl .pure
 | k2 ha hb=>exact .altF rfl<|.altF rfl<|.altF rfl<|.altF rfl<|.altF rfl<|.altF rfl<|.altF rfl<|.altF rfl<|.nm<|.altT rfl<|.seq (.ex ha) (λ_ _=>stp_ rfl rfl)<|.nd rfl<|.nd rfl<|.seq (.ex hb) (λ_ _=>stp_ rfl rfl)<|.nd rfl .pure
 | k3 ha=>exact .altF rfl<|.altF rfl<|.altF rfl<|.altF rfl<|.altF rfl<|.altF rfl<|.altF rfl<|.altT rfl<|.nm<|.nd rfl<|.seq (.ex ha) (λ_ _=>stp_ rfl rfl)<|.nd rfl<|.nd rfl .pure
 | @k4 a th el ha =>
  obtain ⟨h1,h2⟩:=ht _ _ _ _ _ _ rfl;refine .altT Z<|.seq (.ex ha) (λ_ _=>stp_ Z Z)<|.seq (C1:=anyO) (.blk h1) (λ_ _=>trivial) ?_
  split
  ·rename_i e;obtain rfl:=Al_List_eq_nil_of_length_eq_zero (Al_of_decide_eq_true e);exact Rdc.seq (k1:=[]) (k2:=[]) (C1:=notW [101,108,115,101]) (.altE (λo c=>c) .pure) (λo c=>c) .pure
  ·have:=Rdc.seq (C2:=notW [101,108,115,101]) (f:=λl=>gPure (Sm.mk 4 [] [] [a] th l)) (k2:=[]) (C1:=anyO) (.altT (w:=[101,108,115,101]) (q:=gPure []) (x:=(2,[101,108,115,101])) rfl (.blk h2)) (λo c=>trivial) .pure
   rwa [Al_List_append_nil] at this
 | @k5 a th ha =>
  obtain ⟨h1,_⟩:=ht _ _ _ _ _ _ rfl;have:=Rdc.seq (C2:=notW [101,108,115,101]) (f:=λt=>gPure (Sm.mk 5 [] [] [a] t [])) (k2:=[]) (C1:=anyO) (.blk h1) (λo c=>trivial) .pure;rw [Al_List_append_nil] at this;exact .altF Z<|.altT Z<|.seq (.ex ha) (λ_ _=>stp_ Z Z) this
 | k6 hl=>exact .altF rfl<|.altF rfl<|.altF rfl<|.altF rfl<|.altT rfl<|.nm<|.nd rfl<|.nm<|.seq (C1:=anyO) (.exs hl) (λ_ _=>trivial)<|.nd rfl .pure
 | k7 ha hl=>exact .altF rfl<|.altF rfl<|.altF rfl<|.altF rfl<|.altF rfl<|.altT rfl<|.seq (.ex ha) (λ_ _=>stp_ rfl rfl)<|.nd rfl<|.nm<|.seq (C1:=anyO) (.exs hl) (λ_ _=>trivial)<|.nd rfl .pure
 | @k8 a b el ha hb =>
  obtain ⟨_,h2⟩:=ht _ _ _ _ _ _ rfl;have:=Rdc.seq (C2:=notW [101,108,115,101]) (f:=λl=>gPure (Sm.mk 8 [] [] [a,b] [] l)) (k2:=[]) (C1:=anyO) (.oth h2) (λo c=>trivial) .pure;rw [Al_List_append_nil] at this;exact .altF Z<|.altF Z<|.altT Z<|.seq (.ex ha) (λ_ _=>stp_ Z Z)<|.nd Z<|.seq (.ex hb) (λo _=>oth_stp el o) this
 | @k9 nm a el ha =>
  obtain ⟨_,h2⟩:=ht _ _ _ _ _ _ rfl;have:=Rdc.seq (C2:=notW [101,108,115,101]) (f:=λl=>gPure (Sm.mk 9 nm [] [a] [] l)) (k2:=[]) (C1:=anyO) (.oth h2) (λo c=>trivial) .pure;rw [Al_List_append_nil] at this;exact .altF Z<|.altF Z<|.altF Z<|.altT Z<|.nm<|.nd Z<|.seq (.ex ha) (λo _=>oth_stp el o) this
 | k10=>exact .altF rfl<|.altF rfl<|.altF rfl<|.altF rfl<|.altF rfl<|.altF rfl<|.altT rfl<|.nd rfl .pure
theorem Rdc.b:∀ (l:List Sm),(∀ s∈l,FmS s/\RdS s)->Rdc gB (ktSs l) l endB
 | [],_=>λle r e c=>by
  obtain rfl:=Al_List_map_eq_nil_iff.1 (by rw [ktSs] at e;exact e);rw [gB_eq,Al_List_nil_append,isT_hdO];have c:hdO r=some (4,[125]):=c;rw [c]
  rfl
 | s::l,h=>λle r e c=>by
  rw [ktSs] at e;obtain ⟨l1,l2,rfl,e1,e2⟩:=Al_List_map_eq_append_iff.1 e;obtain ⟨hf,hs⟩:=h s (Al_List_mem_cons_self ..);obtain ⟨x,k,hx,hx1,_⟩:=ktS_hd hf;have ih:=Rdc.b l (λa ha=>h a (Al_List_mem_cons_of_mem _ ha)) l2 r e2 c
  have h2:=hs l1 (l2++r) e1 (by
   rw [hdO_app e2];cases l with
   | nil=>rw [show hdC (ktSs []) (hdO r)=hdO r from rfl,show hdO r=some (4,[125]) from c];rfl
   | cons b l =>
    obtain ⟨y,k2,hy,_,hy2⟩:=ktS_hd (h b (by simp)).1;rw [ktSs,hy];exact hy2)
  rw [gB_eq,Al_List_append_assoc,isT_hdO,hdO_app e1,hx];show (if isK [125] x=true then _ else _)=_;rw [hx1,Al_if_neg (by decide),h2];show (gB (l2++r)).bind _=_;rw [ih]
  rfl
theorem salls_mem {q:Sm->Bool}:∀ {l:List Sm} {a:Sm},a∈l->Sm.alls q l=true->Sm.all q a=true
 | b::l,a,h,k=>by
  rw [Sm.alls,Al_Bool_and_eq_true] at k;rcases Al_List_mem_cons.1 h with rfl | h
  ·exact k.1
  ·exact salls_mem h k.2
theorem rdS_all (s:Sm):Sm.all frmS s=true->FmS s/\RdS s:=by
 induction s using Sm.ind with
 | _ kd nm hd ex th el ih1 ih2 =>
  intro h;rw [sall_mk,Al_Bool_and_eq_true,Al_Bool_and_eq_true] at h;obtain ⟨⟨h1,h2⟩,h3⟩:=h;have hf:=frmS_form h1
  exact ⟨hf,.st hf λnm' hd' kd' ex' th' el' e=>by
   injection e with _ _ _ _ e1 e2
   subst e1 e2;exact ⟨.b _ λs hs=>ih1 s hs (salls_mem hs h2),.b _ λs hs=>ih2 s hs (salls_mem hs h3)⟩⟩
theorem Rdc.body {l:List Sm} (h:Sm.alls frmS l=true):Rdc gB (ktSs l) l endB:=.b l λs hs=>rdS_all s (salls_mem hs h)
/-! ### Fleets -/
def intK (n:Int64):List Kt:=if n.toInt<0 then [(4,[45]),(3,Lib.decDigits (-n.toInt).toNat)] else [(3,Lib.decDigits n.toInt.toNat)]
def hdK (h:Hd):List Kt:=(1,h.nm)::(lstK (h.ps.map λp=>[(1,p)])++(4,[123])::(ktSs h.body++[(4,[125])]))
section
variable {C:Option Kt->Prop}
theorem i64_nat {n:Int64} (h:0<=n.toInt):n.toInt.toNat<=9223372036854775807/\Int64.ofNat n.toInt.toNat=n:=by
 have hlt:=n.toInt_lt;refine ⟨by omega,Al_Int64_toInt_inj.1 ?_⟩;rw [Al_Int64_toInt_ofNat_of_lt (by omega)];omega
theorem Rdc.int {n:Int64} (h:n.toInt≠-9223372036854775808):Rdc gInt (intK n) n C:=by
 unfold intK
 split
 ·rename_i hn;have hlt:=n.le_toInt;have h1:(-n.toInt).toNat<=9223372036854775807:=by omega
  have e:-Int64.ofNat (-n.toInt).toNat=n:=by
   apply Al_Int64_toInt_inj.1;rw [Int64.toInt_neg,Al_Int64_toInt_ofNat_of_lt (by omega)];rw [Int.toNat_of_nonneg (by omega),Int.neg_neg];exact Int.bmod_eq_of_le (by omega) (by have:=n.toInt_lt;omega)
  have:=Rdc.seq (C1:=anyO) (C2:=C) (f:=λv=>gPure (-v)) (k2:=[]) (.nu h1) (λ_ _=>trivial) .pure;rw [e] at this;exact .altT Z this
 ·obtain ⟨h1,h2⟩:=i64_nat (n:=n) (by omega);have h3:=Rdc.nu (C:=C) h1;rw [h2] at h3;exact .altF (by simp [isK]) h3
theorem Rdc.hd {h:Hd} (hf:frmH h=true):Rdc gHd (hdK h) h C:=by
 have h1:Rdc (gList gNm) (lstK (h.ps.map λp=>[(1,p)])) h.ps anyO:=.list Shs.nm.le (Cp:=anyO) trivial trivial (λa _=>.nm1) λa _=>⟨_,_,Z,by simp [isK]⟩;have h2:=Rdc.seq (C1:=anyO) (C2:=C) (f:=λb=>gPure (Hd.mk h.nm h.ps b)) (k2:=[]) (.blk (.body hf)) (λ_ _=>trivial) .pure;rw [Al_List_append_nil] at h2;exact .nm<|.seq h1 (λ_ _=>trivial) h2
theorem Shs.hd:Shs gHd:=.bind .nm λ_=>.bind (Shs.list Shs.nm.le).le λ_=>.bind (Shs.blk Shr.b).le λ_=>.pure _
theorem Shs.int:Shs gInt:=.alt (.bind Shs.nu.le λ_=>.pure _) .nu
end
structure Tok (x:Kt) (r:Str):Prop where
 ne:x.2≠[]
 read:readK (x.2++r)=(x.1,x.2.length)
 skip:skipS false (x.2++r)=x.2++r
 k5:x.1≠5
 sh:x.2.length<=1000000
inductive Lx:Str->List Kt->Prop where
 | nil:Lx [] []
 | blk {c:UInt8} {s:Str} {k:List Kt} (h:blkB c=true) (l:Lx s k):Lx (c::s) k
 | tok {x:Kt} {s:Str} {k:List Kt} (h:Tok x s) (l:Lx s k):Lx (x.2++s) (x::k)
def sepB (r:Str):Prop:=∀ c,r.head? = some c->insB c=false/\c≠46/\c≠61/\c≠62/\c≠47
def hdB (r:Str):Prop:=∀ c,r.head? = some c->c≠46/\c≠61/\c≠62/\c≠47
variable {r:Str}
theorem sepB.hd (h:sepB r):hdB r:=λc e=>(h c e).2
theorem sepB_cons {c:UInt8} (h:insB c=false/\c≠46/\c≠61/\c≠62/\c≠47):sepB (c::r):=λd e=>by cases e;exact h
theorem hdB_cons {c:UInt8} (h:c≠46/\c≠61/\c≠62/\c≠47):hdB (c::r):=λd e=>by cases e;exact h
theorem pre_app {q:UInt8->Bool}:∀ {w r:Str},w.all q=true->(∀ c,r.head? = some c->q c=false)->pre q (w++r)=w.length
 | [],[],_,_=>rfl
 | [],c::r,_,h=>by unfold pre;rw [Al_List_nil_append,Al_List_takeWhile_cons,h c rfl];rfl
 | a::w,r,hw,h=>by
  rw [Al_List_all_cons,Al_Bool_and_eq_true] at hw;have:=pre_app hw.2 h;unfold pre at this|-;rw [Al_List_cons_append,Al_List_takeWhile_cons,hw.1];simp [this]
theorem pre_all {q:UInt8->Bool}:∀ {w:Str},pre q w=w.length->w.all q=true
 | [],_=>rfl
 | a::w,h=>by
  unfold pre at h;rw [Al_List_takeWhile_cons] at h;cases ha:q a with
  | false=>rw [ha] at h;simp at h
  | true =>
   rw [ha] at h;have:=pre_all (q:=q) (w:=w) (by unfold pre;simpa using h);rw [Al_List_all_cons,ha,this];rfl
theorem byte_key {Q:UInt8->Prop} (h:∀ i∈List.range 256,Q (UInt8.ofNat i)) (c:UInt8):Q c:=by
 have:=h c.toNat (Al_List_mem_range.2 c.toNat_lt)
 rwa [Al_UInt8_ofNat_toNat] at this
theorem let_blk (c:UInt8) (h:letB c=true):blkB c=false/\c≠47/\c≠46/\c≠61/\c≠62/\insB c=true/\digB c=false:=by
 revert h
 exact byte_key (Q:=λc=>letB c=true->blkB c=false/\c≠47/\c≠46/\c≠61/\c≠62/\insB c=true/\digB c=false) (by decide +kernel) c
theorem dig_blk (c:UInt8) (h:digB c=true):blkB c=false/\c≠47/\c≠46/\c≠61/\c≠62/\letB c=false:=by
 revert h
 exact byte_key (Q:=λc=>digB c=true->blkB c=false/\c≠47/\c≠46/\c≠61/\c≠62/\letB c=false) (by decide +kernel) c
theorem ins_dig (c:UInt8) (h:insB c=false):digB c=false:=by
 revert h
 exact byte_key (Q:=λc=>insB c=false->digB c=false) (by decide +kernel) c
theorem words_len:∀ w∈words,w.length<=12:=by decide +kernel
theorem tok_word {k:UInt8} (h0:w≠[]) (hl:letB (w.headD 0)=true) (hw:w.all insB=true) (hk:(if words.contains w then (2:UInt8) else if w.length<=12 then 1 else 5)=k) (h5:k≠5) (hr:sepB r):Tok (k,w) r:=by
 match w,h0 with
 | c::t,h0 =>
  have hlb:=let_blk c hl;have hp:pre insB ((c::t)++r)=(c::t).length:=pre_app hw λd hd=>(hr d hd).1;refine ⟨h0,?_,?_,h5,?_⟩
  ·show readK ((c::t)++r)=(k,(c::t).length);unfold readK;simp only;rw [show ((c::t)++r).headD 0=c from rfl,show letB c=true from hl,Al_if_pos rfl,hp,Al_List_take_left]
   split at hk
   ·rename_i e;rw [Al_if_pos e,<-hk]
   ·rename_i e;rw [Al_if_neg e]
    split at hk
    ·rename_i e2;rw [Al_if_pos e2,<-hk]
    ·exact absurd hk.symm h5
  ·exact skipS_stop hlb.1 (λe=>hlb.2.1 e.1)
  ·show (c::t).length<=1000000
   split at hk
   ·rename_i e;have:=words_len _ (Al_List_contains_iff_mem.1 e);omega
   ·split at hk
    ·omega
    ·exact absurd hk.symm h5
theorem kw_facts:∀ w∈words,w≠[]/\letB (w.headD 0)=true/\w.all insB=true:=by decide +kernel
theorem tok_kw (hw:w∈words) (hr:sepB r):Tok (2,w) r:=by
 obtain ⟨h1,h2,h3⟩:=kw_facts w hw;exact tok_word h1 h2 h3 (by rw [Al_if_pos (Al_List_contains_iff_mem.2 hw)]) (by decide) hr
theorem nameB_facts (h:nameB w=true):w≠[]/\letB (w.headD 0)=true/\w.all insB=true/\words.contains w=false/\w.length<=12:=by
 have hlen:=name_len h;simp only [nameB,Al_Bool_and_eq_true,Al_decide_eq_true_eq,Al_beq_iff_eq] at h;obtain ⟨⟨h0,h1⟩,h2⟩:=h
 match w,h0 with
 | c::t,h0 =>
  have hl:=readK_one h1
  have h3:words.contains ((c::t).take (pre insB (c::t)))=false/\pre insB (c::t)=(c::t).length:=by
   unfold readK at h1 h2;simp only [Al_List_headD_cons,hl,Al_if_true] at h1 h2
   split at h1
   ·simp at h1
   ·rename_i e;rw [Al_if_neg e] at h2
    split at h1
    ·rename_i e2;rw [Al_if_pos e2] at h2;exact ⟨by simpa using e,h2⟩
    ·simp at h1
  obtain ⟨h4,h5⟩:=h3;rw [h5,Al_List_take_length] at h4;exact ⟨h0,hl,pre_all h5,h4,hlen⟩
theorem tok_name (hw:nameB w=true) (hr:sepB r):Tok (1,w) r:=by
 obtain ⟨h1,h2,h3,h4,h5⟩:=nameB_facts hw;exact tok_word h1 h2 h3 (by rw [h4,Al_if_neg (by decide),Al_if_pos h5]) (by decide) hr
theorem name_hd (hw:nameB w=true):hdB (w++r):=by
 obtain ⟨h1,h2,_⟩:=nameB_facts hw
 match w,h1 with
 | c::t,_=>have:=let_blk c h2;exact hdB_cons ⟨this.2.2.1,this.2.2.2.1,this.2.2.2.2.1,this.2.1⟩
theorem kw_hd (hw:w∈words):hdB (w++r):=by
 obtain ⟨h1,h2,_⟩:=kw_facts w hw
 match w,h1 with
 | c::t,_=>have:=let_blk c h2;exact hdB_cons ⟨this.2.2.1,this.2.2.2.1,this.2.2.2.2.1,this.2.1⟩
theorem digits_hd:∀ (u:Nat),∃ c t,Lib.decDigits u=c::t/\(t=[]\/c≠48)/\(u≠0->c≠48):=by
 intro u;induction u using Nat.strongRecOn with
 | _ u ih =>
  by_cases h:u<10
  ·rw [Lib.decDigits_one h];refine ⟨_,[],Z,.inl rfl,λhu e=>?_⟩;have:=congrArg UInt8.toNat e;rw [Plain.digit_nat u h] at this;have h48:(48:UInt8).toNat=48:=rfl;omega
  ·rw [Plain.digits_more u h];obtain ⟨c,t,e,_,h2⟩:=ih (u / 10) (by omega);rw [e];exact ⟨c,_,Z,.inr (h2 (by omega)),λ_=>h2 (by omega)⟩
theorem dec_len {u:Nat} (h:u<=9223372036854775808):(Lib.decDigits u).length<=21:=by
 have h1:=Lib.itoa_length_le (-(u:Int)) (by omega) (by omega)
 by_cases h0:u=0
 ·subst h0;decide +kernel
 ·rw [Lib.itoa,Al_if_pos (by omega),show (-(u:Int)).natAbs=u by omega,Al_List_length_cons] at h1;omega
theorem dec64 {n:Int64} :n.toInt.toNat<=9223372036854775808:=by have:=n.toInt_lt;omega
theorem tok_num {u:Nat} (hu:u<=9223372036854775808) (hr:sepB r):Tok (3,Lib.decDigits u) r:=by
 have hdl:=dec_len hu;obtain ⟨c,t,e,h2,_⟩:=digits_hd u
 have hall:(Lib.decDigits u).all digB=true:=Al_List_all_eq_true.2 λd hd=>by
  have:=Plain.digits_are u d hd;simp only [digB,Al_Bool_and_eq_true,Al_decide_eq_true_eq];exact this
 have hp:pre digB (Lib.decDigits u++r)=(Lib.decDigits u).length:=pre_app hall λd hd=>ins_dig d (hr d hd).1;rw [e] at hall hp hdl|-;rw [Al_List_all_cons,Al_Bool_and_eq_true] at hall;have hb:=dig_blk c hall.1;refine ⟨by simp,?_,skipS_stop hb.1 (λe=>hb.2.1 e.1),(show (3:UInt8)≠5 by decide),(by show (c::t).length<=1000000;omega)⟩;show readK ((c::t)++r)=(3,(c::t).length);unfold readK;simp only;rw [show ((c::t)++r).headD 0=c from rfl,hb.2.2.2.2.2,Al_if_neg (by decide),hall.1,Al_if_pos rfl,hp];refine Al_if_pos ?_;rcases h2 with rfl | h2
 ·exact .inl Z
 ·exact .inr h2
theorem num_hd {u:Nat} :hdB (Lib.decDigits u++r):=by
 obtain ⟨c,t,e,_⟩:=digits_hd u;have:=Plain.digits_are u c (by rw [e];simp);have hd:digB c=true:=by simp only [digB,Al_Bool_and_eq_true,Al_decide_eq_true_eq];exact this
 have hb:=dig_blk c hd;rw [e];exact hdB_cons ⟨hb.2.2.1,hb.2.2.2.1,hb.2.2.2.2.1,hb.2.1⟩
def sym1:Str:=[123,125,40,41,91,93,44,59,58,46,61,60,62,43,45,42,47,37]
theorem tok_sym {c:UInt8} (hc:c∈sym1) (hr:hdB r):Tok (4,[c]) r:=by
 have hx:∀ d,r.head? = some d->d≠46/\d≠61/\d≠62/\d≠47:=hr;refine ⟨by simp,?_,?_,(show (4:UInt8)≠5 by decide),(by show (1:Nat)<=_;omega)⟩
 ·show readK (c::r)=(4,1);have hl:letB c=false/\digB c=false:=by revert c;decide
  have hf:symbols.find? (λx=>x.isPrefixOf (c::r))=some [c]:=by
   cases r with
   | nil=>revert c;decide
   | cons d t =>
    obtain ⟨e1,e2,e3,e4⟩:=hx d rfl;have b1:((46:UInt8) == d)=false:=Al_beq_false_of_ne (Al_Ne_symm e1);have b2:((61:UInt8) == d)=false:=Al_beq_false_of_ne (Al_Ne_symm e2);have b3:((62:UInt8) == d)=false:=Al_beq_false_of_ne (Al_Ne_symm e3);simp only [sym1,Al_List_mem_cons,List.not_mem_nil,or_false] at hc
    rcases hc with rfl | rfl | rfl | rfl | rfl | rfl | rfl | rfl | rfl | rfl | rfl | rfl | rfl | rfl | rfl | rfl | rfl | rfl <;>
     simp [symbols,List.find?,List.isPrefixOf,b1,b2,b3]
  unfold readK;simp only [Al_List_headD_cons,hl.1,hl.2,hf,Al_Bool_false_eq_true,Al_if_false,Al_List_length_singleton]
 ·refine skipS_stop (by revert c;decide) ?_;rintro ⟨_,h⟩;exact (hx 47 h).2.2.2 rfl
def sym2:List Str:=[[61,61],[33,61],[60,61],[62,61],[45,62]]
theorem tok_two (hw:w∈sym2):Tok (4,w) r:=by
 simp only [sym2,Al_List_mem_cons,List.not_mem_nil,or_false] at hw;rcases hw with rfl | rfl | rfl | rfl | rfl <;> refine ⟨by simp,?_,?_,(show (4:UInt8)≠5 by decide),(by show (2:Nat)<=_;omega)⟩ <;> simp [readK,letB,digB,symbols,List.find?,List.isPrefixOf,skipS,blkB]
theorem sp_sep:sepB (32::r):=sepB_cons (by decide)
theorem cl_sep:sepB (41::r):=sepB_cons (by decide)
theorem br_sep:sepB (91::r):=sepB_cons (by decide)
theorem bk_sep:sepB (93::r):=sepB_cons (by decide)
theorem Lx.sp {k:List Kt} (h:Lx r k):Lx (32::r) k:=.blk (by decide) h
theorem Lx.sy {c:UInt8} {k:List Kt} (hc:c∈sym1) (hr:hdB r) (h:Lx r k):Lx (c::r) ((4,[c])::k):=.tok (x:=(4,[c])) (tok_sym hc hr) h
theorem Lx.kw {k:List Kt} (hw:w∈words) (hr:sepB r) (h:Lx r k):Lx (w++r) ((2,w)::k):=.tok (x:=(2,w)) (tok_kw hw hr) h
theorem Lx.nm {k:List Kt} (hw:nameB w=true) (hr:sepB r) (h:Lx r k):Lx (w++r) ((1,w)::k):=.tok (x:=(1,w)) (tok_name hw hr) h
theorem Lx.nu {u:Nat} {k:List Kt} (hu:u<=9223372036854775808) (hr:sepB r) (h:Lx r k):Lx (Lib.decDigits u++r) ((3,Lib.decDigits u)::k):=.tok (x:=(3,Lib.decDigits u)) (tok_num hu hr) h
def LxE (e:Ex):Prop:=∀ r ks,sepB r->Lx r ks->Lx (e.text++r) (ktE e++ks)/\hdB (e.text++r)
variable {ks:List Kt}
theorem LxE.opnd {e:Ex} (h:LxE e) (n:Nat) (hr:sepB r) (hk:Lx r ks):Lx (opT n (e.lv,e.text)++r) (parK n e.lv (ktE e)++ks)/\hdB (opT n (e.lv,e.text)++r):=by
 unfold opT parK;simp only
 split
 ·simp only [Al_List_cons_append,Al_List_nil_append,Al_List_append_assoc];obtain ⟨h1,h2⟩:=h (41::r) ((4,[41])::ks) cl_sep (.sy (by decide) hr.hd hk);exact ⟨.sy (by decide) h2 h1,hdB_cons (by decide)⟩
 ·exact h r ks hr hk
theorem bin_tx:∀ op∈([11,12,13,14,15,16,17,18,19,20,21,22,23]:List UInt8),(shapeOf op).tx=32::((symK op).2++[32])/\(((symK op).1=2/\(symK op).2∈words)\/((symK op).1=4/\((symK op).2∈sym2\/∃ c∈sym1,(symK op).2=[c]))):=by decide +kernel
theorem Lx.bin {op:UInt8} (h:op∈([11,12,13,14,15,16,17,18,19,20,21,22,23]:List UInt8)) {k:List Kt} (hk:Lx r k):Lx ((shapeOf op).tx++r) (symK op::k):=by
 obtain ⟨h1,h2⟩:=bin_tx op h;rw [h1];simp only [Al_List_cons_append,Al_List_append_assoc,Al_List_nil_append];refine .sp ?_;have hs:=hk.sp;refine .tok (x:=symK op) ?_ hs;generalize symK op=x at h2;obtain ⟨k,w⟩:=x;rcases h2 with ⟨e,hw⟩ | ⟨e,hw | ⟨c,hc,hw⟩⟩
 ·obtain rfl:k=2:=e;exact tok_kw hw sp_sep
 ·obtain rfl:k=4:=e;exact tok_two hw
 ·obtain rfl:k=4:=e;obtain rfl:w=[c]:=hw;exact tok_sym hc sp_sep.hd
theorem lx_all (e:Ex):Ex.all frmE e=true->Ex.all namE e=true->LxE e:=by
 induction e using Ex.ind with
 | _ op nm n args ih =>
  intro h hq;rw [all_mk,Al_Bool_and_eq_true] at h hq;obtain ⟨hf,hr⟩:=h;obtain ⟨hg,hq⟩:=hq;have ha:∀ a∈args,LxE a:=λa m=>ih a m (alls_mem m hr) (alls_mem m hq);simp only [frmE,Al_Bool_and_eq_true,Al_Bool_or_eq_true,Al_decide_eq_true_eq] at hf;simp only [namE,Al_Bool_or_eq_true,Al_Bool_not_eq_true'] at hg;obtain ⟨⟨⟨hop,hl⟩,hnm⟩,hn⟩:=hf;have hm:=ok_cases hop;intro r ks hs hk
  by_cases h1:op=1
  ·subst h1;rw [Al_if_pos rfl,Al_decide_eq_true_eq] at hn
   have e1:Ex.text (.mk 1 nm n args)=Lib.decDigits n.toInt.toNat:=by
    rw [Ex.text,txt,Al_if_pos rfl,Lib.itoa,Al_if_neg (by omega)]
   have e2:ktE (.mk 1 nm n args)=[(3,Lib.decDigits n.toInt.toNat)]:=by
    rw [ktE,ktx,Al_if_pos rfl,Lib.itoa,Al_if_neg (by omega)]
   rw [e1,e2];exact ⟨.nu dec64 hs hk,num_hd⟩
  rw [Al_if_neg h1,Al_decide_eq_true_eq] at hn;obtain rfl:=i64_zero hn
  by_cases hb:op∈([11,12,13,14,15,16,17,18,19,20,21,22,23]:List UInt8)
  ·obtain ⟨b1,_,_,_,_,_,_,g1,g2,g3,g4,g5,g6,g7⟩:=bin_facts op hb;obtain ⟨a,b,rfl⟩:=args2 (l:=args) (by omega)
   have e1:Ex.text (.mk op nm 0 [a,b])=opT (lftT (shapeOf op).lv) (a.lv,a.text)++(shapeOf op).tx++opT ((shapeOf op).lv+1) (b.lv,b.text):=by
    rw [Ex.text,txt,Al_if_neg g1,Al_if_neg (by simp [g2,g3]),Al_if_neg (by simp [g4,g5]),Al_if_neg (by simp [g6,g7]),Al_if_neg (by omega)]
    rfl
   rw [e1,ktE_bin hb];simp only [Al_List_append_assoc,Al_List_cons_append];obtain ⟨k1,_⟩:=(ha b (by simp)).opnd ((shapeOf op).lv+1) hs hk;have k2:=Lx.bin hb k1;refine (ha a (by simp)).opnd (lftT (shapeOf op).lv) ?_ k2;rw [(bin_tx op hb).1];exact sp_sep
  have hs9:op=2\/op=3\/op=4\/op=5\/op=6\/op=7\/op=8\/op=9\/op=10:=((ok_split hop).resolve_left h1).resolve_left hb
  have key:∀ a,LxE a->Lx (91::(a.text++93::r)) ((4,[91])::(ktE a++(4,[93])::ks)):=by
   intro a hA;obtain ⟨k1,k2⟩:=hA (93::r) ((4,[93])::ks) bk_sep (.sy (by decide) hs.hd hk);exact .sy (by decide) k2 k1
  have hn5:(shapeOf op).nm=true->nameB nm=true:=λe=>hg.resolve_left (by rw [e];decide);rcases hs9 with rfl | rfl | rfl | rfl | rfl | rfl | rfl | rfl | rfl
  ·exact ⟨Lx.kw (w:=[116,114,117,101]) (by decide) hs hk,kw_hd (w:=[116,114,117,101]) (by decide)⟩
  ·exact ⟨Lx.kw (w:=[102,97,108,115,101]) (by decide) hs hk,kw_hd (w:=[102,97,108,115,101]) (by decide)⟩
  ·exact ⟨Lx.kw (w:=[110,111,119]) (by decide) hs hk,kw_hd (w:=[110,111,119]) (by decide)⟩
  ·exact ⟨Lx.nm (hn5 rfl) hs hk,name_hd (hn5 rfl)⟩
  ·obtain ⟨a,rfl⟩:=args1 hl;have e1:Ex.text (.mk 6 nm 0 [a])++r=nm++91::(a.text++93::r):=by rw [text_mk];simp [txt,shapeOf,okOp,shapes]
   have e2:ktE (.mk 6 nm 0 [a])++ks=(1,nm)::(4,[91])::(ktE a++(4,[93])::ks):=by
    rw [show ktE (.mk 6 nm 0 [a])=(1,nm)::(4,[91])::(ktE a++[(4,[93])]) from rfl];simp
   rw [e1,e2];exact ⟨.nm (hn5 rfl) br_sep (key a (ha a (by simp))),name_hd (hn5 rfl)⟩
  ·obtain ⟨a,rfl⟩:=args1 hl;have e1:Ex.text (.mk 7 nm 0 [a])++r=[104,97,115]++32::(nm++91::(a.text++93::r)):=by rw [text_mk];simp [txt,shapeOf,okOp,shapes]
   have e2:ktE (.mk 7 nm 0 [a])++ks=(2,[104,97,115])::(1,nm)::(4,[91])::(ktE a++(4,[93])::ks):=by
    rw [show ktE (.mk 7 nm 0 [a])=(2,[104,97,115])::(1,nm)::(4,[91])::(ktE a++[(4,[93])]) from rfl];simp
   rw [e1,e2];exact ⟨.kw (by decide) sp_sep (.sp (.nm (hn5 rfl) br_sep (key a (ha a (by simp))))),kw_hd (by decide)⟩
  ·obtain rfl:=args0 hl;have e1:Ex.text (.mk 8 nm 0 [])++r=[115,105,122,101]++32::(nm++r):=by rw [text_mk];simp [txt,shapeOf,okOp,shapes]
   rw [e1];exact ⟨.kw (by decide) sp_sep (.sp (.nm (hn5 rfl) hs hk)),kw_hd (by decide)⟩
  ·obtain ⟨a,rfl⟩:=args1 hl;obtain ⟨k1,k2⟩:=(ha a (by simp)).opnd 6 hs hk;have e1:Ex.text (.mk 9 nm 0 [a])++r=45::(opT 6 (a.lv,a.text)++r):=by rw [text_mk];rfl
   rw [e1];exact ⟨.sy (by decide) k2 k1,hdB_cons (by decide)⟩
  ·obtain ⟨a,rfl⟩:=args1 hl;obtain ⟨k1,k2⟩:=(ha a (by simp)).opnd 6 hs hk;have e1:Ex.text (.mk 10 nm 0 [a])++r=[110,111,116]++32::(opT 6 (a.lv,a.text)++r):=by rw [text_mk];rfl
   rw [e1];exact ⟨.kw (by decide) sp_sep (.sp k1),kw_hd (by decide)⟩
theorem Lx.nl {k:List Kt} (h:Lx r k):Lx (10::r) k:=.blk (by decide) h
theorem Lx.spT {r:Str} {k:List Kt}:∀ (n:Nat),Lx r k->Lx (spT n++r) k
 | 0,h=>h
 | n+1,h=>by
  rw [Go.Proofs.YtidclioghdbphaaGreatDoor.spT,Al_List_append_assoc];exact Lx.spT n (.sp (.sp h))
theorem Lx.line {parts:List Str} {k:List Kt} (h:Lx (parts.flatten++10::r) k):Lx (lineT n parts++r) k:=by
 unfold lineT;rw [Al_List_append_assoc,Al_List_append_assoc];exact .spT n h
theorem Lx.to {k:List Kt} (h:Lx r k):Lx (45::62::r) ((4,[45,62])::k):=.tok (x:=(4,[45,62])) (tok_two (by decide)) h
theorem tok_name2 (hw:nameB w=true) (hr:∀ d,r.head? = some d->insB d=false):Tok (1,w) r:=by
 obtain ⟨h1,h2,h3,h4,h5⟩:=nameB_facts hw
 match w,h1 with
 | c::t,h1 =>
  have hlb:=let_blk c h2;have hp:pre insB ((c::t)++r)=(c::t).length:=pre_app h3 hr;refine ⟨h1,?_,skipS_stop hlb.1 (λe=>hlb.2.1 e.1),(show (1:UInt8)≠5 by decide),(by show (c::t).length<=1000000;omega)⟩;show readK ((c::t)++r)=(1,(c::t).length);unfold readK;simp only;rw [show ((c::t)++r).headD 0=c from rfl,show letB c=true from h2,Al_if_pos rfl,hp,Al_List_take_left,h4,Al_if_neg (by decide),Al_if_pos h5]
theorem Lx.nm2 {k:List Kt} (hw:nameB w=true) (hr:∀ d,r.head? = some d->insB d=false) (h:Lx r k):Lx (w++r) ((1,w)::k):=.tok (x:=(1,w)) (tok_name2 hw hr) h
def LxI (t:Str) (k:List Kt):Prop:=∀ r ks,sepB r->Lx r ks->Lx (t++r) (k++ks)/\hdB (t++r)
theorem LxI.one {t:Str} {k:List Kt} (h:LxI t k) (hr:sepB r) (l:Lx r ks):Lx (t++r) (k++ks):=(h r ks hr l).1
theorem LxI.nm (h:nameB w=true):LxI w [(1,w)]:=λr ks hr l=>⟨.nm h hr l,name_hd h⟩
theorem LxI.ex {e:Ex} (h:Ex.all frmE e=true) (hq:Ex.all namE e=true):LxI e.text (ktE e):=lx_all e h hq
theorem lx_tail {α:Type} {tx:α->Str} {g:α->List Kt}:∀ (l:List α) (r:Str) (ks:List Kt),(∀ a∈l,LxI (tx a) (g a))->sepB r->Lx r ks->Lx (Lib.joinTail [44,32] (l.map tx)++r) (comK (l.map g)++ks)/\sepB (Lib.joinTail [44,32] (l.map tx)++r)
 | [],r,ks,_,hr,h=>⟨h,hr⟩
 | a::l,r,ks,hl,hr,h=>by
  obtain ⟨h1,h2⟩:=lx_tail l r ks (λb hb=>hl b (Al_List_mem_cons_of_mem _ hb)) hr h;have h3:=hl a (Al_List_mem_cons_self ..) _ _ h2 h1;unfold Lib.joinTail comK at *;simp only [Al_List_map_cons,Al_List_flatten_cons,Al_List_cons_append,Al_List_append_assoc,Al_List_nil_append];exact ⟨.sy (by decide) (hdB_cons (by decide)) (.sp h3.1),sepB_cons (by decide)⟩
theorem lx_list {α:Type} {tx:α->Str} {g:α->List Kt} {l:List α} (hl:∀ a∈l,LxI (tx a) (g a)) (hr:hdB r) (h:Lx r ks):Lx (40::(joinT (l.map tx)++41::r)) (lstK (l.map g)++ks):=by
 have h0:Lx (41::r) ((4,[41])::ks):=.sy (by decide) hr h;unfold lstK joinT;cases l with
 | nil=>exact .sy (by decide) (hdB_cons (by decide)) h0
 | cons a l =>
  simp only [Al_List_map_cons,Lib.join_cons,sepK,Al_List_cons_append,Al_List_append_assoc,Al_List_nil_append];obtain ⟨h1,h2⟩:=lx_tail l (41::r) _ (λb hb=>hl b (Al_List_mem_cons_of_mem _ hb)) cl_sep h0;obtain ⟨h3,h4⟩:=hl a (Al_List_mem_cons_self ..) _ _ h2 h1;exact .sy (by decide) h4 h3
def LxS (s:Sm):Prop:=∀ n r ks,Lx r ks->Lx (Sm.text n s++r) (ktS s++ks)
def LxB (l:List Sm):Prop:=∀ n r ks,Lx r ks->Lx (Sm.texts n l++r) (ktSs l++ks)
theorem LxB.of:∀ {l:List Sm},(∀ s∈l,LxS s)->LxB l
 | [],_=>λn r ks h=>by rw [Sm.texts,ktSs];exact h
 | s::l,hs=>λn r ks h=>by
  rw [Sm.texts,ktSs,Al_List_append_assoc,Al_List_append_assoc];exact hs s (Al_List_mem_cons_self ..) n _ _ (LxB.of (λa ha=>hs a (Al_List_mem_cons_of_mem _ ha)) n r ks h)
theorem lx_kw {k:List Kt} (hw:w∈words) (h:Lx r k):Lx (w++32::r) ((2,w)::k):=.kw hw sp_sep (.sp h)
theorem lx_end (h:Lx r ks):Lx (lineT n [[125]]++r) ((4,[125])::ks):=.line (.sy (by decide) (hdB_cons (by decide)) (.nl h))
theorem lx_oth {el:List Sm} (hb:LxB el) {first:Str} {k:List Kt} (hf:LxI first k) (h:Lx r ks) :
 Lx (diskT n first (decide (el.length=0)) (Sm.texts (n+1) el)++r) (k++((if decide (el.length=0)=true then [(4,[59])] else (2,[101,108,115,101])::(4,[123])::(ktSs el++[(4,[125])]))++ks)):=by
 unfold diskT
 split
 ·refine .line ?_;simp only [Al_List_flatten_cons,Al_List_flatten_nil,Al_List_append_nil,Al_List_append_assoc,Al_List_cons_append,Al_List_nil_append];exact hf.one (sepB_cons (by decide)) (.sy (by decide) (hdB_cons (by decide)) (.nl h))
 ·simp only [Al_List_append_assoc];refine .line ?_;simp only [Al_List_flatten_cons,Al_List_flatten_nil,Al_List_append_nil,Al_List_append_assoc,Al_List_cons_append,Al_List_nil_append];exact hf.one sp_sep (.sp (lx_kw (w:=[101,108,115,101]) (by decide) (.sy (by decide) (hdB_cons (by decide)) (.nl (hb _ _ _ (lx_end h))))))
theorem LxI.app {t t2:Str} {k k2:List Kt} (h:LxI t k) (h2:∀ r ks,sepB r->Lx r ks->Lx (t2++r) (k2++ks)/\sepB (t2++r)):LxI (t++t2) (k++k2):=λr ks hr l=>by
 rw [Al_List_append_assoc,Al_List_append_assoc];obtain ⟨h3,h4⟩:=h2 r ks hr l;exact h _ _ h4 h3
theorem LxI.kw (hw:w∈words) {t:Str} {k:List Kt} (h:LxI t k):LxI (w++32::t) ((2,w)::k):=λr ks hr l=>by
 rw [Al_List_append_assoc];exact ⟨lx_kw hw (h r ks hr l).1,kw_hd hw⟩
theorem LxI.eq {t t2:Str} {k k2:List Kt} (h:LxI t k) (h2:LxI t2 k2):LxI (t++([32,32,61,32].drop 1++t2)) (k++(4,[61])::k2):=h.app λr ks hr l =>
 ⟨.sp (.sy (by decide) (hdB_cons (by decide)) (.sp (h2.one hr l))),sp_sep⟩
theorem lxS_of {s:Sm} (h:FmS s) (hn:namS s=true) (hb:∀ nm hd kd ex th el,s=.mk kd nm hd ex th el->LxB th/\LxB el):LxS s:=by
 intro n r ks hk;cases h with
 | @k1 nm a ha =>
  simp only [namS,Al_Bool_and_eq_true] at hn;have h1:nameB nm=true:=by simpa [formOf,okKd,forms] using hn.1.1
  have h2:=LxI.ex ha (alls_mem (Al_List_mem_cons_self ..) hn.2);refine .line ?_;rw [ktS_mk];simp [stK];exact .nm h1 sp_sep<|.sp<|.sy (by decide) (hdB_cons (by decide))<|.sp<|h2.one (sepB_cons (by decide))<|.sy (by decide) (hdB_cons (by decide)) (.nl hk)
 | @k2 nm a b ha hb2 =>
  simp only [namS,Al_Bool_and_eq_true] at hn;have h1:nameB nm=true:=by simpa [formOf,okKd,forms] using hn.1.1
  have h2:=LxI.ex ha (alls_mem (by simp) hn.2);have h3:=LxI.ex hb2 (alls_mem (by simp) hn.2);refine .line ?_;rw [ktS_mk];simp [stK];have h4:=h3.one (sepB_cons (by decide))<|Lx.sy (c:=59) (by decide) (hdB_cons (by decide)) (.nl hk)
  obtain ⟨h5,h6⟩:=h2 _ _ bk_sep<|Lx.sy (c:=93) (by decide) (hdB_cons (by decide))<|.sp<|.sy (c:=61) (by decide) (hdB_cons (by decide))<|.sp h4
  exact .nm h1 br_sep<|.sy (by decide) h6 h5
 | @k3 nm a ha =>
  simp only [namS,Al_Bool_and_eq_true] at hn;have h1:nameB nm=true:=by simpa [formOf,okKd,forms] using hn.1.1
  have h2:=LxI.ex ha (alls_mem (by simp) hn.2);refine .line ?_;rw [ktS_mk];simp [stK];obtain ⟨h5,h6⟩:=h2 _ _ bk_sep<|Lx.sy (c:=93) (by decide) (hdB_cons (by decide))<|.sy (c:=59) (by decide) (hdB_cons (by decide)) (.nl hk)
  exact lx_kw (w:=[100,101,108,101,116,101]) (by decide)<|.nm h1 br_sep<|.sy (by decide) h6 h5
 | @k4 a th el ha =>
  obtain ⟨b1,b2⟩:=hb _ _ _ _ _ _ rfl;simp only [namS,Al_Bool_and_eq_true] at hn;have h2:=LxI.ex ha (alls_mem (by simp) hn.2);rw [stext_mk,ktS_mk]
  by_cases he:el.length=0
  ·simp [stT,stK,he];refine .line ?_;simp;exact lx_kw (w:=[105,102]) (by decide)<|h2.one sp_sep<|.sp<|.sy (by decide) (hdB_cons (by decide))<|.nl<|b1 _ _ _<|lx_end hk
  ·have he2:¬ el=[]:=λe=>he (by rw [e];rfl);simp [stT,stK,he2];refine .line ?_;simp;exact lx_kw (w:=[105,102]) (by decide)<|h2.one sp_sep<|.sp<|.sy (by decide) (hdB_cons (by decide))<|.nl<|b1 _ _ _<|.line<|.sy (by decide) (hdB_cons (by decide))<|.sp<|lx_kw (w:=[101,108,115,101]) (by decide)<|.sy (by decide) (hdB_cons (by decide))<|.nl<|b2 _ _ _<|lx_end hk
 | @k5 a th ha =>
  obtain ⟨b1,b2⟩:=hb _ _ _ _ _ _ rfl;simp only [namS,Al_Bool_and_eq_true] at hn;have h2:=LxI.ex ha (alls_mem (by simp) hn.2);rw [stext_mk,ktS_mk];simp [stT,stK];refine .line ?_;simp;exact lx_kw (w:=[119,104,105,108,101]) (by decide)<|h2.one sp_sep<|.sp<|.sy (by decide) (hdB_cons (by decide))<|.nl<|b1 _ _ _<|lx_end hk
 | @k6 nm hd l hl =>
  simp only [namS,Al_Bool_and_eq_true] at hn;have h1:nameB nm=true:=by simpa [formOf,okKd,forms] using hn.1.1
  have h2:nameB hd=true:=by simpa [formOf,okKd,forms] using hn.1.2
  refine .line ?_;rw [ktS_mk];simp [stK];exact lx_kw (w:=[115,101,110,100]) (by decide)<|.nm2 h1 (λd e=>by cases e;rfl)<|.sy (by decide) (name_hd h2)<|.nm h2 (sepB_cons (by decide))<|lx_list (λa ha=>.ex (hl a ha) (alls_mem ha hn.2)) (hdB_cons (by decide))<|.sy (by decide) (hdB_cons (by decide)) (.nl hk)
 | @k7 hd a l ha hl =>
  simp only [namS,Al_Bool_and_eq_true] at hn;have h2:nameB hd=true:=by simpa [formOf,okKd,forms] using hn.1.2
  have h3:=LxI.ex ha (alls_mem (by simp) hn.2);refine .line ?_;rw [ktS_mk];simp [stK];exact lx_kw (w:=[97,102,116,101,114]) (by decide)<|h3.one sp_sep<|.sp<|lx_kw (w:=[100,111]) (by decide)<|.nm h2 (sepB_cons (by decide))<|lx_list (λb hb=>.ex (hl b hb) (alls_mem (by simp [hb]) hn.2)) (hdB_cons (by decide))<|.sy (by decide) (hdB_cons (by decide)) (.nl hk)
 | @k8 a b el ha hb2 =>
  obtain ⟨_,b2⟩:=hb _ _ _ _ _ _ rfl;simp only [namS,Al_Bool_and_eq_true] at hn;have h2:=LxI.ex ha (alls_mem (by simp) hn.2);have h3:=LxI.ex hb2 (alls_mem (by simp) hn.2);have h4:=lx_oth b2 (n:=n) (LxI.kw (w:=[115,116,111,114,101]) (by decide) (h2.eq h3)) hk;rw [stext_mk,ktS_mk];simp [stT,stK] at h4|-;exact h4
 | @k9 nm a el ha =>
  obtain ⟨_,b2⟩:=hb _ _ _ _ _ _ rfl;simp only [namS,Al_Bool_and_eq_true] at hn;have h1:nameB nm=true:=by simpa [formOf,okKd,forms] using hn.1.1
  have h2:=LxI.ex ha (alls_mem (by simp) hn.2);have h4:=lx_oth b2 (n:=n) (LxI.kw (w:=[102,101,116,99,104]) (by decide) ((LxI.nm h1).eq h2)) hk;rw [stext_mk,ktS_mk];simp [stT,stK] at h4|-;exact h4
 | k10 =>
  refine .line ?_;rw [ktS_mk];simp [stK];exact .kw (w:=[115,116,111,112]) (by decide) (sepB_cons (by decide))<|.sy (by decide) (hdB_cons (by decide)) (.nl hk)
theorem lxS_all (s:Sm):Sm.all frmS s=true->Sm.all namS s=true->LxS s:=by
 induction s using Sm.ind with
 | _ kd nm hd ex th el ih1 ih2 =>
  intro h k;rw [sall_mk,Al_Bool_and_eq_true,Al_Bool_and_eq_true] at h k;obtain ⟨⟨h1,h2⟩,h3⟩:=h;obtain ⟨⟨k1,k2⟩,k3⟩:=k;refine lxS_of (frmS_form h1) k1 λnm' hd' kd' ex' th' el' e=>?_;injection e with _ _ _ _ e1 e2
  subst e1 e2;exact ⟨.of λs hs=>ih1 s hs (salls_mem hs h2) (salls_mem hs k2),.of λs hs=>ih2 s hs (salls_mem hs h3) (salls_mem hs k3)⟩
theorem LxB.all {l:List Sm} (h:Sm.alls frmS l=true) (k:Sm.alls namS l=true):LxB l:=.of λs hs=>lxS_all s (salls_mem hs h) (salls_mem hs k)
/-! ### Fleets -/
end Go.Proofs.YtidclioghdbphaaGreatDoor
namespace Go.Proofs.YtidclioghdbphaaGreatDoor
open Go.RowKit Go.Par Go.Sx
def dU8 (c:UInt8):D:=.val (.int .u8 c.toNat)
structure Mk where
 ints:Nat
 tables:Nat
 flags:Nat
 own:Nat
 ars:List (List Nat)
 params:Nat
def arN (M:Mk) (c h:Nat):Nat:=(M.ars.getD c []).getD h 0
def arL (M:Mk) (c:Nat):Nat:=(M.ars.getD c []).length
def Mk.at (M:Mk) (k:Nat):Mk:={ M with params:=arN M M.own k }
section
variable {H:Hp}
end
structure Sp where
 wh:UInt8
 i:UInt8
 nm:UInt8
 n:Int64
 nodes:List Nd
def okE (e:Ex):Bool:=decide (e.depth<=64) && Ex.all narrow e
def okS2 (N:Nat):Sm->Bool
 | .mk _ _ _ ex _ _=>decide (ex.length<=N) && ex.all okE
structure okL (N:Nat) (l:List Sm):Prop where
 cnt:Sm.counts l<=N
 dep:Sm.deeps l<=N
 all:Sm.alls (okS2 N) l=true
mutual
theorem sall_imp {q q':Sm->Bool} (h:∀ s,q s=true->q' s=true):∀ s,Sm.all q s=true->Sm.all q' s=true
 | .mk kd nm hd ex th el,hh=>by
  rw [sall_mk] at hh|-;simp only [Al_Bool_and_eq_true] at hh|-;exact ⟨⟨h _ hh.1.1,salls_imp h th hh.1.2⟩,salls_imp h el hh.2⟩
theorem salls_imp {q q':Sm->Bool} (h:∀ s,q s=true->q' s=true):∀ l,Sm.alls q l=true->Sm.alls q' l=true
 | [],_=>rfl
 | s::r,hh=>by
  rw [Sm.alls,Al_Bool_and_eq_true] at hh|-;exact ⟨sall_imp h s hh.1,salls_imp h r hh.2⟩
end
variable {N M:Nat}
theorem okS2_mono (h:N<=M):∀ s,okS2 N s=true->okS2 M s=true
 | .mk _ _ _ ex _ _,hh=>by
  simp only [okS2,Al_Bool_and_eq_true,Al_decide_eq_true_eq] at hh|-;exact ⟨by omega,hh.2⟩
theorem okL.mono {l:List Sm} (h:okL N l) (k:N<=M):okL M l:=⟨by have:=h.cnt;omega,by have:=h.dep;omega,salls_imp (okS2_mono k) l h.all⟩
theorem okL.nil:okL N []:=⟨by simp [Sm.counts],by simp [Sm.deeps],Z⟩
theorem okL.app {a b:List Sm} (h:okL N a) (k:okL M b):okL (N+M) (a++b):=by
 have h2:=h.mono (M:=N+M) (by omega);have k2:=k.mono (M:=N+M) (by omega);refine ⟨?_,?_,?_⟩
 ·rw [scounts_app];have:=h.cnt;have:=k.cnt;omega
 ·rw [sdeeps_app];have:=h2.dep;have:=k2.dep;omega
 ·rw [salls_app,h2.all,k2.all];rfl
theorem okL.len {l:List Sm} (h:okL N l):l.length<=N:=Al_Nat_le_trans (scounts_len l) h.cnt
theorem okL.left {a b:List Sm} (h:okL N (a++b)):okL N a:=by
 obtain ⟨h1,h2,h3⟩:=h;rw [scounts_app] at h1;rw [sdeeps_app] at h2;rw [salls_app,Al_Bool_and_eq_true] at h3;exact ⟨by omega,by omega,h3.1⟩
theorem okL.right {a b:List Sm} (h:okL N (a++b)):okL N b:=by
 obtain ⟨h1,h2,h3⟩:=h;rw [scounts_app] at h1;rw [sdeeps_app] at h2;rw [salls_app,Al_Bool_and_eq_true] at h3;exact ⟨by omega,by omega,h3.2⟩
variable {j:Nat}
theorem split_at {α:Type} {l:List α} (h:j<l.length):l=l.take j++([l[j]]++l.drop (j+1)):=by simp
theorem set_at {α:Type} {l:List α} (h:j<l.length) (s:α):l.set j s=l.take j++([s]++l.drop (j+1)):=by
 rw [List.set_eq_take_append_cons_drop,Al_if_pos h];rfl
theorem okL.at {l:List Sm} (h:okL N l) (hj:j<l.length):okL N [l[j]]:=by
 have h2:=h;rw [split_at hj] at h2;exact h2.right.left
theorem okL.put {l:List Sm} (h:okL N l) (hj:j<l.length) {s:Sm} (k:okL (N+M) [s]):okL (N+(N+M)) (l.set j s):=by
 have h2:=h;rw [split_at hj] at h2
 have h3:okL N (l.take j++l.drop (j+1)):=by
  obtain ⟨a1,a2,a3⟩:=h2;simp only [scounts_app,sdeeps_app,salls_app,Al_Bool_and_eq_true] at a1 a2 a3;refine ⟨?_,?_,?_⟩
  ·rw [scounts_app];omega
  ·rw [sdeeps_app];omega
  ·rw [salls_app,a3.1,a3.2.2];rfl
 rw [set_at hj];obtain ⟨a1,a2,a3⟩:=h3;obtain ⟨b1,b2,b3⟩:=k;rw [scounts_app] at a1;rw [sdeeps_app] at a2;rw [salls_app,Al_Bool_and_eq_true] at a3;have m1:=okS2_mono (N:=N) (M:=N+(N+M)) (by omega);have m2:=okS2_mono (N:=N+M) (M:=N+(N+M)) (by omega);refine ⟨?_,?_,?_⟩
 ·rw [scounts_app,scounts_app];omega
 ·rw [sdeeps_app,sdeeps_app];omega
 ·rw [salls_app,salls_app,salls_imp m1 _ a3.1,salls_imp m2 _ b3,salls_imp m1 _ a3.2];rfl
structure okHd (N:Nat) (h:Hd):Prop where
 ps:h.ps.length<=N
 body:okL N h.body
theorem okHd.mono {h:Hd} (k:okHd N h) (l:N<=M):okHd M h:=⟨by have:=k.ps;omega,k.body.mono l⟩
structure okV2 (N:Nat) (v:List Hd):Prop where
 len:v.length<=N
 all:∀ h∈v,okHd N h
theorem okV2.mono {v:List Hd} (k:okV2 N v) (l:N<=M):okV2 M v:=⟨by have:=k.len;omega,λh m=>(k.all h m).mono l⟩
theorem okV2.nil:okV2 N []:=⟨by simp,λ_ h=>by cases h⟩
structure okCp (N:Nat) (c:Cp):Prop where
 vars:c.vars.length<=N
 vers:c.vers.length<=N
 all:∀ v∈c.vers,okV2 N v
theorem okCp.mono {c:Cp} (k:okCp N c) (l:N<=M):okCp M c:=⟨by have:=k.vars;omega,by have:=k.vers;omega,λv m=>(k.all v m).mono l⟩
structure okFt (N:Nat) (f:Ft):Prop where
 flags:f.flags.length<=N
 links:f.links.length<=N
 comps:f.comps.length<=N
 pos:0<f.comps.length
 all:∀ c∈f.comps,okCp N c
theorem okFt.mono {f:Ft} (k:okFt N f) (l:N<=M):okFt M f:=⟨by have:=k.flags;omega,by have:=k.links;omega,by have:=k.comps;omega,k.pos,λc m=>(k.all c m).mono l⟩
def okD (D:Nat) (e:Ex):Prop:=e.depth<=D/\Ex.all narrow e=true
theorem okD.mono {D D':Nat} {e:Ex} (h:okD D e) (k:D<=D'):okD D' e:=⟨Al_Nat_le_trans h.1 k,h.2⟩
def wfE (D:Nat) (e:Ex):Prop:=e.depth<=D/\Ex.all frmE e=true/\Ex.all namE e=true
theorem wfE.mono {D D':Nat} {e:Ex} (h:wfE D e) (k:D<=D'):wfE D' e:=⟨Al_Nat_le_trans h.1 k,h.2⟩
def e0:Ex:=.mk 4 [] 0 []
structure MkOk (M:Mk):Prop where
 i0:0<M.ints
 i3:M.ints<=3
 p2:M.params<=2
 f2:M.flags<=2
 a3:M.ars.length<=3
 a0:0<M.ars.length
 ar2:∀ c h,arN M c h<=2
 al:∀ c,c<M.ars.length->0<arL M c/\arL M c<=3
 own:M.own<M.ars.length
structure Wf (D lf:Nat) (l:List Sm) (lf':Nat):Prop where
 cnt:Sm.counts l+lf'<=lf
 dep:Sm.deeps l<=D
 frm:Sm.alls frmS l=true
 nam:Sm.alls namS l=true
 sma:Sm.alls smaS l=true
theorem Wf.all {D lf lf':Nat} {l:List Sm} (h:Wf D lf l lf'):Sm.deeps l<=D/\Sm.alls frmS l=true/\Sm.alls namS l=true/\Sm.alls smaS l=true:=⟨h.dep,h.frm,h.nam,h.sma⟩
theorem MkOk.at {M:Mk} (h:MkOk M) (k:Nat):MkOk (M.at k):=⟨h.i0,h.i3,h.ar2 _ _,h.f2,h.a3,h.a0,h.ar2,h.al,h.own⟩
structure Sg where
 r:List Tk
 e:Nat
 o:Nat
def offT (n:Nat):List Tk->Nat
 | []=>n
 | t::_=>t.o
def Sg.fail (n c:Nat) (s:Sg):Sg:=if s.e=0 then ⟨s.r,c,offT n s.r⟩ else s
section
variable {α β:Type}
def up (n:Nat) (g:Pz α) (s:Sg):Sg:=if s.e=0 then (match g s.r with | .ok _ r=>⟨r,s.e,s.o⟩ | .er r c=>⟨r,c,offT n r⟩) else s
def Cz (g:Pz α):Prop:=∀ r r' c,g r=.er r' c->c≠0
theorem Rs.bind_er {x:Rs α} {f:α->List Tk->Rs β} {r:List Tk} {c:Nat} (h:x.bind f=.er r c):x=.er r c\/∃ a q,x=.ok a q/\f a q=.er r c:=by
 cases x with
 | ok a q=>exact .inr ⟨a,q,Z,h⟩
 | er q d=>left;injection h with h1 h2;subst h1;subst h2;rfl
theorem Cz.pure (a:α):Cz (gPure a):=λr r' c e=>by cases e
theorem Cz.bind {g:Pz α} {f:α->Pz β} (h:Cz g) (k:∀ a,Cz (f a)):Cz (gBind g f):=λr r' c e=>by
 rcases Rs.bind_er e with e | ⟨a,q,_,e⟩
 ·exact h _ _ _ e
 ·exact k _ _ _ _ e
theorem Cz.nd (w:Str):Cz (gNd w):=λr r' c e=>by
 unfold gNd at e
 split at e
 ·cases e
 ·injection e with _ e;omega
theorem Cz.nm:Cz gNm:=λr r' c e=>by
 unfold gNm at e
 split at e
 ·injection e with _ e;omega
 ·split at e
  ·cases e
  ·injection e with _ e;omega
theorem Cz.nu:Cz gNu:=λr r' c e=>by
 unfold gNu at e
 split at e
 ·injection e with _ e;omega
 ·split at e
  ·split at e
   ·cases e
   ·injection e with _ e;omega
  ·injection e with _ e;omega
theorem Cz.alt {w:Str} {p q:Pz α} (h:Cz p) (k:Cz q):Cz (gAlt w p q):=λr r' c e=>by
 unfold gAlt at e
 split at e
 ·exact h _ _ _ e
 ·exact k _ _ _ e
theorem Cz.manyF {w:Str} {p:Pz α} (h:Cz p):∀ f,Cz (gManyF w p f)
 | 0=>λr r' c e=>by unfold gManyF at e;injection e with _ e;omega
 | f+1=>.alt (.bind h λ_=>.bind (Cz.manyF h f) λ_=>.pure _) (.pure _)
theorem Cz.many {w:Str} {p:Pz α} (h:Cz p):Cz (gMany w p):=λr r' c e=>Cz.manyF h _ _ _ _ e
def ac (w:Str) (s:Sg):Bool:=decide (s.e=0) && isT w s.r
end
theorem wordL:∀ w∈words,letB (w.headD 0)=true/\w.length<=12:=by decide +kernel
theorem symL:∀ w∈symbols,letB (w.headD 0)=false/\digB (w.headD 0)=false:=by decide +kernel
variable {r w:Str}
theorem readK_hd {c:UInt8} (e:(c::r).take (readK (c::r)).2=w):w.headD 0=c:=by
 have h:=(readK_bnd (l:=c::r) (by simp)).1;obtain ⟨k,hk⟩:∃ k,(readK (c::r)).2=k+1:=⟨(readK (c::r)).2 - 1,by omega⟩;rw [hk] at e;subst e
 rfl
theorem dig_let {c:UInt8} (h:digB c=true):letB c=false:=by
 have key:∀ i∈List.range 256,digB (UInt8.ofNat i)=true->letB (UInt8.ofNat i)=false:=by decide +kernel
 have:=key c.toNat (Al_List_mem_range.2 c.toNat_lt);rw [Al_UInt8_ofNat_toNat] at this;exact this h
theorem readK_word {m:Str} (h:m≠[]) (hw:w∈words\/w∈symbols) (e:m.take (readK m).2=w):(readK m).1=2\/(readK m).1=4:=by
 match m,h with
 | c::r,_ =>
  have hh:=readK_hd e;cases h1:letB c with
  | true =>
   have hw1:w∈words:=by
    rcases hw with hw | hw
    ·exact hw
    ·have:=(symL w hw).1;rw [hh,h1] at this;cases this
   cases h4:words.contains ((c::r).take (pre insB (c::r))) with
   | true=>left;simp only [readK,Al_List_headD_cons,h1,h4,Al_if_true]
   | false =>
    by_cases h5:pre insB (c::r)<=12
    ·simp only [readK,Al_List_headD_cons,h1,h4,h5,Al_if_true,Al_Bool_false_eq_true,Al_if_false] at e;rw [e] at h4;rw [Al_List_contains_iff_mem.2 hw1] at h4;cases h4
    ·simp only [readK,Al_List_headD_cons,h1,h4,h5,Al_if_true,Al_Bool_false_eq_true,Al_if_false] at e;rw [Al_List_take_length] at e;have h6:=pre_le insB (c::r);have h7:=(wordL w hw1).2;rw [<-e] at h7;omega
  | false =>
   have hw1:w∈symbols:=by
    rcases hw with hw | hw
    ·have:=(wordL w hw).1;rw [hh,h1] at this;cases this
    ·exact hw
   have h4:digB c=false:=by
    have:=(symL w hw1).2;rw [hh] at this;exact this
   cases hx:symbols.find? (λx=>x.isPrefixOf (c::r)) with
   | some x=>right;simp only [readK,Al_List_headD_cons,h1,h4,hx,Al_Bool_false_eq_true,Al_if_false]
   | none =>
    simp only [readK,Al_List_headD_cons,h1,h4,hx,Al_Bool_false_eq_true,Al_if_false] at e;rw [Al_List_take_length] at e;have:=List.find?_eq_none.1 hx w hw1;rw [<-e] at this;exact absurd (Al_List_isPrefixOf_iff_prefix.2 (List.prefix_refl _)) this
theorem readK_num {m:Str} {c0:UInt8} (h:m≠[]) (hc:c0=50\/c0=51) (e:m.take (readK m).2=[c0]):(readK m).1=3:=by
 match m,h with
 | c::r,_ =>
  have hh:c0=c:=readK_hd e;have h4:digB c=true:=by rw [<-hh];rcases hc with rfl | rfl <;> decide
  have h1:=dig_let h4;have h5:pre digB (c::r)=1\/c≠48:=.inr (by rw [<-hh];rcases hc with rfl | rfl <;> decide);simp only [readK,Al_List_headD_cons,h1,h4,h5,Al_if_true,Al_Bool_false_eq_true,Al_if_false]
def Tkg (t:Tk):Prop:=(t.t∈words\/t.t∈symbols->t.k=2\/t.k=4)/\(t.t=[50]\/t.t=[51]->t.k=3)/\t.t≠[]
theorem tokFG:∀ (f o:Nat) (m:Str),∀ t∈tokF f o m,Tkg t
 | 0,_,_,t,h=>by cases h
 | f+1,o,m,t,h=>by
  by_cases h0:m=[]
  ·rw [h0,tokF_nil] at h;cases h
  ·rw [tokF_step h0] at h;rcases Al_List_mem_cons.1 h with rfl | h
   ·refine ⟨λhw=>readK_word h0 hw rfl,λhc=>?_,λe=>?_⟩
    ·rcases hc with hc | hc
     ·exact readK_num h0 (.inl Z) hc
     ·exact readK_num h0 (.inr Z) hc
    ·have hb:=readK_bnd h0;have h2:=congrArg List.length e;rw [Al_List_length_take] at h2;simp only [Al_List_length_nil] at h2;omega
   ·exact tokFG f _ _ t h
theorem lexR_good (s:Str):∀ t∈lexR s,Tkg t:=tokFG _ _ _
theorem numV_app (l:Str) (c:UInt8):numV (l++[c])=10 * numV l+(c.toNat - 48):=by
 unfold numV;rw [Al_List_foldl_append]
 rfl
theorem num_ge:∀ (r:Str) (v:Nat),v<=r.foldl (λv c=>10 * v+(c.toNat - 48)) v
 | [],v=>Al_Nat_le_refl _
 | c::r,v=>by
  rw [Al_List_foldl_cons];have:=num_ge r (10 * v+(c.toNat - 48));omega
theorem numV_le (l r:Str):numV l<=numV (l++r):=by
 unfold numV;rw [Al_List_foldl_append];exact num_ge r _
theorem numV_take (t:Str) (i:Nat):numV (t.take i)<=numV t:=by
 have h:=numV_le (t.take i) (t.drop i);rw [Al_List_take_append_drop] at h;exact h
variable {i:Nat}
theorem numV_step {t:Str} {c:UInt8} (h:t[i]? = some c):numV (t.take (i+1))=10 * numV (t.take i)+(c.toNat - 48):=by
 rw [List.take_succ,h];exact numV_app _ _
theorem numV_zero:numV []=0:=rfl
def toks (o:Nat) (m:Str):List Tk:=tokF (m.length+1) o m
def skipN (m:Str):Nat:=m.length - (skipS false m).length
theorem skipN_le (m:Str):skipN m<=m.length:=Nat.sub_le _ _
theorem drop_skipN (m:Str):m.drop (skipN m)=skipS false m:=skipS_drop false m
theorem toks_nil (o:Nat):toks o []=[]:=tokF_nil _ _
theorem toks_cons {o:Nat} {m:Str} (h:m≠[]):toks o m=⟨(readK m).1,m.take (readK m).2,o⟩::toks (o+(readK m).2+skipN (m.drop (readK m).2)) (m.drop ((readK m).2+skipN (m.drop (readK m).2))):=by
 have hr:=readK_bnd h;have hs:=skipS_len false (m.drop (readK m).2);rw [Al_List_length_drop] at hs;unfold toks;rw [tokF_step h,<-Al_List_drop_drop,drop_skipN]
 have e:o+(readK m).2+skipN (m.drop (readK m).2)=o+(m.length - (skipS false (m.drop (readK m).2)).length):=by
  unfold skipN;rw [Al_List_length_drop];omega
 rw [e,tokF_more _ _ _ _ _ (Al_Nat_lt_succ_self _)];omega
theorem lexR_toks (s:Str):lexR s=toks (skipN s) (s.drop (skipN s)):=by
 unfold toks lexR;rw [drop_skipN];have hs:=skipS_len false s;exact tokF_more _ _ _ _ (by omega) (by omega)
theorem tokF_len:∀ (f o:Nat) (m:Str),(tokF f o m).length<=m.length
 | 0,_,_=>by rw [tokF];simp
 | f+1,o,m=>by
  by_cases h0:m=[]
  ·subst h0;rw [tokF_nil];simp
  ·have hr:=readK_bnd h0;have hs:=skipS_len false (m.drop (readK m).2);rw [Al_List_length_drop] at hs;rw [tokF_step h0,Al_List_length_cons];have:=tokF_len f (o+(m.length - (skipS false (m.drop (readK m).2)).length)) (skipS false (m.drop (readK m).2));omega
theorem lexR_len (s:Str):(lexR s).length<=s.length:=Al_Nat_le_trans (tokF_len _ _ _) (skipS_len false s)
theorem Fx.agg35:aggN prg 35=some (some 7):=by kernel_rfl
theorem Fx.call110:callN prg 110=true:=by kernel_rfl
theorem Fx.call113:callN prg 113=true:=by kernel_rfl
theorem Fx.call114:callN prg 114=true:=by kernel_rfl
theorem Fx.call158:callN prg 158=true:=by kernel_rfl
theorem Fx.call180:callN prg 180=true:=by kernel_rfl
theorem Fx.field35_2:fieldN prg 35 2=some 2:=by kernel_rfl
theorem Fx.field35_3:fieldN prg 35 3=some 3:=by kernel_rfl
theorem Fx.field35_4:fieldN prg 35 4=some 4:=by kernel_rfl
theorem Fx.int2:intN prg 2=some Go.IntKind.i64:=by kernel_rfl
theorem Fx.size35:sizeN prg 35=some 7:=by kernel_rfl
theorem Fx.zero35:zeroN prg 35=some
 [Go.Value.int Go.IntKind.u8 (Int.ofNat 0),Go.Value.string { data:={ toList:=[] } },
  Go.Value.string { data:={ toList:=[] } },Go.Value.int Go.IntKind.i64 (Int.ofNat 0),
  Go.Value.int Go.IntKind.i64 (Int.ofNat 0),Go.Value.slice none 0 0,Go.Value.slice none 0 0]:=by kernel_rfl
theorem Fx.bld35_0_1 (x0:Int) (x1:ByteArray):buildN prg 35 [(0,.int .u8 x0),(1,.string x1)]=some [.int .u8 x0,.string x1,.string ⟨#[]⟩,.int .i64 0,.int .i64 0,.slice none 0 0,.slice none 0 0]:=by kernel_rfl
theorem Fx.bld35_0_4 (x0 x4:Int):buildN prg 35 [(0,.int .u8 x0),(4,.int .i64 x4)]=some [.int .u8 x0,.string ⟨#[]⟩,.string ⟨#[]⟩,.int .i64 0,.int .i64 x4,.slice none 0 0,.slice none 0 0]:=by kernel_rfl
end Go.Proofs.YtidclioghdbphaaGreatDoor
