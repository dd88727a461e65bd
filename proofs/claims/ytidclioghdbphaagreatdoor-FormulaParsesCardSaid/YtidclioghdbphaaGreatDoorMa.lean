/- Texts of the proof, one behind the other. -/
import Derived.Below
import Derived.Deep.Quiet
import Derived.StillTail
import Derived.WalkKit
import Derived.WalkSpells
import Derived.Laws.IdiomCopy
import Derived.Laws.AppendOwn
import Derived.Laws.Rows
import Derived.Deep.LoopGhost
import Derived.WalkLawsBesides
import Derived.IntWalk
import Derived.ChangeKeysEq
import Derived.Laws.CopyRow
import Derived.Laws.AppendOwnNone
import Derived.Laws.IdiomStrings
import Derived.Sort.Row
import Derived.Laws.MakeOwn
import Derived.Lib.Strings
import Derived.ChangeMaps4
set_option linter.all false
set_option maxRecDepth 100000
namespace Go
def aM:=@if_pos
def aU:=@if_true
def rN:=@Ne.symm
def aB:=@Bool.false_eq_true
def aS:=@if_false
def aC:=@Bool.and_eq_true
def aA:=@decide_eq_true_eq
def bC:=@List.all_eq_true
def bU:=@List.mem_range
def mU:=@Option.map_some
def oJ:=@Option.getD_some
def mK:=@Array.all_eq_true_iff_forall_mem
def wH:=@decide_false
def aL:=@Bool.false_or
def fV:=@List.contains_iff_mem
def iZ:=@List.any_eq_true
def bH:=@Option.some.inj
def aW:=@Nat.le_refl
def aT:=@Bool.or_eq_true
def Al_Array_getD_eq_getD_getElem?:=@Array.getD_eq_getD_getElem?
def iY:=@Option.bind_some
def oV:=@List.mem_append_left
def qI:=@List.mem_filterMap
def aD:=@if_neg
def iA:=@Nat.lt_or_ge
def wZ:=@Array.ext
def oW:=@List.getElem_toArray
def sG:=@List.getElem_map
def qJ:=@List.getElem_range
def dT:=@Nat.zero_add
def bL:=@List.cons_append
def cK:=@List.mem_append
def vJ:=@Bool.not_true
def jD:=@List.pairwise_append
def dQ:=@Nat.add_assoc
def nZ:=@Nat.blt_eq
def lU:=@Nat.beq_refl
def lI:=@cond_true
def wB:=@Option.some.injEq
def lK:=@Nat.eq_of_beq_eq_true
def aV:=@Nat.le_trans
def bP:=@List.mem_cons
def bK:=@List.eq_nil_of_length_eq_zero
def lL:=@List.set_append_right
def jP:=@Nat.sub_self
def qH:=@List.set_cons_zero
def lJ:=@Nat.le_of_ble_eq_true
def wI:=@Nat.sub_zero
def eE:=@Option.map_eq_some_iff
def dH:=@Option.bind_eq_some_iff
def rM:=@Prod.mk.inj
def eT:=@List.map_cons
def dX:=@Bool.not_eq_true'
def kC:=@Nat.add_zero
def dB:=@List.nil_append
def aQ:=@List.length_nil
def yW:=@List.mapM_cons
def rO:=@List.mapM_toArray
def sF:=@map_eq_pure_bind
def jX:=@List.pairwise_cons
def uL:=@Nat.add_mul
def oT:=@Nat.mul_le_mul_right
def kT:=@List.map_toArray
def wJ:=@List.map_nil
def dR:=@Nat.lt_of_lt_of_le
def aX:=@Bool.eq_iff_iff
def dM:=@beq_iff_eq
def rZ:=@ByteArray.ext
def sH:=@Array.toList_inj
def tI:=@Nat.min_eq_left
def dV:=@List.length_take
def aE:=@List.length_append
def aK:=@List.length_cons
def bW:=@List.append_assoc
def pV:=@Nat.zero_mul
def iU:=@Nat.succ_mul
def jU:=@List.take_of_length_le
def pR:=@List.drop_succ_cons
def iK:=@List.drop_of_length_le
def aP:=@Nat.zero_le
def pY:=@List.mem_map
def BV:=@List.map_map
def aJ:=@of_decide_eq_true
def aO:=@of_decide_eq_false
def Al_List_mem_of_getElem?:=@List.mem_of_getElem?
def jK:=@List.cons.injEq
def OX:=@dif_pos
def OY:=@dif_neg
def uM:=@List.drop_take
def nO:=@List.drop_zero
def qN:=@Option.isSome_iff_exists
def dO:=@List.append_nil
def bT:=@List.map_append
def oH:=@List.mem_append_right
def jI:=@decide_eq_false_iff_not
def oD:=@List.sizeOf_lt_of_mem
def bJ:=@List.length_map
def eU:=@List.take_append_drop
def bI:=@List.getElem_mem
def dZ:=@List.takeWhile_cons
def iI:=@List.isPrefixOf_iff_prefix
def yY:=@Bool.and_assoc
def nM:=@List.foldl_append
def aR:=@UInt8.toNat_inj
def nN:=@List.flatten_cons
def wO:=@List.flatten_nil
def cS:=@List.length_drop
def aH:=@List.headD_cons
def pW:=@Nat.le_of_lt
def BZ:=@UInt8.toNat_ofNat'
def cO:=@List.mem_singleton
def cU:=@List.map_eq_cons_iff
def iJ:=@List.map_eq_append_iff
def fJ:=@List.map_eq_nil_iff
def tJ:=@List.foldl_cons
def yX:=@List.foldl_nil
def iH:=@UInt8.ofNat_toNat
def dW:=@Int64.toInt_inj
def yV:=@List.tail_cons
def jL:=@Int64.toInt_ofNat_of_lt
def cI:=@List.mem_cons_of_mem
def bQ:=@List.mem_cons_self
def kJ:=@Nat.le_antisymm
def gJ:=@List.append_eq_nil_iff
def jV:=@List.take_left
def BO:=@List.length_pos_iff
def fE:=@List.all_cons
def aY:=@List.take_length
def tH:=@beq_false_of_ne
def zH:=@List.length_singleton
def cD:=@true_iff
def bZ:=@false_iff
def cH:=@iff_true
def bY:=@iff_false
def aZ:=@Bool.true_eq_false
def oU:=@List.mem_iff_getElem
def cJ:=@Bool.and_true
def aG:=@Bool.true_and
def sP:=@Bool.and_eq_false_iff
def JX:=@not_or
def wA:=@and_true
def oY:=@Bool.or_eq_false_iff
def aI:=@decide_eq_false
def aF:=@decide_eq_true
def fC:=@List.drop_drop
def cY:=@Nat.lt_succ_self
def wN:=@List.suffix_refl
def EK:=@List.suffix_cons
def aN:=@Bool.false_and
def bD:=@Classical.not_not
def fO:=@List.drop_eq_getElem_cons
def jJ:=@Nat.add_sub_cancel_left
def cW:=@UInt8.toNat_ofNat_of_lt'
def pC:=@Int.tdiv_eq_ediv_of_nonneg
def yJ:=@Option.map_eq_none_iff
def pQ:=@Nat.not_lt_zero
def iV:=@Prod.mk.injEq
def EJ:=@Nat.min_eq_right
def mD:=@Nat.mul_le_mul_left
theorem Jt:True:=trivial
theorem Hm {α:Type} {a:α} {l:List α} :a∈a::l:=.head _
abbrev iN (n:Nat):Value:=.int .i64 n
theorem Z {α:Sort _} {a:α} :a=a:=rfl
end Go
namespace Go.Par
open Go.RowKit

def Ext (w w':World):Prop:=Below w.heap.size w w'
theorem Ext.refl (w:World):Ext w w:=Below.refl _ _
theorem Ext.trans {a b c:World} (h:Ext a b) (k:Ext b c):Ext a c:=Below.trans h (Below.mono k h.size)
theorem Ext.alloc {a w:World} (h:Ext a w) (o:Obj):Ext a (w.alloc o):=Below.alloc h h.size o
theorem Ext.drew {a w:World} (h:Ext a w):Ext a w.drew:=Below.drew h
theorem Ext.drewN {a w:World} (h:Ext a w) (n:Nat):Ext a (w.drewN n):=⟨h.os,h.tape,h.output,h.size,h.block⟩
theorem Ext.setCell {a w:World} (h:Ext a w) {p:Addr} (hp:a.heap.size<=p.block) (u:Value):Ext a (w.setCell p u):=Below.setCell h hp u
theorem Ext.size {a w:World} (h:Ext a w):a.heap.size<=w.heap.size:=Below.size h
variable {W:World}
theorem Ext.cells {w1:World} (hb:Ext W w1):∀ b o,b<W.heap.size->w1.cell? ⟨b,o,none⟩=W.cell? ⟨b,o,none⟩:=λb o h=>Below.cell (p:=⟨b,o,none⟩) hb h

section
variable {P:Program} {ops:Array Oper} {w0:World}

def iO (ops:Array Oper) (k:Nat):Option Tmp:=(ops[k]?).bind (·.dst)

def frm (ops:Array Oper) (val:Nat->Value) (S:Nat->Bool):Nat->Act->Act
 | 0,a=>a
 | k+1,a=>if S k=true then (frm ops val S k a).put (iO ops k) (val k) else frm ops val S k a

theorem bB1 (a:Act) (d:Option Tmp) (v:Value):(a.put d v).tmps.size=a.tmps.size:=by
 cases d <;> simp [Act.put]
theorem NJ (val:Nat->Value) (S:Nat->Bool) (a:Act):∀ n,(frm ops val S n a).tmps.size=a.tmps.size
 | 0=>rfl
 | k+1=>by
  unfold frm
  split
  ·rw [bB1,NJ val S a k]
  ·exact NJ val S a k

theorem PA (a:Act) (t:Tmp) (v:Value):(a.put (some t) v).eval (.tmp t)=if t<a.tmps.size then v else undef:=by
 simp only [Act.eval,Act.put]
 split
 ·rename_i h;simp [h]
 ·rename_i h;simp [h]

theorem yS (val:Nat->Value) (S:Nat->Bool) (a:Act) (t:Tmp):∀ n,(∀ k,k<n->S k=true->iO ops k≠some t)->(frm ops val S n a).eval (.tmp t)=a.eval (.tmp t)
 | 0,_=>rfl
 | k+1,h=>by
  unfold frm
  split
  ·rename_i hs;rw [Act.eval_put (λd hd e=>by cases e;exact h k (by omega) hs hd)];exact yS val S a t k (λj hj=>h j (by omega))
  ·exact yS val S a t k (λj hj=>h j (by omega))

theorem FN (val:Nat->Value) (S:Nat->Bool) (a:Act) (t:Tmp) (j:Nat) (hS:S j=true) (hd:iO ops j=some t):∀ n,j<n->(∀ k,k<n->k≠j->iO ops k≠some t) ->
 (frm ops val S n a).eval (.tmp t)=if t<a.tmps.size then val j else undef
 | 0,h,_=>absurd h (by omega)
 | k+1,hj,hu=>by
  unfold frm
  by_cases hk:k=j
  ·subst hk;rw [aM hS,hd,PA,NJ]
  ·have ih:=FN val S a t j hS hd k (by omega) (λi hi=>hu i (by omega))
   split
   ·rw [Act.eval_put (λd hd' e=>by cases e;exact hu k (by omega) hk hd')];exact ih
   ·exact ih

theorem jC (val val':Nat->Value) (S S':Nat->Bool) (a:Act):∀ n,(∀ k,k<n->S k=S' k/\(S k=true->val k=val' k))->frm ops val S n a=frm ops val' S' n a
 | 0,_=>rfl
 | k+1,h=>by
  have hk:=h k (by omega);have ih:=jC val val' S S' a k (λj hj=>h j (by omega));unfold frm;rw [ih,<-hk.1]
  split
  ·rename_i hs;rw [hk.2 hs]
  ·rfl

theorem pS (val:Nat->Value) (S S':Nat->Bool) (a:Act) (i:Nat) (hi':S' i=true) (hi:S i=false) (hS:∀ k,k≠i->S' k=S k) :
 ∀ n,i<n->(∀ j k,j<n->k<n->j≠k->∀ d,iO ops j=some d->iO ops k≠some d)->frm ops val S' n a=(frm ops val S n a).put (iO ops i) (val i)
 | 0,h,_=>absurd h (by omega)
 | k+1,hin,hd=>by
  by_cases hk:k=i
  ·subst hk;have e:frm ops val S' k a=frm ops val S k a:=jC val val S' S a k (λj hj=>⟨hS j (by omega),λ_=>rfl⟩);simp only [frm,hi',hi,e,aU];simp
  ·have ih:=pS val S S' a i hi' hi hS k (by omega) (λj l hj hl=>hd j l (by omega) (by omega));simp only [frm,hS k hk,ih]
   split
   ·rw [Act.put_comm];intro d hd';exact hd i k (by omega) (by omega) (rN hk) d hd'
   ·rfl

def Yx (P:Program) (ops:Array Oper) (w0:World) (o:Oper) (v:Value) (a:Act):Prop :=
 (Region.wanted o (yielded ops a.tmps)=true/\∀ w,Ext w0 w->Oper.quietUpon P (Ext w) w v ((execOp a.eval o).run P w)) \/
 (Region.wanted o (yielded ops a.tmps)=false/\v=undef)

theorem Yx.of_same {o:Oper} {v:Value} {a a':Act} (hy:Yx P ops w0 o v a) (he:execOp a'.eval o=execOp a.eval o)
 (hw:Region.wanted o (yielded ops a'.tmps)=Region.wanted o (yielded ops a.tmps)):Yx P ops w0 o v a':=by
 unfold Yx at *;rw [he,hw];exact hy

theorem Yx.wpOp {i:Nat} {o:Oper} {v:Value} {a:Act} {w:World} {K:Act->World->Prop} {Q:Exit->Act->World->Prop} (hi:ops[i]? = some o) (hy:Yx P ops w0 o v a) (hw0:Ext w0 w)
 (h:∀ w',Ext w w'->K (a.put o.dst v) w'):wpOp P ops Q i K a w:=by
 unfold Go.wpOp;simp only [hi];rcases hy with ⟨hw,hv⟩ | ⟨hw,rfl⟩
 ·simp only [hw,aU];refine .inl ?_;have h3:=hv w hw0;unfold Oper.wp;generalize (execOp a.eval o).run P w=r at *;cases r with
  | ok x w' =>
   cases x <;> simp only [Oper.quietUpon] at h3 <;> simp only [Oper.upon]
   case value u =>
    obtain ⟨e1,e2⟩:=h3;rw [e1,e2];exact h _ (Ext.refl _)
   case skip =>
    obtain ⟨e1,e2⟩:=h3;rw [e1,<-e2];exact h _ (Ext.refl _)
   case enter f args =>
    obtain ⟨e1,hc⟩:=h3;rw [e1];exact hc.mono λe w'' ⟨he,hw''⟩=>by subst he;exact h _ hw''
  | halt x w'=>simp only [Oper.quietUpon] at h3
 ·simp only [hw,aB,aS];exact h _ (Ext.refl _)

structure bX7 (P:Program) (ops:Array Oper) (w0:World) (a:Act) (o:Oper) (mk:Nat->Value) (obj:Obj):Prop where
 wanted:Region.wanted o (yielded ops a.tmps)=true
 run:∀ w,Ext w0 w->(execOp a.eval o).run P w=.ok (.value (mk w.heap.size)) (w.alloc obj)

def MW (ops:Array Oper) (n:Nat) (d:Option Tmp):Bool :=
 (List.range n).all λi=>((ops[i]?).map λo=>match d with | some t=>!(o.looksAt ops).contains t | none=>true).getD true

def aZ5 (ops:Array Oper) (n:Nat) (fl:List Nat):Bool :=
 (List.range n).all λi=>fl.contains i || (List.range (n+1)).any λj=>decide (i<j) && (decide (j=n) || !fl.contains j) && Region.waitsFor .any ops j i

def cD1 (ops:Array Oper) (n:Nat) (fl:List Nat):Bool :=
 fl.all λi=>(List.range ops.size).all λj=>decide (i=j) || (decide (j<n) && !fl.contains j) || Region.waitsFor .any ops j i ||
  (match ops[i]?,ops[j]? with | some oi,some oj=>oi.apart ops oj | _,_=>true)

def ZY (ops:Array Oper) (n:Nat) (fl:List Nat):Bool :=
 Region.noSelect ops && decide (n<ops.size) && aZ5 ops n fl && Region.chainB .any ops n &&
 (List.range ops.size).all (λi=>((ops[i]?).map λo=>o.after.all λe=>!Region.binds .any e || decide (e.on<i)).getD true) &&
 (List.range n).all (λi=>(List.range n).all λj=>decide (i=j) || (iO ops i).isNone || iO ops i != iO ops j) &&
 (List.range n).all (λi=>((ops[i]?).map λo=>(o.looksAt ops).all λt=>(List.range n).all λj=>iO ops j != some t || Region.waitsFor .any ops i j).getD true) &&
 Region.seqB .any ops (ops.size - n) n ((List.range ops.size).map λk=>decide (k<n)).toArray && cD1 ops n fl

structure Fit (ops:Array Oper) (n:Nat) (fl:List Nat):Prop where
 sel:∀ (j:Nat) (o:Oper) (cs:Array SelectCase) (b:Bool),ops[j]? = some o->o.op≠.select cs b
 lt:n<ops.size
 sink:aZ5 ops n fl=true
 chain:Region.chainB .any ops n=true
 back:∀ i o,ops[i]? = some o->∀ e∈o.after,Region.binds .any e=true->e.on<i
 apart:∀ j k,j<n->k<n->j≠k->∀ d,iO ops j=some d->iO ops k≠some d
 look:∀ i o,i<n->ops[i]? = some o->∀ t∈o.looksAt ops,∀ j,j<n->iO ops j=some t->Region.waitsFor .any ops i j=true
 seq:Region.seqB .any ops (ops.size - n) n ((List.range ops.size).map λk=>decide (k<n)).toArray=true
 float:∀ i oi j oj,fl.contains i=true->ops[i]? = some oi->ops[j]? = some oj->i≠j->(n<=j\/fl.contains j=true)->Region.waitsFor .any ops j i=false->oi.apart ops oj=true

theorem Fit.of {n:Nat} {fl:List Nat} (h:ZY ops n fl=true):Fit ops n fl:=by
 simp only [ZY,aC,aA] at h;obtain ⟨⟨⟨⟨⟨⟨⟨⟨h1,h2⟩,h3⟩,h4⟩,h5⟩,h6⟩,h7⟩,h8⟩,h9⟩:=h;refine ⟨Region.noSelect_spec h1,h2,h3,h4,?_,?_,?_,h8,?_⟩
 ·intro i o ho e he hb;have hi:i<ops.size:=(Array.getElem?_eq_some_iff.1 ho).1;have:=bC.1 h5 i (bU.2 hi);simp only [ho,mU,oJ,mK] at this;have:=this e he;simpa [hb] using this
 ·intro j k hj hk hne d hd;have:=bC.1 (bC.1 h6 j (bU.2 hj)) k (bU.2 hk);simp only [hd,hne,wH,aL,Option.isNone_some,bne_iff_ne] at this;exact λe=>this e.symm
 ·intro i o hi ho t ht j hj hd;have:=bC.1 h7 i (bU.2 hi);simp only [ho,mU,oJ] at this;have:=bC.1 (bC.1 this t ht) j (bU.2 hj);simpa [hd] using this
 ·intro i oi j oj hi hoi hoj hne hj hw;have hjs:j<ops.size:=(Array.getElem?_eq_some_iff.1 hoj).1;have:=bC.1 (bC.1 h9 i (fV.1 hi)) j (bU.2 hjs)
  have hn:(decide (j<n) && !fl.contains j)=false:=by
   rcases hj with hj | hj
   ·simp [show ¬ j<n by omega]
   ·rw [hj];simp
  rw [hn,hw] at this;simpa [hne,hoi,hoj] using this

theorem yM {n:Nat} {fl:List Nat} {listed:Array Bool} (hs:aZ5 ops n fl=true) (hc:Region.chainB .any ops n=true) (inv:HeadInv .any ops n listed) :
 ∀ (d i:Nat),n - i=d->i<n->fl.contains i=false->listed.getD i true=false->∀ t,n<=t->t ∉ Region.ready .any ops listed:=by
 intro d;induction d using Nat.strongRecOn with
 | _ d ih =>
  intro i hd hi hf hun t ht hr;obtain ⟨_,ot,hot,hall⟩:=mem_ready.1 hr;have htlt:t<ops.size:=(Array.getElem?_eq_some_iff.1 hot).1
  by_cases htn:t=n
  ·subst htn;have h1:=bC.1 hs i (bU.2 hi);rw [hf,aL] at h1;obtain ⟨j,hj,hj2⟩:=iZ.1 h1;simp only [aC,aA] at hj2;obtain ⟨⟨hij,hjf⟩,hw⟩:=hj2;obtain ⟨oj,hoj,e,he,hb,hon⟩:=Region.waitsFor_spec hw;have hjle:j<=t:=by have:=bU.1 hj;omega
   by_cases hjt:j=t
   ·subst hjt;have:oj=ot:=bH (hoj.symm.trans hot);subst this;have h2:=hall e he hb;rw [hon,getD_both hun] at h2;cases h2
   ·have hjf':fl.contains j=false:=by simpa [hjt] using hjf
    cases hl:listed.getD j false with
    | true =>
     have h2:=inv.closed j oj hoj hl e he hb;rw [hon,getD_both hun] at h2;cases h2
    | false =>
     have hjs:j<listed.size:=by rw [inv.size];omega
     exact ih (t - j) (by omega) j rfl (by omega) hjf' (getD_in hjs hl) t (aW _) hr
  ·have h1:=bC.1 hc t (bU.2 htlt);simp only [aT,aA] at h1;rcases h1 with h1 | h1
   ·omega
   ·obtain ⟨o',ho',e,he,hb,hon⟩:=Region.waitsFor_spec h1;have:o'=ot:=bH (ho'.symm.trans hot);subst this;have h2:=hall e he hb;rw [hon,getD_both (inv.tail (t - 1) (by omega) (by omega))] at h2;cases h2

structure bV3 (P:Program) (ops:Array Oper) (w0:World) (fl:List Nat) (n:Nat) (a0:Act) (isB:Nat->Bool) (vA:Nat->Value) (mk:Nat->Nat->Value) (obj:Nat->Obj):Prop where
 plain:∀ i o,i<n->ops[i]? = some o->isB i=false->Yx P ops w0 o (vA i) (frm ops vA (λk=>!isB k) i a0)
 made:∀ i o,i<n->ops[i]? = some o->isB i=true->bX7 P ops w0 (frm ops vA (λk=>!isB k) i a0) o (mk i) (obj i)
 hidden:∀ i o,i<n->ops[i]? = some o->isB i=true->MW ops n o.dst=true
 floats:∀ i o,i<n->ops[i]? = some o->fl.contains i=true->isB i=false/\Yields P ops o (vA i) (frm ops vA (λk=>!isB k) i a0)

variable {n:Nat} {fl:List Nat} {a0:Act} {isB:Nat->Bool} {vA:Nat->Value} {mk:Nat->Nat->Value} {obj:Nat->Obj}

def BW (isB:Nat->Bool) (vA:Nat->Value) (mk:Nat->Nat->Value) (bs:Nat->Nat):Nat->Value:=λk=>if isB k=true then mk k (bs k) else vA k

theorem WY {d:Tmp} (h:MW ops n (some d)=true) {i:Nat} {o:Oper} (hi:i<n) (ho:ops[i]? = some o):d ∉ o.looksAt ops:=by
 have:=bC.1 h i (bU.2 hi);simpa [ho] using this

theorem QF (F:Fit ops n fl) (H:bV3 P ops w0 fl n a0 isB vA mk obj) (bs:Nat->Nat) (S:Nat->Bool) {i:Nat} {o:Oper} (hi:i<n) (ho:ops[i]? = some o)
 (hS:∀ j,j<n->Region.waitsFor .any ops i j=true->S j=true) (t:Tmp) (ht:t∈o.looksAt ops) :
 (frm ops (BW isB vA mk bs) S n a0).eval (.tmp t)=(frm ops vA (λk=>!isB k) i a0).eval (.tmp t):=by
 by_cases hw:∃ j,j<n/\iO ops j=some t
 ·obtain ⟨j,hj,hd⟩:=hw;have hwait:=F.look i o hi ho t ht j hj hd
  have hji:j<i:=by
   obtain ⟨oi,hoi,e,he,hb,hon⟩:=Region.waitsFor_spec hwait;have:oi=o:=bH (hoi.symm.trans ho);subst this;have:=F.back i oi ho e he hb;omega
  have hB:isB j=false:=by
   cases hb:isB j with
   | false=>rfl
   | true =>
    have hjs:j<ops.size:=by have:=F.lt;omega
    have hoj:ops[j]? = some ops[j]:=Array.getElem?_eq_getElem hjs;have h1:=H.hidden j _ hj hoj hb;have h2:ops[j].dst=some t:=by simpa [iO,hoj] using hd
    rw [h2] at h1;exact absurd ht (WY h1 hi ho)
  rw [FN _ S a0 t j (hS j hj hwait) hd n hj (λk hk hne e=>F.apart k j hk hj hne t e hd),
   FN _ _ a0 t j (by simp [hB]) hd i hji (λk hk hne e=>F.apart k j (by omega) hj hne t e hd)]
  simp [BW,hB]
 ·rw [yS _ S a0 t n (λk hk _ hd=>hw ⟨k,hk,hd⟩),yS _ _ a0 t i (λk hk _ hd=>hw ⟨k,by omega,hd⟩)]

theorem vV {a a':Act} (o:Oper) (h:∀ t∈o.looksAt ops,a.eval (.tmp t)=a'.eval (.tmp t)):Region.wanted o (yielded ops a.tmps)=Region.wanted o (yielded ops a'.tmps):=by
 unfold Region.wanted;cases hg:o.guard with
 | none=>rfl
 | some gw =>
  obtain ⟨g,want⟩:=gw
  have hy:yielded ops a.tmps g=yielded ops a'.tmps g:=by
   unfold yielded;cases ht:(ops[g]?).bind (·.dst) with
   | none=>rfl
   | some t =>
    have:=h t (by simp [Oper.looksAt,hg,ht]);simp only [Act.eval,Al_Array_getD_eq_getD_getElem?] at this;simp only [iY]
    revert this
    generalize a.tmps[t]? = x;generalize a'.tmps[t]? = y;intro this;cases x with
    | none=>cases y with
     | none=>rfl
     | some v=>simp at this;subst this;rfl
    | some u=>cases y with
     | none=>simp at this;subst this;rfl
     | some v=>simp at this;subst this;rfl
  simp only [hy]

theorem zL {a a':Act} (o:Oper) (hs:∀ cs b,o.op≠.select cs b) (h:∀ t∈o.looksAt ops,a.eval (.tmp t)=a'.eval (.tmp t)):execOp a.eval o=execOp a'.eval o :=
 execOp_congr o hs λx hx=>by
  cases x with
  | tmp t=>exact h t (oV _ (qI.2 ⟨.tmp t,by simpa using hx,Z⟩))
  | _=>rfl

def cnt (S:Nat->Bool):Nat->Nat
 | 0=>0
 | k+1=>cnt S k+(if S k=true then 0 else 1)
theorem RH (S S':Nat->Bool):∀ m,(∀ k,k<m->S k=S' k)->cnt S m=cnt S' m
 | 0,_=>rfl
 | k+1,h=>by unfold cnt;rw [RH S S' k (λj hj=>h j (by omega)),h k (by omega)]
theorem xW (S S':Nat->Bool) (i:Nat) (hi':S' i=true) (hi:S i=false) (hS:∀ k,k≠i->S' k=S k):∀ m,i<m->cnt S' m+1=cnt S m
 | 0,h=>absurd h (by omega)
 | k+1,h=>by
  unfold cnt
  by_cases hk:k=i
  ·subst hk;rw [RH S' S k (λj hj=>hS j (by omega)),hi',hi];simp
  ·have:=xW S S' i hi' hi hS k (by omega);rw [hS k hk];omega
theorem rC (S:Nat->Bool):∀ m,cnt S m=0->∀ k,k<m->S k=true
 | 0,_,k,hk=>absurd hk (by omega)
 | m+1,h,k,hk=>by
  unfold cnt at h
  by_cases hm:S m=true
  ·by_cases e:k=m
   ·subst e;exact hm
   ·exact rC S m (by omega) k (by omega)
  ·rw [aD hm] at h;omega
theorem DN (S:Nat->Bool):∀ m,0<cnt S m->∃ k,k<m/\S k=false/\∀ j,j<k->S j=true
 | 0,h=>absurd h (by simp [cnt])
 | m+1,h=>by
  by_cases hc:0<cnt S m
  ·obtain ⟨k,a,b,c⟩:=DN S m hc;exact ⟨k,by omega,b,c⟩
  ·unfold cnt at h
   by_cases hm:S m=true
   ·rw [aM hm] at h;omega
   ·exact ⟨m,by omega,by simpa using hm,rC S m (by omega)⟩

abbrev st (listed:Array Bool):Nat->Bool:=λk=>listed.getD k true

structure Inv (P:Program) (ops:Array Oper) (w0:World) (n:Nat) (a0:Act) (isB:Nat->Bool) (vA:Nat->Value) (mk:Nat->Nat->Value) (obj:Nat->Obj) (listed:Array Bool) (a:Act) (w:World) (bs:Nat->Nat):Prop where
 head:HeadInv .any ops n listed
 frame:a=frm ops (BW isB vA mk bs) (st listed) n a0
 world:Ext w0 w
 made:∀ i,i<n->isB i=true->st listed i=true->w0.heap.size<=bs i/\w.heap[bs i]? = some (obj i)
 apart:∀ i j,i<n->j<n->isB i=true->isB j=true->st listed i=true->st listed j=true->i≠j->bs i≠bs j

theorem gS {listed:Array Bool} {i k:Nat} (hk:k≠i):st (listed.setIfInBounds i true) k=st listed k:=getD_set_ne true (rN hk)
theorem eR {listed:Array Bool} {i:Nat}:st (listed.setIfInBounds i true) i=true:=by
 simp only [st];rcases iA i listed.size with h | h
 ·simp [h]
 ·simp [h]

theorem DP {w w':World} (h:Ext w w') {b:Nat} {o:Obj} (hb:w.heap[b]? = some o):w'.heap[b]? = some o:=by
 have hlt:b<w.heap.size:=by
  rcases iA b w.heap.size with h' | h'
  ·exact h'
  ·simp [h'] at hb
 rw [Below.block h b hlt];exact hb
theorem pU {w:World} {b:Nat} {o:Obj} (hb:w.heap[b]? = some o):b<w.heap.size:=by
 rcases iA b w.heap.size with h' | h'
 ·exact h'
 ·simp [h'] at hb

theorem cM8 (F:Fit ops n fl) (H:bV3 P ops w0 fl n a0 isB vA mk obj) {Q:Exit->Act->World->Prop} (hQ:∀ c (a:Act) d v w,Q (.panic c) (a.put d v) w->Q (.panic c) a w)
 (hend:∀ (w:World) (bs:Nat->Nat),Ext w0 w->(∀ i,i<n->isB i=true->w0.heap.size<=bs i/\w.heap[bs i]? = some (obj i)) ->
  (∀ i j,i<n->j<n->isB i=true->isB j=true->i≠j->bs i≠bs j)->wpList P ops Q (ops.toList.drop n) (frm ops (BW isB vA mk bs) (λ_=>true) n a0) w) :
 ∀ (m:Nat) (listed:Array Bool) (a:Act) (w:World) (bs:Nat->Nat),cnt (st listed) n=m->Inv P ops w0 n a0 isB vA mk obj listed a w bs ->
  wpAny P .any ops Q (m+(ops.size - n)) listed a w:=by
 intro m;induction m with
 | zero =>
  intro listed a w bs hm I;have hall:=rC _ n hm
  have hcan:listed=((List.range ops.size).map λk=>decide (k<n)).toArray:=by
   apply wZ
   ·simp [I.head.size]
   ·intro k h1 h2;have hk:k<ops.size:=by rw [<-I.head.size];exact h1
    simp only [oW,sG,qJ]
    by_cases hkn:k<n
    ·have:=hall k hkn;simp [st,h1] at this;simp [this,hkn]
    ·have:=I.head.tail k (by omega) hk;simp [h1] at this;simp [this,hkn]
  rw [dT];have hlen:(ops.toList.drop n).length=ops.size - n:=by simp
  rw [<-hlen];refine wpAny_of_seq (ops.toList.drop n) n listed a w (λj=>by simp [List.getElem?_drop]) (by rw [hlen,hcan];exact F.seq) ?_
  have hfr:a=frm ops (BW isB vA mk bs) (λ_=>true) n a0:=by
   rw [I.frame];exact jC _ _ _ _ a0 n (λk hk=>⟨hall k hk,λ_=>rfl⟩)
  rw [hfr];exact hend w bs I.world (λi hi hb=>I.made i hi hb (hall i hi)) (λi j hi hj hbi hbj hne=>I.apart i j hi hj hbi hbj (hall i hi) (hall j hj) hne)
 | succ m ih =>
  intro listed a w bs hm I;obtain ⟨k0,hk0,hun0,hbelow⟩:=DN (st listed) n (by omega);have hk0s:k0<ops.size:=by have:=F.lt;omega
  have hready0:k0∈Region.ready .any ops listed:=by
   refine mem_ready.2 ⟨hun0,ops[k0],Array.getElem?_eq_getElem hk0s,λe he hb=>?_⟩;have hlt:=F.back k0 _ (Array.getElem?_eq_getElem hk0s) e he hb;have:=hbelow e.on hlt;have hsz:e.on<listed.size:=by rw [I.head.size];omega
   simpa [st,hsz] using this
  rw [show m+1+(ops.size - n)=(m+(ops.size - n))+1 by omega]
  by_cases hmust:∀ k,k<n->fl.contains k=false->st listed k=true
  ·-- only what floats is left: it is taken first
   have hfl:fl.contains k0=true:=by
    cases h:fl.contains k0 with
    | true=>rfl
    | false=>have:=hmust k0 hk0 h;rw [this] at hun0;cases hun0
   have ho:=Array.getElem?_eq_getElem hk0s;obtain ⟨hnB,hyl⟩:=H.floats k0 _ hk0 ho hfl
   have hS:∀ j,j<n->Region.waitsFor .any ops k0 j=true->st listed j=true:=by
    intro j hj hw;obtain ⟨oi,hoi,e,he,hb,hon⟩:=Region.waitsFor_spec hw;have:=F.back k0 oi hoi e he hb;exact hbelow j (by omega)
   have hev:=λt ht=>QF F H bs (st listed) hk0 ho hS t ht;have hd:iO ops k0=ops[k0].dst:=by simp [iO,hk0s]
   have hcnt:cnt (st (listed.setIfInBounds k0 true)) n=m:=by
    have:=xW (st listed) (st (listed.setIfInBounds k0 true)) k0 eR hun0 (λk hk=>gS hk) n hk0;omega
   have hy:Yields P ops ops[k0] (vA k0) a:=by
    have e1:execOp a.eval ops[k0]=execOp (frm ops vA (λk=>!isB k) k0 a0).eval ops[k0]:=by rw [I.frame];exact zL _ (λcs b=>F.sel k0 _ cs b ho) hev
    have e2:Region.wanted ops[k0] (yielded ops a.tmps)=Region.wanted ops[k0] (yielded ops (frm ops vA (λk=>!isB k) k0 a0).tmps):=by rw [I.frame];exact vV _ hev
    unfold Yields at hyl|-;rw [e1,e2];exact hyl
   refine wpAny_first ho F.sel (λc a w h=>hQ c a _ _ w h) _ listed a w ?_ hready0 hy ?_
   ·intro j oj hoj hji hjun hno
    have hw:Region.waitsFor .any ops j k0=false:=by
     cases hw:Region.waitsFor .any ops j k0 with
     | false=>rfl
     | true =>
      obtain ⟨o',ho',e,he,hb,hon⟩:=Region.waitsFor_spec hw;have:o'=oj:=bH (ho'.symm.trans hoj);subst this;exact absurd hon (hno e he hb)
    refine F.float k0 _ j oj hfl ho hoj (rN hji) ?_ hw;rcases iA j n with hjn | hjn
    ·right
     cases h:fl.contains j with
     | true=>rfl
     | false=>have:=hmust j hjn h;rw [show st listed j=false from hjun] at this;cases this
    ·exact .inl hjn
   ·refine ih _ _ w bs hcnt ⟨I.head.set hready0 hk0,?_,I.world,?_,?_⟩
    ·rw [I.frame,pS (BW isB vA mk bs) (st listed) (st (listed.setIfInBounds k0 true)) a0 k0 eR hun0 (λk hk=>gS hk) n hk0 F.apart,hd];simp [BW,hnB]
    ·intro j hj hbj hsj;have hji:j≠k0:=λe=>by subst e;rw [hnB] at hbj;cases hbj
     rw [gS hji] at hsj;exact I.made j hj hbj hsj
    ·intro j k hj hk hbj hbk hsj hsk hne;have hji:j≠k0:=λe=>by subst e;rw [hnB] at hbj;cases hbj
     have hki:k≠k0:=λe=>by subst e;rw [hnB] at hbk;cases hbk
     rw [gS hji] at hsj;rw [gS hki] at hsk;exact I.apart j k hj hk hbj hbk hsj hsk hne
  have hmust':∃ k,k<n/\fl.contains k=false/\st listed k=false:=by
   apply Classical.byContradiction;intro hno;refine hmust λk hk hf=>?_;cases hs:st listed k with
   | true=>rfl
   | false=>exact absurd ⟨k,hk,hf,hs⟩ hno
  obtain ⟨k1,hk1,hf1,hun1⟩:=hmust';refine ⟨λh0=>(by rw [h0] at hready0;cases hready0),λi hi=>?_⟩
  have hin:i<n:=by
   rcases iA i n with h | h
   ·exact h
   ·exact absurd hi (yM F.sink F.chain I.head _ k1 rfl hk1 hf1 hun1 i h)
  obtain ⟨hun,o,ho,hall⟩:=mem_ready.1 hi
  have hS:∀ j,j<n->Region.waitsFor .any ops i j=true->st listed j=true:=by
   intro j hj hw;obtain ⟨oi,hoi,e,he,hb,hon⟩:=Region.waitsFor_spec hw;have:oi=o:=bH (hoi.symm.trans ho);subst this;have h1:=hall e he hb;rw [hon] at h1;have hsz:j<listed.size:=by rw [I.head.size];have:=F.lt;omega
   simp [hsz] at h1;simp [st,hsz,h1]
  have hev:=λt ht=>QF F H bs (st listed) hin ho hS t ht;have hd:iO ops i=o.dst:=by simp [iO,ho]
  have hhead:=I.head.set hi hin
  have hcnt:cnt (st (listed.setIfInBounds i true)) n=m:=by
   have:=xW (st listed) (st (listed.setIfInBounds i true)) i eR hun (λk hk=>gS hk) n hin;omega
  cases hB:isB i with
  | false =>
   have hy:Yx P ops w0 o (vA i) a:=by
    refine (H.plain i o hin ho hB).of_same ?_ ?_
    ·rw [I.frame];exact zL o (λcs b=>F.sel i o cs b ho) hev
    ·rw [I.frame];exact vV o hev
   refine hy.wpOp ho I.world (λw' hx=>ih _ _ w' bs hcnt ⟨hhead,?_,I.world.trans hx,?_,?_⟩)
   ·rw [I.frame,pS (BW isB vA mk bs) (st listed) (st (listed.setIfInBounds i true)) a0 i eR hun (λk hk=>gS hk) n hin F.apart,hd];simp [BW,hB]
   ·intro j hj hbj hsj;have hji:j≠i:=λe=>by subst e;rw [hB] at hbj;cases hbj
    rw [gS hji] at hsj;obtain ⟨h1,h2⟩:=I.made j hj hbj hsj;exact ⟨h1,DP hx h2⟩
   ·intro j k hj hk hbj hbk hsj hsk hne;have hji:j≠i:=λe=>by subst e;rw [hB] at hbj;cases hbj
    have hki:k≠i:=λe=>by subst e;rw [hB] at hbk;cases hbk
    rw [gS hji] at hsj;rw [gS hki] at hsk;exact I.apart j k hj hk hbj hbk hsj hsk hne
  | true =>
   have hm1:=H.made i o hin ho hB;have hex:execOp a.eval o=execOp (frm ops vA (λk=>!isB k) i a0).eval o:=by rw [I.frame];exact zL o (λcs b=>F.sel i o cs b ho) hev
   have hwt:Region.wanted o (yielded ops a.tmps)=true:=by
    have:=hm1.wanted;rw [I.frame,vV o hev];exact this
   unfold wpOp;simp only [ho,hwt,aU];refine .inl ?_;unfold Oper.wp;rw [hex,hm1.run w I.world,Oper.upon_value];have hx:Ext w (w.alloc (obj i)):=(Ext.refl w).alloc _;have hother:∀ j,j≠i->(if j=i then w.heap.size else bs j)=bs j:=λj h=>by rw [aD h]
   refine ih _ _ _ (λj=>if j=i then w.heap.size else bs j) hcnt ⟨hhead,?_,I.world.trans hx,?_,?_⟩
   ·rw [I.frame,pS (BW isB vA mk (λj=>if j=i then w.heap.size else bs j)) (st listed) (st (listed.setIfInBounds i true)) a0 i eR hun (λk hk=>gS hk) n hin F.apart,hd]
    have e1:frm ops (BW isB vA mk bs) (st listed) n a0=frm ops (BW isB vA mk (λj=>if j=i then w.heap.size else bs j)) (st listed) n a0 :=
     jC _ _ _ _ a0 n (λk _=>⟨Z,λhs=>by
      have hki:k≠i:=λe=>by subst e;rw [show st listed k=false from hun] at hs;cases hs
      simp [BW,hki]⟩)
    rw [e1];simp [BW,hB]
   ·intro j hj hbj hsj
    by_cases hji:j=i
    ·subst hji;simp only [aU];exact ⟨I.world.size,heap_alloc_new w _⟩
    ·rw [gS hji] at hsj;obtain ⟨h1,h2⟩:=I.made j hj hbj hsj;rw [hother j hji];exact ⟨h1,DP hx h2⟩
   ·intro j k hj hk hbj hbk hsj hsk hne
    by_cases hji:j=i
    ·subst hji;have hkj:k≠j:=rN hne;rw [gS hkj] at hsk;have:=pU (I.made k hk hbk hsk).2;rw [hother k hkj,aM rfl];omega
    ·rw [gS hji] at hsj
     by_cases hki:k=i
     ·subst hki;have:=pU (I.made j hj hbj hsj).2;rw [hother j hji,aM rfl];omega
     ·rw [gS hki] at hsk;rw [hother j hji,hother k hki];exact I.apart j k hj hk hbj hbk hsj hsk hne

/-! ### The walk of the first n operations, and what it gives the game -/

abbrev KR:=Option Tmp × (Nat->Value) × Obj

def VJ (P:Program) (ops:Array Oper) (w0:World) (n:Nat) (fl:List Nat) (Q:List KR->Act->Prop):Nat->List Oper->List KR->Act->Prop
 | _,[],bl,a=>Q bl a
 | k,o::rest,bl,a=>(∃ v,Yx P ops w0 o v a/\(fl.contains k=true->Yields P ops o v a)/\VJ P ops w0 n fl Q (k+1) rest bl (a.put o.dst v)) \/
  (∃ mk obj,bX7 P ops w0 a o mk obj/\MW ops n o.dst=true/\fl.contains k=false/\VJ P ops w0 n fl Q (k+1) rest (bl++[(o.dst,mk,obj)]) a)

def CH (a:Act):List KR->List Nat->Act
 | x::xs,b::bs=>CH (a.put x.1 (x.2.1 b)) xs bs
 | _,_=>a

def uY (ops:Array Oper) (isB:Nat->Bool) (mk:Nat->Nat->Value) (obj:Nat->Obj):Nat->List KR
 | 0=>[]
 | k+1=>if isB k=true then uY ops isB mk obj k++[(iO ops k,mk k,obj k)] else uY ops isB mk obj k
def oO (isB:Nat->Bool) (bs:Nat->Nat):Nat->List Nat
 | 0=>[]
 | k+1=>if isB k=true then oO isB bs k++[bs k] else oO isB bs k

theorem RK (k:Nat):uY ops isB mk obj (k+1)=if isB k=true then uY ops isB mk obj k++[(iO ops k,mk k,obj k)] else uY ops isB mk obj k:=rfl
theorem XO (val:Nat->Value) (S:Nat->Bool) (k:Nat) (a:Act):frm ops val S (k+1) a=if S k=true then (frm ops val S k a).put (iO ops k) (val k) else frm ops val S k a:=rfl

theorem HQ (bs:Nat->Nat):∀ k,(oO isB bs k).length=(uY ops isB mk obj k).length
 | 0=>rfl
 | k+1=>by unfold oO uY;split <;> simp [HQ bs k]

theorem MM:∀ (bl:List KR) (ns:List Nat) (a:Act) (x:KR) (b:Nat),ns.length=bl.length->CH a (bl++[x]) (ns++[b])=(CH a bl ns).put x.1 (x.2.1 b)
 | [],[],_,_,_,_=>rfl
 | [],_::_,_,_,_,h=>by simp at h
 | _::_,[],_,_,_,h=>by simp at h
 | y::bl,c::ns,a,x,b,h=>by
  simp only [bL,CH];exact MM bl ns _ x b (by simpa using h)

theorem QI:∀ (bl:List KR) (ns:List Nat) (a:Act) (d:Option Tmp) (v:Value),(∀ x∈bl,∀ t,d=some t->x.1≠some t)->CH (a.put d v) bl ns=(CH a bl ns).put d v
 | [],_,_,_,_,_=>by simp [CH]
 | _::_,[],_,_,_,_=>by simp [CH]
 | y::bl,c::ns,a,d,v,h=>by
  simp only [CH];rw [Act.put_comm a v (y.2.1 c) (h y (by simp))];exact QI bl ns _ d v (λx hx=>h x (by simp [hx]))

theorem aC4:∀ k x,x∈uY ops isB mk obj k->∃ j,j<k/\isB j=true/\x=(iO ops j,mk j,obj j)
 | 0,x,h=>by simp [uY] at h
 | k+1,x,h=>by
  unfold uY at h
  split at h
  ·rename_i hb;rcases cK.1 h with h | h
   ·obtain ⟨j,a,b,c⟩:=aC4 k x h;exact ⟨j,by omega,b,c⟩
   ·exact ⟨k,by omega,hb,by simpa using h⟩
  ·obtain ⟨j,a,b,c⟩:=aC4 k x h;exact ⟨j,by omega,b,c⟩

theorem aJ3 (F:Fit ops n fl) (bs:Nat->Nat):∀ k,k<=n->frm ops (BW isB vA mk bs) (λ_=>true) k a0=CH (frm ops vA (λj=>!isB j) k a0) (uY ops isB mk obj k) (oO isB bs k)
 | 0,_=>rfl
 | k+1,hk=>by
  have ih:=aJ3 F bs k (by omega);cases hb:isB k with
  | true =>
   simp only [frm,uY,oO,hb,aU];simp only [vJ,aB,aS];rw [MM _ _ _ _ _ (HQ bs k),<-ih];simp [BW,hb]
  | false =>
   simp only [frm,uY,oO,hb,aU,Bool.not_false,aB,aS];rw [QI,<-ih]
   ·simp [BW,hb]
   ·intro x hx t ht;obtain ⟨j,hj,_,rfl⟩:=aC4 k x hx;intro e;exact F.apart j k (by omega) (by omega) (by omega) t e ht

theorem TV (bs:Nat->Nat):∀ (k j b:Nat) (x:KR),(oO isB bs k)[j]? = some b->(uY ops isB mk obj k)[j]? = some x->∃ i,i<k/\isB i=true/\b=bs i/\x=(iO ops i,mk i,obj i)
 | 0,j,b,x,h,_=>by simp [oO] at h
 | k+1,j,b,x,h,hx=>by
  unfold oO at h;unfold uY at hx;have hl:=HQ (ops:=ops) (mk:=mk) (obj:=obj) (isB:=isB) bs k
  split at h
  ·rename_i hb;rw [aM hb] at hx
   by_cases hj:j<(oO isB bs k).length
   ·rw [List.getElem?_append_left hj] at h;rw [List.getElem?_append_left (by omega)] at hx;obtain ⟨i,a,c⟩:=TV bs k j b x h hx;exact ⟨i,by omega,c⟩
   ·rw [List.getElem?_append_right (by omega)] at h;rw [List.getElem?_append_right (by omega)] at hx;rw [<-hl] at hx
    have hj0:j - (oO isB bs k).length=0:=by
     rcases Nat.eq_zero_or_pos (j - (oO isB bs k).length) with h' | h'
     ·exact h'
     ·rw [List.getElem?_eq_none (by simp;omega)] at h;cases h
    rw [hj0] at h hx;simp at h hx;exact ⟨k,by omega,hb,h.symm,hx.symm⟩
  ·rename_i hb;rw [aD hb] at hx;obtain ⟨i,a,c⟩:=TV bs k j b x h hx;exact ⟨i,by omega,c⟩

theorem MT (bs:Nat->Nat):∀ k b,b∈oO isB bs k->∃ i,i<k/\isB i=true/\b=bs i
 | 0,b,h=>by simp [oO] at h
 | k+1,b,h=>by
  unfold oO at h
  split at h
  ·rename_i hb;rcases cK.1 h with h | h
   ·obtain ⟨i,a,c⟩:=MT bs k b h;exact ⟨i,by omega,c⟩
   ·exact ⟨k,by omega,hb,by simpa using h⟩
  ·obtain ⟨i,a,c⟩:=MT bs k b h;exact ⟨i,by omega,c⟩

theorem MU (bs:Nat->Nat):∀ k,(∀ i j,i<k->j<k->isB i=true->isB j=true->i≠j->bs i≠bs j)->(oO isB bs k).Pairwise (·≠·)
 | 0,_=>by simp [oO]
 | k+1,h=>by
  have ih:=MU bs k (λi j hi hj=>h i j (by omega) (by omega));unfold oO
  split
  ·rename_i hb;rw [jD];refine ⟨ih,by simp,λx hx y hy=>?_⟩;obtain ⟨i,hi,hbi,rfl⟩:=MT bs k x hx;have:y=bs k:=by simpa using hy
   subst this;exact h i k (by omega) (by omega) hbi hb (by omega)
  ·exact ih

def Fin (P:Program) (ops:Array Oper) (w0:World) (n:Nat) (Q:Exit->Act->World->Prop) (bl:List KR) (a:Act):Prop :=
 ∀ (w:World) (ns:List Nat),ns.length=bl.length->Ext w0 w->ns.Pairwise (·≠·)->(∀ (j b:Nat) (x:KR),ns[j]? = some b->bl[j]? = some x->w0.heap.size<=b/\w.heap[b]? = some x.2.2) ->
  wpList P ops Q (ops.toList.drop n) (CH a bl ns) w

theorem LP (F:Fit ops n fl) {Q:Exit->Act->World->Prop} (hQ:∀ c (a:Act) d v w,Q (.panic c) (a.put d v) w->Q (.panic c) a w) (a0:Act):∀ (l:List Oper) (k:Nat) (isB:Nat->Bool) (vA:Nat->Value) (mk:Nat->Nat->Value) (obj:Nat->Obj),
 (∀ j,j<l.length->l[j]? = ops[k+j]?)->k+l.length=n->bV3 P ops w0 fl k a0 isB vA mk obj->(∀ i o,i<k->ops[i]? = some o->isB i=true->MW ops n o.dst=true) ->
 VJ P ops w0 n fl (Fin P ops w0 n Q) k l (uY ops isB mk obj k) (frm ops vA (λj=>!isB j) k a0) ->
 ∀ (w:World),Ext w0 w->wpAny P .any ops Q ops.size (Array.replicate ops.size false) a0 w
 | [],k,isB,vA,mk,obj,_,hk,H,hno,h,w,hw=>by
  have hkn:k=n:=by simpa using hk
  subst hkn;have H':bV3 P ops w0 fl k a0 isB vA mk obj:=⟨H.plain,H.made,hno,H.floats⟩
  have hc:cnt (st (Array.replicate ops.size false)) k=k:=by
   have:∀ m,m<=k->cnt (st (Array.replicate ops.size false)) m=m:=by
    intro m;induction m with
    | zero=>intro _;rfl
    | succ m ih =>
     intro hm;have hms:m<ops.size:=by have:=F.lt;omega
     unfold cnt;rw [ih (by omega)];simp [st,hms]
   exact this k (aW _)
  have:=cM8 F H' (Q:=Q) hQ (λw bs hw hm ha=>by
   rw [aJ3 (mk:=mk) (obj:=obj) F bs k (aW _)];have h':Fin P ops w0 k Q (uY ops isB mk obj k) (frm ops vA (λj=>!isB j) k a0):=h;refine h' w (oO isB bs k) (HQ bs k) hw (MU bs k ha) ?_;intro j b x hb hx;obtain ⟨i,hi,hbi,rfl,rfl⟩:=TV bs k j b x hb hx;exact hm i hi hbi) k (Array.replicate ops.size false) a0 w (λ_=>0) hc
   ⟨⟨by simp,λj oj _ hl=>(by rw [getD_replicate_false] at hl;cases hl),λt _ ht=>getD_in (by simpa using ht) (getD_replicate_false _ _)⟩,
    by
     have:∀ m,m<=k->frm ops (BW isB vA mk λ_=>0) (st (Array.replicate ops.size false)) m a0=a0:=by
      intro m;induction m with
      | zero=>intro _;rfl
      | succ m ih =>
       intro hm;have hms:m<ops.size:=by have:=F.lt;omega
       unfold frm;rw [ih (by omega)];simp [st,hms]
     exact (this k (aW _)).symm,
    hw,λi hi _ hs=>by
     have hms:i<ops.size:=by have:=F.lt;omega
     simp [st,hms] at hs,λi j hi _ _ _ hs _ _=>by
     have hms:i<ops.size:=by have:=F.lt;omega
     simp [st,hms] at hs⟩
  rw [show k+(ops.size - k)=ops.size by have:=F.lt;omega] at this;exact this
 | o::l,k,isB,vA,mk,obj,hl,hk,H,hno,h,w,hw=>by
  have ho:ops[k]? = some o:=by have:=hl 0 (by simp);simpa using this.symm
  have hdst:iO ops k=o.dst:=by simp [iO,ho]
  have hl':∀ j,j<l.length->l[j]? = ops[k+1+j]? := λj hj=>by
   have:=hl (j+1) (by simpa using hj);simpa [dQ,Nat.add_comm 1 j] using this
  have hk':k+1+l.length=n:=by simp at hk;omega
  rcases h with ⟨v,hy,hyf,hrest⟩ | ⟨mk1,obj1,hm,hnl,hnf,hrest⟩
  ·-- a value
   let isB':Nat->Bool:=λj=>if j=k then false else isB j
   let vA':Nat->Value:=λj=>if j=k then v else vA j
   have eB:∀ j,j<k->isB' j=isB j:=λj hj=>by simp [isB',show j≠k by omega]
   have eV:∀ j,j<k->vA' j=vA j:=λj hj=>by simp [vA',show j≠k by omega]
   have ef:∀ i,i<=k->frm ops vA' (λj=>!isB' j) i a0=frm ops vA (λj=>!isB j) i a0:=λi hi =>
    jC _ _ _ _ a0 i (λj hj=>⟨by simp only [eB j (by omega)],λ_=>eV j (by omega)⟩)
   have eb:∀ i,i<=k->uY ops isB' mk obj i=uY ops isB mk obj i:=by
    intro i;induction i with
    | zero=>intro _;rfl
    | succ i ih=>intro hi;unfold uY;rw [ih (by omega),eB i (by omega)]
   refine LP F hQ a0 l (k+1) isB' vA' mk obj hl' hk' ⟨?_,?_,?_,?_⟩ ?_ ?_ w hw
   ·intro i oi hi hoi hb
    by_cases hik:i=k
    ·subst hik;have:oi=o:=bH (hoi.symm.trans ho);subst this;rw [ef i (aW _)];simpa [vA'] using hy
    ·have hi':i<k:=by omega
     rw [ef i (by omega),eV i hi'];exact H.plain i oi hi' hoi (by rw [<-eB i hi'];exact hb)
   ·intro i oi hi hoi hb;have hik:i≠k:=λe=>by subst e;simp [isB'] at hb
    have hi':i<k:=by omega
    rw [ef i (by omega)];exact H.made i oi hi' hoi (by rw [<-eB i hi'];exact hb)
   ·intro i oi hi hoi hb;have hik:i≠k:=λe=>by subst e;simp [isB'] at hb
    have hi':i<k:=by omega
    have:=hno i oi hi' hoi (by rw [<-eB i hi'];exact hb);refine bC.2 λq hq=>bC.1 this q (bU.2 ?_);have:=bU.1 hq;omega
   ·intro i oi hi hoi hf
    by_cases hik:i=k
    ·subst hik;have:oi=o:=bH (hoi.symm.trans ho);subst this;refine ⟨by simp [isB'],?_⟩;rw [ef i (aW _)];simpa [vA'] using hyf hf
    ·have hi':i<k:=by omega
     obtain ⟨f1,f2⟩:=H.floats i oi hi' hoi hf;refine ⟨by rw [eB i hi'];exact f1,?_⟩;rw [ef i (by omega),eV i hi'];exact f2
   ·intro i oi hi hoi hb;have hik:i≠k:=λe=>by subst e;simp [isB'] at hb
    have hi':i<k:=by omega
    exact hno i oi hi' hoi (by rw [<-eB i hi'];exact hb)
   ·have e1:uY ops isB' mk obj (k+1)=uY ops isB mk obj k:=by
     rw [RK,eb k (aW _)];simp [isB']
    have e2:frm ops vA' (λj=>!isB' j) (k+1) a0=(frm ops vA (λj=>!isB j) k a0).put o.dst v:=by
     rw [XO,ef k (aW _),hdst];simp [isB',vA']
    rw [e1,e2];exact hrest
  ·-- a block
   let isB':Nat->Bool:=λj=>if j=k then true else isB j
   let mk':Nat->Nat->Value:=λj=>if j=k then mk1 else mk j
   let obj':Nat->Obj:=λj=>if j=k then obj1 else obj j
   have eB:∀ j,j<k->isB' j=isB j:=λj hj=>by simp [isB',show j≠k by omega]
   have eM:∀ j,j<k->mk' j=mk j:=λj hj=>by simp [mk',show j≠k by omega]
   have eO:∀ j,j<k->obj' j=obj j:=λj hj=>by simp [obj',show j≠k by omega]
   have ef:∀ i,i<=k->frm ops vA (λj=>!isB' j) i a0=frm ops vA (λj=>!isB j) i a0:=λi hi =>
    jC _ _ _ _ a0 i (λj hj=>⟨by simp only [eB j (by omega)],λ_=>rfl⟩)
   have eb:∀ i,i<=k->uY ops isB' mk' obj' i=uY ops isB mk obj i:=by
    intro i;induction i with
    | zero=>intro _;rfl
    | succ i ih=>intro hi;unfold uY;rw [ih (by omega),eB i (by omega),eM i (by omega),eO i (by omega)]
   refine LP F hQ a0 l (k+1) isB' vA mk' obj' hl' hk' ⟨?_,?_,?_,?_⟩ ?_ ?_ w hw
   ·intro i oi hi hoi hb;have hik:i≠k:=λe=>by subst e;simp [isB'] at hb
    have hi':i<k:=by omega
    rw [ef i (by omega)];exact H.plain i oi hi' hoi (by rw [<-eB i hi'];exact hb)
   ·intro i oi hi hoi hb
    by_cases hik:i=k
    ·subst hik;have:oi=o:=bH (hoi.symm.trans ho);subst this;rw [ef i (aW _)];simpa [mk',obj'] using hm
    ·have hi':i<k:=by omega
     rw [ef i (by omega),eM i hi',eO i hi'];exact H.made i oi hi' hoi (by rw [<-eB i hi'];exact hb)
   ·intro i oi hi hoi hb
    have hall:MW ops n oi.dst=true:=by
     by_cases hik:i=k
     ·subst hik;have:oi=o:=bH (hoi.symm.trans ho);subst this;exact hnl
     ·have hi':i<k:=by omega
      exact hno i oi hi' hoi (by rw [<-eB i hi'];exact hb)
    refine bC.2 λq hq=>bC.1 hall q (bU.2 ?_);have:=bU.1 hq;omega
   ·intro i oi hi hoi hf;have hik:i≠k:=λe=>by subst e;rw [hnf] at hf;cases hf
    have hi':i<k:=by omega
    obtain ⟨f1,f2⟩:=H.floats i oi hi' hoi hf;refine ⟨by rw [eB i hi'];exact f1,?_⟩;rw [ef i (by omega)];exact f2
   ·intro i oi hi hoi hb
    by_cases hik:i=k
    ·subst hik;have:oi=o:=bH (hoi.symm.trans ho);subst this;exact hnl
    ·have hi':i<k:=by omega
     exact hno i oi hi' hoi (by rw [<-eB i hi'];exact hb)
   ·have e1:uY ops isB' mk' obj' (k+1)=uY ops isB mk obj k++[(o.dst,mk1,obj1)]:=by
     rw [RK,eb k (aW _),hdst];simp [isB',mk',obj']
    have e2:frm ops vA (λj=>!isB' j) (k+1) a0=frm ops vA (λj=>!isB j) k a0:=by
     rw [XO,ef k (aW _)];simp [isB']
    rw [e1,e2];exact hrest

theorem region {id:Nat} {Q:Exit->Act->World->Prop} {a:Act} {w:World} {l:List Oper} (n:Nat) (fl:List Nat) (hm:P.follows .mixedOrders=true) (hB:ZY l.toArray n fl=true)
 (hQ0:∀ c (a:Act) (t:Tmp) v w,Q (.panic c) (a.put (some t) v) w->Q (.panic c) a w)
 (h:VJ P l.toArray w n fl (Fin P l.toArray w n Q) 0 (l.take n) [] a):(Code.region id l.toArray true).wp P Q a w:=by
 have F:=Fit.of hB
 have hQ:∀ c (a:Act) d v w,Q (.panic c) (a.put d v) w->Q (.panic c) a w:=λc a d v w h=>by
  cases d with
  | none=>exact h
  | some t=>exact hQ0 c a t v w h
 refine wp_region_any hm ?_;have hlt:n<l.length:=by simpa using F.lt
 exact LP F hQ a (l.take n) 0 (λ_=>false) (λ_=>undef) (λ_ _=>undef) (λ_=>.cells #[] 0) (λj hj=>by
  have hj':j<n:=by simp at hj;omega
  simp [hj']) (by simp;omega)
  ⟨λi _ hi=>absurd hi (by omega),λi _ hi=>absurd hi (by omega),λi _ hi=>absurd hi (by omega),λi _ hi=>absurd hi (by omega)⟩ (λi _ hi=>absurd hi (by omega)) h _ (Ext.refl w).drew

theorem YH {w:World} {b:Nat} {cs:Array Value} {t:TypeId} (h:w.heap[b]? = some (.cells cs t)) (i:Nat):w.cell? ⟨b,i,none⟩=cs[i]? := cell_of_row w b i cs t (0,0) h
theorem bJ5 {w:World} {b:Nat} {cs:Array Value} {t:TypeId} (h:w.heap[b]? = some (.cells cs t)) (i:Nat):w.frozen? ⟨b,i,none⟩=false:=by
 simp [World.frozen?,h]

theorem Ext.below {a w:World} (h:Ext a w):Below a.heap.size a w:=h
theorem Ext.of_below {a w:World} (h:Below a.heap.size a w):Ext a w:=h
attribute [irreducible] Ext

/-! ### The steps of the walk -/
variable {Q:List KR->Act->Prop} {o:Oper} {rest:List Oper} {bl:List KR} {a:Act} {k:Nat}








end
end Go.Par
namespace Go.Sx
open Go.RowKit Go.Par

abbrev Sl:=List (Nat × Value)
def look:Sl->Nat->Option Value
 | [],_=>none
 | (k,v)::r,t=>bif Nat.beq k t then some v else look r t
def ev (L:Sl):Operand->Option Value
 | .tmp t=>look L t
 | .const v=>some v
 | .global g=>some (.pointer (some ⟨g,0,none⟩))
 | .func f=>some (.func (.func f) #[] #[])
structure Fr (dfs:List Deferred) (n:Nat) (L:Sl) (a:Act):Prop where
 size:a.tmps.size=n
 defers:a.defers=dfs
 slot:∀ t v,look L t=some v->a.tmps.getD t undef=v
theorem Fr.ev {dfs:List Deferred} {n:Nat} {L:Sl} {a:Act} (h:Fr dfs n L a) {x:Operand} {v:Value} (e:ev L x=some v):a.eval x=v:=by
 cases x with
 | tmp t=>exact h.slot t v e
 | const u=>exact bH e
 | global g=>exact bH e
 | func f=>exact bH e
variable {dfs:List Deferred} {n:Nat} {L:Sl}
theorem Fr.put {a:Act} (h:Fr dfs n L a) {t:Nat} (ht:Nat.blt t n=true) (v:Value):Fr dfs n ((t,v)::L) (a.put (some t) v):=by
 have ht':t<n:=by simpa [nZ] using ht
 refine ⟨by simp [Act.put,h.size],h.defers,?_⟩;intro s u e;unfold look at e
 by_cases hs:t=s
 ·subst hs;simp only [lU,lI,wB] at e;subst e;simp [Act.put,h.size,ht']
 ·have hb:Nat.beq t s=false:=by
   cases hb:Nat.beq t s
   ·rfl
   ·exact absurd (lK hb) hs
  rw [hb,cond_false] at e;have:=h.slot s u e;simp only [Act.put,Al_Array_getD_eq_getD_getElem?] at this|-;rw [Array.getElem?_setIfInBounds_ne hs];exact this
theorem Fr.putNone {a:Act} (h:Fr dfs n L a) (v:Value):Fr dfs n L (a.put none v):=h
def Sub (L:Sl):Sl->Prop
 | []=>True
 | (t,v)::r=>look L t=some v/\Sub L r
theorem Sub.at {L:Sl}:∀ {M:Sl},Sub L M->∀ t v,look M t=some v->look L t=some v
 | [],_,t,v,e=>by cases e
 | (k,u)::r,h,t,v,e=>by
  unfold look at e;cases hb:Nat.beq k t
  ·rw [hb,cond_false] at e;exact Sub.at h.2 t v e
  ·rw [hb,lI] at e;rw [<-lK hb,<-bH e];exact h.1
theorem Fr.sub {M:Sl} {a:Act} (h:Fr dfs n L a) (s:Sub L M):Fr dfs n M a:=⟨h.size,h.defers,λt v e=>h.slot t v (s.at t v e)⟩

structure Hp where
 get:Nat->Option Obj
 lo:Nat
instance:CoeFun Hp (λ_=>Nat->Option Obj):=⟨Hp.get⟩
structure Agr (H:Hp) (W:World):Prop where
 get:∀ b o,H b=some o->W.heap[b]? = some o
 lo:H.lo<=W.heap.size
instance {H:Hp} {W:World}:CoeFun (Agr H W) (λ_=>∀ b o,H b=some o->W.heap[b]? = some o):=⟨Agr.get⟩
variable {H:Hp} {W W':World}
theorem Agr.ext (h:Agr H W) (x:Ext W W'):Agr H W':=⟨λb o e=>DP x (h b o e),aV h.lo x.size⟩
structure Up (H H':Hp):Prop where
 get:∀ b o,H b=some o->H' b=some o
 lo:H'.lo=H.lo
instance {H H':Hp}:CoeFun (Up H H') (λ_=>∀ b o,H b=some o->H' b=some o):=⟨Up.get⟩
inductive Res where
 | box (b:Nat) (l:List Value) (t:TypeId)
 | row (e:TypeId) (size:Nat) (v:Value) (n:Nat) (xs:List Value)
 | obj (b:Nat) (o:Obj)
 | big (k:Nat)
 | ps (e:TypeId) (v:Value) (xs:List Value)
def bZ6 (w:World) (base:Nat) (e:TypeId) (v:Value) (xs:List Value):Prop :=
 (v=.slice none 0 0/\xs=[])\/∃ g cap cur,v=.slice (some ⟨g,0,none⟩) xs.length cap/\base<=g/\w.heap[g]? = some (.cells cur e (0,0))/\xs.length<=cap/\cap<=maxLen/\cur.size=cap/\cur.toList.take xs.length=xs/\∀ u∈cur.toList,∃ s:ByteArray,u=.string s/\s.size<=1000000
def Res.blk:Res->Option Nat
 | .box b _ _=>some b
 | .row _ _ v _ _=>v.ownBlock
 | .obj b _=>some b
 | .big _=>none
 | .ps _ v _=>v.ownBlock
def Res.ok (base:Nat) (W:World):Res->Prop
 | .box b l t=>base<=b/\W.heap[b]? = some (.cells l.toArray t (0,0))
 | .row e size v n xs=>W.ownsRow base e size v n xs
 | .obj b o=>base<=b/\W.heap[b]? = some o
 | .big k=>k<=W.heap.size
 | .ps e v xs=>bZ6 W base e v xs
def Res.apart (x y:Res):Prop:=∀ b,x.blk=some b->y.blk≠some b
theorem Res.apart.symm {x y:Res} (h:x.apart y):y.apart x:=λb e f=>h b f e
structure St (H:Hp) (w0:World) (bs:List Res) (W:World):Prop where
 ext:Ext w0 W
 agr:Agr H W
 own:∀ x∈bs,x.ok w0.heap.size W/\∀ b,x.blk=some b->H b=none
 apart:bs.Pairwise Res.apart
 lo:H.lo<=w0.heap.size
variable {b:Nat}
theorem Res.ok.lt {base:Nat} {x:Res} (h:x.ok base W) (e:x.blk=some b):base<=b/\b<W.heap.size:=by
 cases x with
 | box c l t =>
  obtain rfl:c=b:=bH e;exact ⟨h.1,pU h.2⟩
 | obj c o =>
  obtain rfl:c=b:=bH e;exact ⟨h.1,pU h.2⟩
 | big c=>cases e
 | ps et v xs =>
  obtain ⟨rfl,_⟩ | ⟨g,cap,cur,rfl,hg,hc,_⟩:=h
  ·cases e
  ·obtain rfl:g=b:=bH e;exact ⟨hg,pU hc⟩
 | row et size v n xs =>
  obtain ⟨_,⟨rfl,_⟩ | ⟨g,cap,cur,rfl,hg,hc,_⟩⟩:=h
  ·cases e
  ·obtain rfl:g=b:=bH e;exact ⟨hg,pU hc⟩
theorem Res.ok.keep {base:Nat} {x:Res} (h:x.ok base W) (z:W.heap.size<=W'.heap.size) (k:∀ b,x.blk=some b->W'.heap[b]? = W.heap[b]?):x.ok base W':=by
 cases x with
 | box c l t=>exact ⟨h.1,(k c rfl).trans h.2⟩
 | obj c o=>exact ⟨h.1,(k c rfl).trans h.2⟩
 | big c=>exact aV h z
 | ps et v xs =>
  obtain ⟨rfl,h0⟩ | ⟨g,cap,cur,rfl,hg,hc,hr⟩:=h
  ·exact .inl ⟨Z,h0⟩
  ·exact .inr ⟨g,cap,cur,Z,hg,(k g Z).trans hc,hr⟩
 | row et size v n xs =>
  obtain ⟨hl,⟨rfl,h0⟩ | ⟨g,cap,cur,rfl,hg,hc,hr⟩⟩:=h
  ·exact ⟨hl,.inl ⟨Z,h0⟩⟩
  ·exact ⟨hl,.inr ⟨g,cap,cur,Z,hg,(k g rfl).trans hc,hr⟩⟩
theorem aQ0 (x:Ext W W') (h:b<W.heap.size):W'.heap[b]? = W.heap[b]? := by
 cases e:W.heap[b]? with
 | some o=>exact DP x e
 | none =>
  have:=Array.getElem?_eq_none_iff.1 e;omega
theorem Res.ok.ext {base:Nat} {x:Res} (h:x.ok base W) (e:Ext W W'):x.ok base W' :=
 h.keep e.size λ_ hb=>aQ0 e (h.lt hb).2
structure zT (H:Hp) (W:World) (H':Hp) (W':World):Prop where
 ext:Ext W W'
 up:Up H H'
 new:∀ b,H b=none->b<W.heap.size->H' b=none
 agr:Agr H' W'
 mark:∀ b o,H' b=some o->H b=none->∃ arr t,o=Obj.cells arr t (0,0)
theorem zT.pure (h:Agr H W) (x:Ext W W'):zT H W H W':=⟨x,⟨λ_ _ e=>e,Z⟩,λ_ e _=>e,h.ext x,λb o e k=>by rw [k] at e;cases e⟩
variable {H':Hp} {w0:World} {bs:List Res}
theorem St.grow (h:St H w0 bs W) (g:zT H W H' W'):St H' w0 bs W' :=
 ⟨h.ext.trans g.ext,g.agr,λx hx=>⟨(h.own x hx).1.ext g.ext,λb e=>g.new b ((h.own x hx).2 b e) ((h.own x hx).1.lt e).2⟩,h.apart,g.up.lo ▸ h.lo⟩
theorem St.more (h:St H w0 bs W) (x:Ext W W'):St H w0 bs W':=h.grow (.pure h.agr x)
theorem St.start {w:World} (h:Agr H w):St H w [] w:=⟨Ext.refl w,h,(λ_ hx=>by cases hx),List.Pairwise.nil,h.lo⟩
theorem Agr.lt (h:Agr H W) (hb:W.heap.size<=b):H b=none:=by
 cases e:H b with
 | none=>rfl
 | some o=>have:=pU (h b o e);omega
theorem St.alloc (h:St H w0 bs W) (l:List Value) (t:TypeId) :
 St H w0 (.box W.heap.size l t::bs) (W.alloc (.cells l.toArray t)):=by
 have hx:Ext W (W.alloc (.cells l.toArray t)):=(Ext.refl W).alloc _;have k:=h.more hx;refine ⟨k.ext,k.agr,?_,.cons ?_ h.apart,h.lo⟩
 ·intro x hm;rcases bP.1 hm with rfl | hm
  ·refine ⟨⟨h.ext.size,?_⟩,λb e=>?_⟩
   ·show (W.heap.push _)[W.heap.size]? = _;simp
   ·obtain rfl:W.heap.size=b:=bH e;exact h.agr.lt (aW _)
  ·exact k.own x hm
 ·intro y hy b e e';obtain rfl:W.heap.size=b:=bH e;have:=((h.own y hy).1.lt e').2;omega
inductive Upd:List Res->Res->Res->List Res->Prop where
 | head {x y:Res} {r:List Res}:Upd (x::r) x y (y::r)
 | tail {x y z:Res} {r r':List Res}:Upd r x y r'->Upd (z::r) x y (z::r')
variable {bs':List Res}
theorem Upd.mem {x y:Res} (h:Upd bs x y bs'):x∈bs:=by
 induction h with
 | head=>exact .head _
 | tail _ ih=>exact .tail _ ih
theorem Upd.apart {x y:Res} (h:Upd bs x y bs') (ap:bs.Pairwise Res.apart):∃ o:List Res,(∀ z∈o,z∈bs/\x.apart z)/\(∀ z∈bs',z=y\/z∈o)/\((∀ z∈o,y.apart z)->bs'.Pairwise Res.apart):=by
 induction h with
 | @head x y r =>
  cases ap with
  | cons h1 h2=>exact ⟨r,λz hz=>⟨.tail _ hz,h1 z hz⟩,λz hz=>bP.1 hz,λk=>.cons k h2⟩
 | @tail x y z r r' hu ih =>
  cases ap with
  | cons h1 h2 =>
   obtain ⟨o,p1,p2,p3⟩:=ih h2;refine ⟨z::o,?_,?_,?_⟩
   ·intro u hu';rcases bP.1 hu' with rfl | hm
    ·exact ⟨.head _,(h1 x hu.mem).symm⟩
    ·exact ⟨.tail _ (p1 u hm).1,(p1 u hm).2⟩
   ·intro u hu';rcases bP.1 hu' with rfl | hm
    ·exact .inr Hm
    ·exact (p2 u hm).imp id (.tail _)
   ·intro k;refine .cons ?_ (p3 λu hm=>k u (.tail _ hm));intro u hm;rcases p2 u hm with rfl | hm
    ·exact (k z Hm).symm
    ·exact h1 u (p1 u hm).1 |> λq=>q
theorem St.upd {x y:Res} (h:St H w0 bs W) (u:Upd bs x y bs') (hx:Ext w0 W') (hsz:W.heap.size<=W'.heap.size)
 (hk:∀ b,b<W.heap.size->x.blk≠some b->W'.heap[b]? = W.heap[b]?) (hy:y.ok w0.heap.size W')
 (hb:∀ b,y.blk=some b->x.blk=some b\/W.heap.size<=b):St H w0 bs' W':=by
 obtain ⟨o,p1,p2,p3⟩:=u.apart h.apart
 have keep:∀ z∈o,∀ b,z.blk=some b->W'.heap[b]? = W.heap[b]? := λz hz b e =>
  hk b ((h.own z (p1 z hz).1).1.lt e).2 (λe'=>(p1 z hz).2 b e' e)
 refine ⟨hx,⟨?_,aV h.agr.lo hsz⟩,?_,?_,h.lo⟩
 ·intro b ob e;have hb:=h.agr b ob e
  rw [hk b (pU hb) (λe'=>by
   have:=(h.own x u.mem).2 b e';rw [this] at e;cases e)]
  exact hb
 ·intro z hz;rcases p2 z hz with rfl | hz
  ·refine ⟨hy,λb e=>?_⟩;rcases hb b e with e' | e'
   ·exact (h.own x u.mem).2 b e'
   ·exact h.agr.lt e'
  ·exact ⟨(h.own z (p1 z hz).1).1.keep hsz (keep z hz),(h.own z (p1 z hz).1).2⟩
 ·refine p3 λz hz b e e'=>?_;rcases hb b e with e2 | e2
  ·exact (p1 z hz).2 b e2 e'
  ·have:=((h.own z (p1 z hz).1).1.lt e').2;omega
theorem HF (W:World) (b off:Nat) (v:Value) (c:Nat):(W.setCell ⟨b,off,none⟩ v).heap[c]? = if c=b then (W.heap[c]?).map (λ| .cells cs e f=>.cells (cs.setIfInBounds off v) e f | o=>o) else W.heap[c]? := by
 unfold World.setCell;rw [Array.getElem?_modify]
 by_cases h:b=c
 ·subst h;simp only [aU]
  congr 1
 ·rw [aD h,aD (rN h)]
variable {t:TypeId} {v:Value}
theorem St.set {off:Nat} {l l':List Value} (h:St H w0 bs W) (u:Upd bs (.box b l t) (.box b l' t) bs') (hl:l.set off v=l') :
 St H w0 bs' (W.setCell ⟨b,off,none⟩ v):=by
 have hm:=h.own _ u.mem;have hW:W.heap[b]? = some (.cells l.toArray t (0,0)):=hm.1.2;have hz:(W.setCell ⟨b,off,none⟩ v).heap.size=W.heap.size:=by simp [World.setCell]
 refine h.upd u (h.ext.setCell hm.1.1 v) (by omega) ?_ ⟨hm.1.1,?_⟩ (λc e=>.inl e)
 ·intro c _ hn;rw [HF,aD (λe=>hn (by rw [e];rfl))]
 ·rw [HF,aM rfl,hW];simp [<-hl]
theorem St.cell {off:Nat} {l:List Value} (h:St H w0 bs W) (hm:Res.box b l t∈bs) (hv:l[off]? = some v) :
 W.cell? ⟨b,off,none⟩=some v/\W.frozen? ⟨b,off,none⟩=false:=by
 have hW:W.heap[b]? = some (.cells l.toArray t (0,0)):=(h.own _ hm).1.2;exact ⟨by rw [YH hW];simpa using hv,bJ5 hW off⟩
theorem Upd.mid {x z:Res} (h:Upd bs x z bs') (y:Res):∃ bs1,Upd bs x y bs1/\Upd bs1 y z bs':=by
 induction h with
 | head=>exact ⟨_,.head,.head⟩
 | tail _ ih=>obtain ⟨b1,h1,h2⟩:=ih;exact ⟨_,.tail h1,.tail h2⟩
def oI (l:List Value):Nat->List Value->List Value
 | _,[]=>l
 | off,v::r=>oI (l.set off v) (off+1) r
theorem St.sets {H:Hp} {w0:World} {b:Nat} {t:TypeId}:∀ (vs:List Value) (off:Nat) (l:List Value) (W:World) (bs bs':List Res),St H w0 bs W->Upd bs (.box b l t) (.box b (oI l off vs) t) bs'->St H w0 bs' (W.setCells b off vs)
 | [],off,l,W,bs,bs',h,u=>by
  have:bs'=bs:=by
   have h2:∀ {bs bs':List Res} {x y:Res},Upd bs x y bs'->x=y->bs'=bs:=λu=>by
    induction u with
    | head=>intro e;rw [e]
    | tail _ ih=>intro e;rw [ih e]
   exact h2 u rfl
  rw [this];exact h
 | v::r,off,l,W,bs,bs',h,u=>by
  obtain ⟨b1,u1,u2⟩:=u.mid (.box b (l.set off v) t);exact St.sets r (off+1) (l.set off v) _ b1 bs' (h.set u1 rfl) u2
theorem IU:∀ (vs p l:List Value),l.length=vs.length->oI (p++l) p.length vs=p++vs
 | [],p,l,h=>by obtain rfl:l=[]:=bK h;rfl
 | v::r,p,l,h=>by
  match l,h with
  | x::l,h =>
   unfold oI;rw [lL _ _ (aW _),jP,qH];have:=IU r (p++[v]) l (by simpa using h);simpa using this
theorem Agr.cell (h:Agr H W) {off:Nat} {cs:Array Value} {m:Nat × Nat} (hb:H b=some (.cells cs t m)) (hv:cs[off]? = some v) :
 W.cell? ⟨b,off,none⟩=some v:=by
 rw [cell_of_row W b off cs t m (h b _ hb)];exact hv

def At (dfs:List Deferred) (n:Nat) (L:Sl) (H:Hp) (w0:World) (bs:List Res) (G:Act->World->Prop):Prop:=∀ a W,Fr dfs n L a->St H w0 bs W->G a W

section
variable {dfs:List Deferred} {P:Program} {n:Nat} {L:Sl} {H:Hp} {w0:World} {bs:List Res} {Q:Exit->Act->World->Prop} {ops:Array Oper} {rest:List Oper}

def KB:Nat->List Value->Sl
 | _,[]=>[]
 | k,v::r=>(k,v)::KB (k+1) r
theorem HB:∀ (l:List Value) (k t:Nat) (v:Value),look (KB k l) t=some v->k<=t/\l[t - k]? = some v
 | [],_,_,_,e=>by cases e
 | u::r,k,t,v,e=>by
  unfold KB look at e;cases hb:Nat.beq k t
  ·rw [hb,cond_false] at e;obtain ⟨h1,h2⟩:=HB r (k+1) t v e;refine ⟨by omega,?_⟩;rw [show t - k=(t - (k+1))+1 by omega];simpa using h2
  ·rw [hb,lI] at e;have:=lK hb;subst this;simpa using e
theorem enter {f:FuncId} {fn:Func} {c:Code} {args:List Value} {w:World} {R:Ending->World->Prop} (hf:P.funcs[f]? = some fn) (hb:fn.body=some c) (hn:fn.ntmps=n) (hl:Nat.ble args.length n=true) (hA:Agr H w)
 (h:At [] n (KB 0 args) H w [] (c.wp P (bodyPost P fn R))):Calls P f args.toArray w R:=by
 refine calls_of_wp hf hb (h _ _ ⟨?_,Z,?_⟩ (.start hA))
 ·have:args.length<=n:=lJ hl;simp [hn];omega
 ·intro t v e;obtain ⟨_,h2⟩:=HB args 0 t v e;rw [wI] at h2;have hlt:t<args.length:=(List.getElem?_eq_some_iff.1 h2).1;rw [Al_Array_getD_eq_getD_getElem?];rw [Array.getElem?_append_left (by simpa using hlt)];simp [h2]

theorem seq {x y:Code} (h:At dfs n L H w0 bs (x.wp P (Exit.then (y.wp P Q) Q))):At dfs n L H w0 bs ((Code.seq x y).wp P Q):=λa W f s=>wp_seq (h a W f s)
theorem cut {x y:Code} (M:Act->World->Prop) (h:At dfs n L H w0 bs (x.wp P (Exit.then M Q))) (k:∀ a W,M a W->y.wp P Q a W):At dfs n L H w0 bs ((Code.seq x y).wp P Q) :=
 λa W f s=>wp_seq (wp_mono (h a W f s) λe a' W' q=>by cases e <;> first | exact q | exact k _ _ q)
theorem blk {id:Nat} {c:Code} (h:At dfs n L H w0 bs (c.wp P (Exit.inBlock id Q))):At dfs n L H w0 bs ((Code.block id c).wp P Q):=λa W f s=>wp_block (h a W f s)
theorem skip (h:At dfs n L H w0 bs (Q .normal)):At dfs n L H w0 bs (Code.skip.wp P Q):=λa W f s=>wp_skip (h a W f s)
theorem ret (h:At dfs n L H w0 bs (Q .ret)):At dfs n L H w0 bs (Code.ret.wp P Q):=λa W f s=>wp_ret (h a W f s)
theorem exit {id:Nat} (h:At dfs n L H w0 bs (Q (.exit id))):At dfs n L H w0 bs ((Code.exit id).wp P Q):=λa W f s=>wp_exit (h a W f s)
theorem cond {c:Operand} {x y:Code} {t:Bool} (hc:ev L c=some (.bool t)) (h1:t=true->At dfs n L H w0 bs (x.wp P Q)) (h2:t=false->At dfs n L H w0 bs (y.wp P Q)):At dfs n L H w0 bs ((Code.cond c x y).wp P Q) :=
 λa W f s=>wp_cond_split (f.ev hc) (λe=>h1 e a W f s) (λe=>h2 e a W f s)
theorem cK4 {c:Operand} {x y:Code} (hc:ev L c=some (.bool true)) (h:At dfs n L H w0 bs (x.wp P Q)):At dfs n L H w0 bs ((Code.cond c x y).wp P Q):=cond hc (λ_=>h) (λe=>by cases e)
theorem cK5 {c:Operand} {x y:Code} (hc:ev L c=some (.bool false)) (h:At dfs n L H w0 bs (y.wp P Q)):At dfs n L H w0 bs ((Code.cond c x y).wp P Q):=cond hc (λe=>by cases e) (λ_=>h)
theorem region {id:Nat} {l:List Oper} (h:At dfs n L H w0 bs (wpList P l.toArray Q l)):At dfs n L H w0 bs ((Code.region id l.toArray false).wp P Q):=λa W f s=>wp_region_lit (h a W f s)
theorem nil (h:At dfs n L H w0 bs (Q .normal)):At dfs n L H w0 bs (wpList P ops Q []):=λa W f s=>wpList_nil (h a W f s)
theorem cN6 {id:Nat} (h:At dfs n L H w0 bs (Q .normal)):At dfs n L H w0 bs (Exit.inBlock id Q (.exit id)):=λa W f s=>by simp only [Exit.inBlock,aU];exact h a W f s
theorem loop {c:Code} {X:Type} (L':X->Sl) (H':X->Hp) (bs':X->List Res) (C:X->Prop) (μ:X->Nat) (x0:X) (hC:C x0) (hL:Sub L (L' x0)) (hB:∀ W,St H w0 bs W->St (H' x0) w0 (bs' x0) W)
 (round:∀ x,C x->At dfs n (L' x) (H' x) w0 (bs' x) (c.wp P (Exit.then (λa W=>∃ y,(C y/\μ y<μ x)/\Fr dfs n (L' y) a/\St (H' y) w0 (bs' y) W) Q))) :
 At dfs n L H w0 bs ((Code.loop c).wp P Q):=by
 intro a W f s;refine wp_loop_ghost (λm a W=>∃ x,μ x=m/\C x/\Fr dfs n (L' x) a/\St (H' x) w0 (bs' x) W) _ ⟨x0,Z,hC,f.sub hL,hB W s⟩ ?_;rintro m a W ⟨x,rfl,hx,f,s⟩;refine wp_mono (round x hx a W f s) λe a' W' q=>?_;cases e <;> first | exact q | skip
 obtain ⟨y,⟨hy,hlt⟩,fy,sy⟩:=q;exact ⟨_,hlt,y,Z,hy,fy,sy⟩
end

def lR (P:Program) (t:TypeId):Option (Option Nat) :=
 match P.underlying t with
 | some (.struct _) | some (.array _ _)=>(P.info? t).map (λi=>some i.size)
 | some _=>some none
 | none=>none
def iP (P:Program) (t:TypeId):Option Nat:=(P.info? t).map (·.size)
def qK (P:Program) (t:TypeId):Option (List Value):=(P.info? t).bind λi=>i.zero.map (·.cells.toList)
def eN (P:Program) (s:TypeId) (k:Nat):Option Nat :=
 match P.underlying s with
 | some (.struct fs)=>(fs[k]?).bind λf=>(iP P f.type).bind λz=>if z=0 then none else some f.offset
 | _=>none
def PG (P:Program) (t:TypeId):Option (Nat × Nat) :=
 match P.underlying t with
 | some (.array len e)=>(iP P e).map λz=>(len,z)
 | _=>none
def slN (P:Program) (t:TypeId):Option Nat :=
 match P.underlying t with
 | some (.slice e)=>iP P e
 | _=>none
def BR (P:Program) (t:TypeId):Bool:=match P.underlying t with | some .string=>true | _=>false
def UF (P:Program) (t:TypeId):Option IntKind:=match P.underlying t with | some (.int k)=>some k | _=>none
def cV (P:Program) (f:FuncId):Bool:=match P.funcs[f]? with | some fn=>fn.body.isSome && !(fn.name == "runtime.NumGoroutine") | none=>false

section
variable {dfs:List Deferred} {P:Program} {W:World}
theorem uA {t:TypeId} (h:lR P t=some none):(isAgg t).run P W=.ok false W:=by
 unfold lR at h;unfold isAgg;simp only [Sem.run_bind,underlying];cases hu:P.underlying t with
 | none=>rw [hu] at h;cases h
 | some d =>
  rw [hu] at h;cases d <;> simp_all [program,Sem.run,Result.andThen]
theorem vL {t:TypeId} {m:Nat} (h:lR P t=some (some m)):(isAgg t).run P W=.ok true W/\(Go.sizeOf t).run P W=.ok m W:=by
 unfold lR at h;unfold isAgg Go.sizeOf typeInfo;simp only [Sem.run_bind,underlying];cases hu:P.underlying t with
 | none=>rw [hu] at h;cases h
 | some d =>
  rw [hu] at h;cases d <;> simp_all [program,Sem.run,Result.andThen] <;> (obtain ⟨i,hi,rfl⟩:=h;simp [hi])
theorem pG {t:TypeId} {m:Nat} (h:iP P t=some m):(Go.sizeOf t).run P W=.ok m W:=by
 unfold iP at h;unfold Go.sizeOf typeInfo;simp only [Sem.run_bind];obtain ⟨i,hi,rfl⟩:=eE.1 h;simp [program,Sem.run,Result.andThen,hi]
theorem vK {t:TypeId} {l:List Value} (h:qK P t=some l):∃ z,(zeroValue t).run P W=.ok z W/\z.cells.toList=l:=by
 unfold qK at h;obtain ⟨i,hi,h2⟩:=dH.1 h;obtain ⟨z,hz,rfl⟩:=eE.1 h2;refine ⟨z,?_,Z⟩;unfold zeroValue typeInfo;simp [Sem.run_bind,program,Sem.run,Result.andThen,hi,hz]
end

section
variable {dfs:List Deferred} {P:Program} {n:Nat} {L:Sl} {H:Hp} {w0:World} {bs:List Res} {Q:Exit->Act->World->Prop} {ops:Array Oper} {K:Act->World->Prop}
variable {d:Option Tmp} {ty:TypeId} {pos:String} {aft:Array Edge} {g:Option (Nat × Bool)} {v:Value} {t:Tmp} {op:Op}

def one (P:Program) (ops:Array Oper) (Q:Exit->Act->World->Prop) (o:Oper) (K:Act->World->Prop) (a:Act) (w:World):Prop :=
 if Region.wanted o (yielded ops a.tmps) then o.wp P a w K Q\/(o.asks P a w/\LetsOut Q) else K (a.put o.dst undef) w
theorem oN {o:Oper} {a:Act} {w:World} (hg:o.guard=none) (h:o.wp P a w K Q):one P ops Q o K a w:=by
 unfold one;rw [aM (by simp [Region.wanted,hg])];exact .inl h
theorem cons {o:Oper} {rest:List Oper} (h:At dfs n L H w0 bs (one P ops Q o (wpList P ops Q rest))):At dfs n L H w0 bs (wpList P ops Q (o::rest)):=h
def Yl (P:Program) (L:Sl) (H:Hp) (w0:World) (bs:List Res) (o:Oper) (v:Value):Prop :=
 ∀ (a:Act) W,(∀ x u,ev L x=some u->a.eval x=u)->St H w0 bs W->Oper.quietUpon P (Ext W) W v ((execOp a.eval o).run P W)
theorem Yl.of_run {o:Oper} (h:∀ (a:Act) W,(∀ x u,ev L x=some u->a.eval x=u)->St H w0 bs W->(execOp a.eval o).run P W=.ok (.value v) W):Yl P L H w0 bs o v :=
 λa W f s=>by rw [h a W f s];exact ⟨Z,Z⟩

theorem yl (hy:Yl P L H w0 bs ⟨some t,op,ty,pos,aft,none⟩ v) (ht:Nat.blt t n=true) (h:At dfs n ((t,v)::L) H w0 bs K) :
 At dfs n L H w0 bs (one P ops Q ⟨some t,op,ty,pos,aft,none⟩ K):=by
 intro a W f s;refine oN rfl ?_;have h3:=hy a W (λx u e=>f.ev e) s;unfold Oper.wp;generalize (execOp a.eval ⟨some t,op,ty,pos,aft,none⟩).run P W=r at *;cases r with
 | ok x w' =>
  cases x <;> simp only [Oper.quietUpon] at h3 <;> simp only [Oper.upon]
  case value u =>
   obtain ⟨e1,e2⟩:=h3;subst e1 e2;exact (h _ _ (f.put ht _) s)
  case skip =>
   obtain ⟨e1,e2⟩:=h3;subst e1 e2;exact (h _ _ (f.put ht _) s)
  case enter fi args =>
   obtain ⟨e1,hc⟩:=h3;subst e1;exact hc.mono λe w'' ⟨he,hw''⟩=>by subst he;exact (h _ _ (f.put ht _) (s.more hw''))
 | halt x w'=>simp only [Oper.quietUpon] at h3

theorem cC2 {j:Nat} {b:Bool} {u:Tmp} (hd:(ops[j]?).bind (·.dst)=some u) (hs:look L u=some (.bool b)) (h:At dfs n L H w0 bs (one P ops Q ⟨d,op,ty,pos,aft,none⟩ K)) :
 At dfs n L H w0 bs (one P ops Q ⟨d,op,ty,pos,aft,some (j,b)⟩ K):=by
 intro a W f s;have hq:=h a W f s
 have hy:yielded ops a.tmps j=some b:=by
  have:=f.slot u _ hs;unfold yielded;rw [hd];simp only [iY];rw [Al_Array_getD_eq_getD_getElem?] at this;cases e:a.tmps[u]? with
  | none=>rw [e] at this;simp [undef] at this
  | some x=>rw [e] at this;simp at this;subst this;rfl
 unfold one at hq|-;rw [aM (by simp [Region.wanted])] at hq;rw [aM (by simp [Region.wanted,hy])];exact hq
theorem cC3 {j:Nat} {b c:Bool} {u:Tmp} (hd:(ops[j]?).bind (·.dst)=some u) (hs:look L u=some (.bool c)) (hne:(c == b)=false) (ht:Nat.blt t n=true) (h:At dfs n ((t,undef)::L) H w0 bs K) :
 At dfs n L H w0 bs (one P ops Q ⟨some t,op,ty,pos,aft,some (j,b)⟩ K):=by
 intro a W f s
 have hy:yielded ops a.tmps j=some c:=by
  have:=f.slot u _ hs;unfold yielded;rw [hd];simp only [iY];rw [Al_Array_getD_eq_getD_getElem?] at this;cases e:a.tmps[u]? with
  | none=>rw [e] at this;simp [undef] at this
  | some x=>rw [e] at this;simp at this;subst this;rfl
 unfold one;rw [aD (by simp only [Region.wanted,hy];simp;intro e;subst e;simp at hne)];exact h _ _ (f.put ht _) s
theorem bool {p:Bool} {G:Act->World->Prop} (h1:p=true->At dfs n ((t,.bool true)::L) H w0 bs G) (h2:p=false->At dfs n ((t,.bool false)::L) H w0 bs G):At dfs n ((t,.bool p)::L) H w0 bs G:=by
 cases p
 ·exact h2 rfl
 ·exact h1 rfl

theorem Yl.move {x:Operand} (hx:ev L x=some v):Yl P L H w0 bs ⟨d,.move x,ty,pos,aft,g⟩ v:=.of_run λa W f _=>by unfold execOp;simp [f x _ hx]
theorem Yl.assign {x:Operand} (hx:ev L x=some v):Yl P L H w0 bs ⟨d,.assign x,ty,pos,aft,g⟩ v:=.of_run λa W f _=>by unfold execOp;simp [f x _ hx]
theorem Yl.pickT {c x y:Operand} (hc:ev L c=some (.bool true)) (hx:ev L x=some v):Yl P L H w0 bs ⟨d,.pick c x y,ty,pos,aft,g⟩ v:=.of_run λa W f _=>by unfold execOp;simp [f x _ hx,f c _ hc,asBool]
theorem Yl.pickF {c x y:Operand} (hc:ev L c=some (.bool false)) (hy:ev L y=some v):Yl P L H w0 bs ⟨d,.pick c x y,ty,pos,aft,g⟩ v:=.of_run λa W f _=>by unfold execOp;simp [f y _ hy,f c _ hc,asBool]

section ints
variable {x y:Operand} {k:IntKind} {i j c:Int} {T T':TypeId}
theorem Yl.lss (hx:ev L x=some (.int k i)) (hy:ev L y=some (.int k j)):Yl P L H w0 bs ⟨d,.binOp .lss T x y T',ty,pos,aft,g⟩ (.bool (decide (i<j))):=.of_run λa W f _=>by
 unfold execOp;simp [f x _ hx,f y _ hy,eqGuard,binOp,Op.intCmp]
theorem Yl.leq (hx:ev L x=some (.int k i)) (hy:ev L y=some (.int k j)):Yl P L H w0 bs ⟨d,.binOp .leq T x y T',ty,pos,aft,g⟩ (.bool (decide (i<=j))):=.of_run λa W f _=>by
 unfold execOp;simp [f x _ hx,f y _ hy,eqGuard,binOp,Op.intCmp]
theorem Yl.gtr (hx:ev L x=some (.int k i)) (hy:ev L y=some (.int k j)):Yl P L H w0 bs ⟨d,.binOp .gtr T x y T',ty,pos,aft,g⟩ (.bool (decide (j<i))):=.of_run λa W f _=>by
 unfold execOp;simp [f x _ hx,f y _ hy,eqGuard,binOp,Op.intCmp]
theorem Yl.geq (hx:ev L x=some (.int k i)) (hy:ev L y=some (.int k j)):Yl P L H w0 bs ⟨d,.binOp .geq T x y T',ty,pos,aft,g⟩ (.bool (decide (j<=i))):=.of_run λa W f _=>by
 unfold execOp;simp [f x _ hx,f y _ hy,eqGuard,binOp,Op.intCmp]
theorem Yl.eql (hx:ev L x=some (.int k i)) (hy:ev L y=some (.int k j)):Yl P L H w0 bs ⟨d,.binOp .eql T x y T',ty,pos,aft,g⟩ (.bool (decide (i=j))):=.of_run λa W f _=>by
 unfold execOp;simp [f x _ hx,f y _ hy,eqGuard,binOp,Op.intCmp];rfl
theorem Yl.neq (hx:ev L x=some (.int k i)) (hy:ev L y=some (.int k j)):Yl P L H w0 bs ⟨d,.binOp .neq T x y T',ty,pos,aft,g⟩ (.bool (decide (¬ i=j))):=.of_run λa W f _=>by
 unfold execOp;simp [f x _ hx,f y _ hy,eqGuard,binOp,Op.intCmp,bne];rfl
theorem Yl.add (hx:ev L x=some (.int k i)) (hy:ev L y=some (.int k j)) (hw:k.wrap (i+j)=c):Yl P L H w0 bs ⟨d,.binOp .add T x y T',ty,pos,aft,g⟩ (.int k c):=.of_run λa W f _=>by
 unfold execOp;simp [f x _ hx,f y _ hy,eqGuard,binOp,Op.intArith,hw]
theorem Yl.sub (hx:ev L x=some (.int k i)) (hy:ev L y=some (.int k j)) (hw:k.wrap (i - j)=c):Yl P L H w0 bs ⟨d,.binOp .sub T x y T',ty,pos,aft,g⟩ (.int k c):=.of_run λa W f _=>by
 unfold execOp;simp [f x _ hx,f y _ hy,eqGuard,binOp,Op.intArith,hw]
theorem Yl.mul (hx:ev L x=some (.int k i)) (hy:ev L y=some (.int k j)) (hw:k.wrap (i * j)=c):Yl P L H w0 bs ⟨d,.binOp .mul T x y T',ty,pos,aft,g⟩ (.int k c):=.of_run λa W f _=>by
 unfold execOp;simp [f x _ hx,f y _ hy,eqGuard,binOp,Op.intArith,hw]
theorem Yl.conv {k':IntKind} (hx:ev L x=some (.int k i)) (hT:UF P T=some k) (hT':UF P T'=some k') (hw:k'.wrap i=c):Yl P L H w0 bs ⟨d,.convert T T' x,ty,pos,aft,g⟩ (.int k' c):=.of_run λa W f _=>by
 have h1:P.underlying T=some (.int k):=by
  unfold UF at hT;cases hu:P.underlying T with
  | none=>rw [hu] at hT;cases hT
  | some e=>rw [hu] at hT;cases e <;> simp_all
 have h2:P.underlying T'=some (.int k'):=by
  unfold UF at hT';cases hu:P.underlying T' with
  | none=>rw [hu] at hT';cases hT'
  | some e=>rw [hu] at hT';cases e <;> simp_all
 unfold execOp;simp [f x _ hx,convert,underlying,program,Sem.run,h1,h2,Conv.intToInt,hw]
end ints
theorem Yl.not {x:Operand} {T:TypeId} {p:Bool} (hx:ev L x=some (.bool p)):Yl P L H w0 bs ⟨d,.unOp .not T x,ty,pos,aft,g⟩ (.bool (!p)):=.of_run λa W f _=>by
 unfold execOp;simp [f x _ hx,Op.unary]

section mem
variable {x y:Operand} {b off m:Nat} {l:List Value} {T t':TypeId}
theorem EQ {W:World} {vs:List Value} (hW:W.heap[b]? = some (.cells l.toArray t' (0,0))) (hv:∀ j u,vs[j]? = some u->l[off+j]? = some u):(loadCells ⟨b,off,none⟩ vs.length).run P W=.ok vs.toArray W :=
 run_loadCells_list W _ vs λj u e=>by
  rw [Addr.add_lit,YH hW];simpa using hv j u e
theorem Yl.load (hp:ev L x=some (.pointer (some ⟨b,off,none⟩))) (hT:lR P T=some none) (hm:Res.box b l t'∈bs) (hv:l[off]? = some v):Yl P L H w0 bs ⟨d,.load T x,ty,pos,aft,g⟩ v:=.of_run λa W f s=>by
 unfold execOp;simp only [f x _ hp,Instr.loadAt,Instr.sureAddr,loadVar,Sem.run_bind,Sem.run_pure,Result.andThen,uA hT,aB,aS];rw [show (Go.load ⟨b,off,none⟩).run P W=.ok v W from by simp [Go.load,Sem.run,(s.cell hm hv).1]]
theorem Yl.loadS {vs:List Value} (hp:ev L x=some (.pointer (some ⟨b,off,none⟩))) (hT:lR P T=some (some m)) (hm:Res.box b l t'∈bs) (hl:vs.length=m) (hv:∀ j u,vs[j]? = some u->l[off+j]? = some u):Yl P L H w0 bs ⟨d,.load T x,ty,pos,aft,g⟩ (.agg vs.toArray):=.of_run λa W f s=>by
 have hW:W.heap[b]? = some (.cells l.toArray t' (0,0)):=(s.own _ hm).1.2;obtain ⟨h1,h2⟩:=vL (W:=W) hT;subst hl;unfold execOp;simp only [f x _ hp,Instr.loadAt,Instr.sureAddr,loadVar,Sem.run_bind,Sem.run_pure,Result.andThen,h1,h2,aU,EQ hW hv]
theorem Yl.loadW (hp:ev L x=some (.pointer (some ⟨b,0,none⟩))) (hT:lR P T=some (some m)) (hm:Res.box b l t'∈bs) (hl:l.length=m):Yl P L H w0 bs ⟨d,.load T x,ty,pos,aft,g⟩ (.agg l.toArray) :=
 .loadS hp hT hm hl λj u e=>by rw [dT];exact e
theorem Yl.fieldAddr {o i:Nat} (hp:ev L x=some (.pointer (some ⟨b,off,none⟩))) (hF:eN P T i=some o):Yl P L H w0 bs ⟨d,.fieldAddr T x i,ty,pos,aft,g⟩ (.pointer (some ⟨b,off+o,none⟩)):=.of_run λa W f s=>by
 unfold eN at hF;cases hu:P.underlying T with
 | none=>rw [hu] at hF;cases hF
 | some e =>
  rw [hu] at hF;cases e <;> simp only [reduceCtorEq] at hF;rename_i fs;obtain ⟨fl,hf,h2⟩:=dH.1 hF;obtain ⟨z,hz,h3⟩:=dH.1 h2
  split at h3
  ·cases h3
  ·rename_i hz0;obtain rfl:=bH h3;unfold execOp;simp [f x _ hp,Instr.fieldAt,underlying,program,Sem.run,Result.andThen,hu,hf,fieldPlace,Instr.sureAddr,pG hz,hz0,Addr.add_lit]
theorem Yl.indexArr {k:IntKind} {i len z q:Nat} {ii:Int} (hT:PG P T=some (len,z)) (hp:ev L x=some (.pointer (some ⟨b,off,none⟩))) (hi:ev L y=some (.int k ii)) (e:ii=(i:Int)) (h:i<len) (hq:off+i * z=q) :
 Yl P L H w0 bs ⟨d,.indexAddr T x y,ty,pos,aft,g⟩ (.pointer (some ⟨b,q,none⟩)):=.of_run λa W f s=>by
 subst hq e;unfold PG at hT;cases hu:P.underlying T with
 | none=>rw [hu] at hT;cases hT
 | some e =>
  rw [hu] at hT;cases e <;> simp only [reduceCtorEq] at hT;rename_i len' el;obtain ⟨z',hz,h3⟩:=eE.1 hT;obtain ⟨rfl,rfl⟩:=rM h3;unfold execOp;simp [f x _ hp,f y _ hi,Instr.indexAt,asIntOf,underlying,program,Sem.run,Result.andThen,hu,Instr.sureAddr,pG hz,h,Addr.add_lit]
theorem Yl.indexSl {k:IntKind} {i len c z q:Nat} {ii:Int} (hT:slN P T=some z) (hp:ev L x=some (.slice (some ⟨b,off,none⟩) len c)) (hi:ev L y=some (.int k ii)) (e:ii=(i:Int)) (h:i<len) (hq:off+i * z=q) :
 Yl P L H w0 bs ⟨d,.indexAddr T x y,ty,pos,aft,g⟩ (.pointer (some ⟨b,q,none⟩)):=.of_run λa W f s=>by
 subst hq e;unfold slN at hT;cases hu:P.underlying T with
 | none=>rw [hu] at hT;cases hT
 | some e =>
  rw [hu] at hT;cases e <;> simp only [reduceCtorEq] at hT;rename_i el;unfold execOp;simp [f x _ hp,f y _ hi,Instr.indexAt,asIntOf,underlying,program,Sem.run,Result.andThen,hu,pG hT,h,Addr.add_lit]
theorem Yl.lenSl {p:Option Addr} {len c z:Nat} (hT:slN P T=some z) (hp:ev L x=some (.slice p len c)):Yl P L H w0 bs ⟨d,.call ⟨.builtin .len,#[x],#[T]⟩,ty,pos,aft,g⟩ (.int .i64 len):=.of_run λa W f s=>by
 unfold slN at hT;cases hu:P.underlying T with
 | none=>rw [hu] at hT;cases hT
 | some e =>
  rw [hu] at hT;cases e <;> simp only [reduceCtorEq] at hT;unfold execOp;simp [f x _ hp,resolve,invoke,builtin,Builtin.len_,underlying,program,Sem.run,Result.andThen,hu,goInt]
theorem Yl.lenStr {s:ByteArray} (hT:BR P T=true) (hp:ev L x=some (.string s)):Yl P L H w0 bs ⟨d,.call ⟨.builtin .len,#[x],#[T]⟩,ty,pos,aft,g⟩ (.int .i64 s.size):=.of_run λa W f _=>by
 unfold BR at hT;cases hu:P.underlying T with
 | none=>rw [hu] at hT;cases hT
 | some e =>
  rw [hu] at hT;cases e <;> simp only [aB] at hT;unfold execOp;simp [f x _ hp,resolve,invoke,builtin,Builtin.len_,underlying,program,Sem.run,Result.andThen,hu,goInt]
theorem Yl.extract {vs:List Value} {i:Nat} (hx:ev L x=some (.tuple vs.toArray)) (hv:vs[i]? = some v):Yl P L H w0 bs ⟨d,.extract x i,ty,pos,aft,g⟩ v:=.of_run λa W f s=>by
 unfold execOp;simp [f x _ hx,Instr.extract,hv]
end mem

def evs (L:Sl):List Operand->Option (List Value)
 | []=>some []
 | x::r=>(ev L x).bind λv=>(evs L r).map (v::·)
theorem AY {a:Act} (f:∀ x u,ev L x=some u->a.eval x=u):∀ {xs:List Operand} {vs:List Value},evs L xs=some vs->xs.map a.eval=vs
 | [],vs,e=>by cases e;rfl
 | x::r,vs,e=>by
  unfold evs at e;obtain ⟨v,hv,h2⟩:=dH.1 e;obtain ⟨us,hu,rfl⟩:=eE.1 h2;rw [eT,f x v hv,AY f hu]
theorem AG {f:FuncId} {args:Array Value} {W:World} (h:cV P f=true):(callFunc f args).run P W=.ok (.enter f args) W:=by
 unfold cV at h;cases hf:P.funcs[f]? with
 | none=>rw [hf] at h;cases h
 | some fn =>
  rw [hf] at h;simp only [aC,dX] at h;obtain ⟨h1,h2⟩:=h;have h3:fn.body.isNone=false:=by cases e:fn.body <;> simp_all
  unfold callFunc;simp only [program,Sem.run_bind,Sem.run,Result.andThen,hf,h2,h3,aB,aS]
  rfl
theorem JG {f:FuncId} {xs:List Operand} {vs:List Value} {ats:Array TypeId} {a:Act} {W:World} (hc:cV P f=true) (f0:∀ x u,ev L x=some u->a.eval x=u) (hv:evs L xs=some vs) :
 (execOp a.eval ⟨d,.call ⟨.value (.func f),xs.toArray,ats⟩,ty,pos,aft,g⟩).run P W=.ok (.enter f vs.toArray) W:=by
 unfold execOp;have:(#[]:Array Value)=[].toArray:=rfl;simp [resolve,Deferred.ofValue,Act.eval,invoke,AY f0 hv,AG hc]
theorem Yl.call {f:FuncId} {xs:List Operand} {vs:List Value} {ats:Array TypeId} (hf:cV P f=true) (hv:evs L xs=some vs) (hc:∀ W,St H w0 bs W->Calls P f vs.toArray W λe W'=>e=.returned v/\Ext W W') :
 Yl P L H w0 bs ⟨d,.call ⟨.value (.func f),xs.toArray,ats⟩,ty,pos,aft,g⟩ v:=λa W f0 s=>by
 rw [JG hf f0 hv];exact ⟨Z,hc W s⟩

theorem alloc {l:List Value} {T:TypeId} (hz:qK P T=some l) (ht:Nat.blt t n=true) (h:∀ b,At dfs n ((t,.pointer (some ⟨b,0,none⟩))::L) H w0 (.box b l T::bs) K) :
 At dfs n L H w0 bs (one P ops Q ⟨some t,.alloc T,ty,pos,aft,none⟩ K):=by
 intro a W f s;refine oN rfl ?_;obtain ⟨z,h1,h2⟩:=vK (W:=W) hz
 have e:(execOp a.eval ⟨some t,.alloc T,ty,pos,aft,none⟩).run P W=.ok (.value (.pointer (some ⟨W.heap.size,0,none⟩))) (W.alloc (.cells z.cells T)):=by
  unfold execOp;simp [Instr.alloc,Sem.run_bind,Result.andThen,h1,newVar,newRow,newObj,Sem.run]
 unfold Oper.wp;rw [e];have e2:z.cells=l.toArray:=by rw [<-h2]
 rw [e2];exact (h _ _ _ (f.put ht _) (s.alloc l T))
theorem box {x:Operand} {v:Value} {l:List Value} {T:TypeId} (hx:ev L x=some v) (hl:v.cells.toList=l) (ht:Nat.blt t n=true) (h:∀ b,At dfs n ((t,.pointer (some ⟨b,0,none⟩))::L) H w0 (.box b l T::bs) K) :
 At dfs n L H w0 bs (one P ops Q ⟨some t,.box T x,ty,pos,aft,none⟩ K):=by
 intro a W f s;refine oN rfl ?_
 have e:(execOp a.eval ⟨some t,.box T x,ty,pos,aft,none⟩).run P W=.ok (.value (.pointer (some ⟨W.heap.size,0,none⟩))) (W.alloc (.cells v.cells T)):=by
  unfold execOp;simp [Instr.box,f.ev hx,Result.andThen,newVar,newRow,newObj,Sem.run]
 unfold Oper.wp;rw [e];have e2:v.cells=l.toArray:=by rw [<-hl]
 rw [e2];exact (h _ _ _ (f.put ht _) (s.alloc l T))
theorem ZO {x y:Operand} {b off:Nat} {l vs:List Value} {T t':TypeId} {v:Value} {bs':List Res} (hp:ev L x=some (.pointer (some ⟨b,off,none⟩))) (hv:ev L y=some v) (hT:iP P T=some vs.length) (hc:v.cells=vs.toArray) (h1:∀ u∈vs,u.oneCell'=true)
 (hm:Upd bs (.box b l t') (.box b (oI l off vs) t') bs') (ho:off+vs.length<=l.length) (h:At dfs n L H w0 bs' K) :
 At dfs n L H w0 bs (one P ops Q ⟨none,.store T x y,ty,pos,aft,none⟩ K):=by
 intro a W f s;refine oN rfl ?_
 have hcell:∀ j,j<vs.length->W.cell? ⟨b,off+j,none⟩=some l[off+j]! /\ W.frozen? ⟨b,off+j,none⟩=false:=λj hj=>s.cell hm.mem (by
  have:off+j<l.length:=by omega
  simp [this])
 have hs:=run_storeCells_cells (P:=P) b off vs 0 W (λj hj=>by rw [kC,(hcell j hj).1];rfl) (λj hj=>by rw [kC];exact (hcell j hj).2) h1;rw [kC] at hs
 have e:(execOp a.eval ⟨none,.store T x y,ty,pos,aft,none⟩).run P W=.ok .skip (W.setCells b off vs):=by
  unfold execOp;simp only [f.ev hp,f.ev hv,Instr.storeAt,Instr.sureAddr,storeVar,Sem.run_bind,Sem.run_pure,Result.andThen,pG hT,hc,List.size_toArray,ne_eq,not_true,aS,hs]
 unfold Oper.wp;rw [e];exact (h _ _ (f.putNone _) (s.sets vs off l W bs bs' hm))
theorem store {x y:Operand} {b off:Nat} {l l':List Value} {T t':TypeId} {v:Value} {bs':List Res} (hp:ev L x=some (.pointer (some ⟨b,off,none⟩))) (hv:ev L y=some v) (hT:iP P T=some 1) (h1:v.oneCell'=true)
 (hm:Upd bs (.box b l t') (.box b l' t') bs') (ho:off<l.length) (hl:l.set off v=l') (h:At dfs n L H w0 bs' K) :
 At dfs n L H w0 bs (one P ops Q ⟨none,.store T x y,ty,pos,aft,none⟩ K) :=
 ZO (vs:=[v]) hp hv hT (by cases v <;> first | rfl | cases h1) (by simpa using h1) (by simpa only [oI,hl] using hm) ho h
theorem MF {x y:Operand} {b:Nat} {l vs:List Value} {T t':TypeId} {bs':List Res} (hp:ev L x=some (.pointer (some ⟨b,0,none⟩))) (hv:ev L y=some (.agg vs.toArray)) (hT:iP P T=some vs.length) (h1:∀ u∈vs,u.oneCell'=true)
 (hm:Upd bs (.box b l t') (.box b vs t') bs') (ho:l.length=vs.length) (h:At dfs n L H w0 bs' K) :
 At dfs n L H w0 bs (one P ops Q ⟨none,.store T x y,ty,pos,aft,none⟩ K) :=
 ZO (vs:=vs) hp hv hT rfl h1 (by
  have:=IU vs [] l ho;simp only [dB,aQ] at this;rw [this];exact hm) (by omega) h

/-! ### Results -/
def rvF (tmps:Array Value):ResultVar->Sem Value
 | .tmp t=>pure (tmps.getD t undef)
 | .cell a t=>do loadVar t (<-asAddr (tmps.getD a undef))
theorem MH (fn:Func) (tmps:Array Value):results fn tmps=(do let vs <-fn.results.mapM (rvF tmps);pure (if h:vs.size=1 then vs[0] else .tuple vs)):=by
 unfold results
 have:(λ| .tmp t=>(pure (tmps.getD t undef):Sem Value) | .cell a t=>do loadVar t (<-asAddr (tmps.getD a undef)):ResultVar->Sem Value)=rvF tmps:=by
  funext r
  cases r <;> rfl
 exact congrArg (λF:ResultVar->Sem Value=>(do let vs <-fn.results.mapM F;pure (if h:vs.size=1 then vs[0] else .tuple vs):Sem Value)) this
inductive Rv (P:Program) (L:Sl) (bs:List Res):ResultVar->Value->Prop where
 | tmp {t:Tmp} {v:Value}:look L t=some v->Rv P L bs (.tmp t) v
 | cell {s b m:Nat} {T t':TypeId} {l:List Value}:look L s=some (.pointer (some ⟨b,0,none⟩))->lR P T=some (some m)->Res.box b l t'∈bs->l.length=m->Rv P L bs (.cell s T) (.agg l.toArray)
 | one {s b:Nat} {T t':TypeId} {v:Value}:look L s=some (.pointer (some ⟨b,0,none⟩))->lR P T=some none->Res.box b [v] t'∈bs->Rv P L bs (.cell s T) v
theorem Rv.run {r:ResultVar} {v:Value} {a:Act} {W:World} (h:Rv P L bs r v) (f:Fr dfs n L a) (s:St H w0 bs W) :
 (rvF a.tmps r).run P W=.ok v W:=by
 cases h with
 | tmp e=>simp only [rvF,f.slot _ _ e,Sem.run_pure]
 | @cell sl b m T t' l e hT hm hl =>
  subst hl;obtain ⟨h1,h2⟩:=vL (W:=W) hT;have hW:W.heap[b]? = some (.cells l.toArray t' (0,0)):=(s.own _ hm).1.2;have h3:=EQ (P:=P) (off:=0) (vs:=l) hW (λj u e=>by rw [dT];exact e);simp only [rvF,f.slot _ _ e,asAddr,loadVar,Sem.run_bind,Sem.run_pure,Result.andThen,h1,h2,aU,h3]
 | @one sl b T t' v e hT hm =>
  have h3:=(s.cell (off:=0) (v:=v) hm rfl).1;simp only [rvF,f.slot _ _ e,asAddr,loadVar,Sem.run_bind,Sem.run_pure,Result.andThen,uA hT,aB,aS];simp [Go.load,Sem.run,h3]
inductive Rvs (P:Program) (L:Sl) (bs:List Res):List ResultVar->List Value->Prop where
 | nil:Rvs P L bs [] []
 | cons {r:ResultVar} {v:Value} {rs:List ResultVar} {vs:List Value}:Rv P L bs r v->Rvs P L bs rs vs->Rvs P L bs (r::rs) (v::vs)
theorem Rvs.run {rs:List ResultVar} {vs:List Value} {a:Act} {W:World} (h:Rvs P L bs rs vs) (f:Fr dfs n L a) (s:St H w0 bs W) :
 (rs.mapM (rvF a.tmps)).run P W=.ok vs W:=by
 induction h with
 | nil=>simp
 | cons h1 _ ih =>
  have h2:=h1.run f s;rw [yW];simp only [Sem.run_bind,Sem.run_pure,Result.andThen] at *;rw [h2];simp only [ih]
theorem cH0 {fn:Func} {R:Ending->World->Prop} {r:ResultVar} {e:Exit} (he:e=.ret\/e=.normal) (hr:fn.results=#[r]) (hv:Rv P L bs r v) (h:∀ W,St H w0 bs W->R (.returned v) W):At [] n L H w0 bs (bodyPost P fn R e):=by
 intro a W f s;have h2:=(Rvs.cons hv .nil).run f s
 have h3:(results fn a.tmps).run P W=.ok v W:=by
  rw [MH,hr];simp only [rO,sF,Sem.run_bind,h2,Sem.run_pure,Result.andThen]
  rfl
 rcases he with rfl | rfl <;> exact ⟨f.defers,v,h3,h W s⟩
theorem jE {fn:Func} {R:Ending->World->Prop} {rs:List ResultVar} {vs:List Value} {e:Exit} (he:e=.ret\/e=.normal) (hr:fn.results=rs.toArray) (hv:Rvs P L bs rs vs) (h1:Nat.beq vs.length 1=false) (h:∀ W,St H w0 bs W->R (.returned (.tuple vs.toArray)) W):At [] n L H w0 bs (bodyPost P fn R e):=by
 intro a W f s;have h2:=hv.run f s;have h4:¬ vs.length=1:=λe=>by rw [e] at h1;cases h1
 have h3:(results fn a.tmps).run P W=.ok (.tuple vs.toArray) W:=by
  rw [MH,hr];simp only [rO,sF,Sem.run_bind,h2,Sem.run_pure,Result.andThen];simp [h4]
 rcases he with rfl | rfl <;> exact ⟨f.defers,_,h3,h W s⟩
end
section
variable {dfs:List Deferred} {P:Program} {n:Nat} {L:Sl} {H:Hp} {w0:World} {bs:List Res} {Q:Exit->Act->World->Prop} {ops:Array Oper}
variable {d:Option Tmp} {ty:TypeId} {pos:String} {aft:Array Edge} {g:Option (Nat × Bool)} {v:Value} {t:Tmp} {op:Op}

/-! ### Every order -/
def bL3 (G:Nat->Prop):List Nat->Prop
 | []=>True
 | i::r=>G i/\bL3 G r
theorem bL3.at {G:Nat->Prop}:∀ {l:List Nat},bL3 G l->∀ i∈l,G i
 | _::_,h,i,hi=>by
  rcases bP.1 hi with rfl | hi
  ·exact h.1
  ·exact h.2.at i hi
theorem cE8 {listed:Array Bool} (hr:Region.ready .any ops listed=[]) (h:At dfs n L H w0 bs (Q .normal)):At dfs n L H w0 bs (wpAny P .any ops Q 0 listed) :=
 λa W f s=>⟨hr,h a W f s⟩

/-! ### The head in whatever order, the tail behind it -/
def AtR (dfs:List Deferred) (n:Nat) (L:Sl) (H:Hp) (w0:World) (bs:List Res) (P:Program) (ops:Array Oper) (nn:Nat) (fl:List Nat) (Q:Exit->Act->World->Prop) (k:Nat) (l:List Oper):Prop :=
 ∀ a W,Fr dfs n L a->St H w0 bs W->VJ P ops W nn fl (Fin P ops W nn Q) k l [] a
variable {nn k:Nat} {fl:List Nat} {rest:List Oper}
theorem par {id:Nat} {l hd:List Oper} (nn:Nat) (fl:List Nat) (hm:P.follows .mixedOrders=true) (hB:ZY l.toArray nn fl=true) (hh:l.take nn=hd)
 (hQ:∀ c (a:Act) (t:Tmp) v w,Q (.panic c) (a.put (some t) v) w->Q (.panic c) a w) (h:AtR dfs n L H w0 bs P l.toArray nn fl Q 0 hd):At dfs n L H w0 bs ((Code.region id l.toArray true).wp P Q):=by
 subst hh;exact λa W f s=>Go.Par.region nn fl hm hB hQ (h a W f s)
theorem VI {a:Act} {j:Nat} {b:Bool} {u:Tmp} (f:Fr dfs n L a) (hd:(ops[j]?).bind (·.dst)=some u) (hs:look L u=some (.bool b)):yielded ops a.tmps j=some b:=by
 have:=f.slot u _ hs;unfold yielded;rw [hd];simp only [iY];rw [Al_Array_getD_eq_getD_getElem?] at this;cases e:a.tmps[u]? with
 | none=>rw [e] at this;simp [undef] at this
 | some x=>rw [e] at this;simp at this;subst this;rfl
theorem bK7 {X:Type} {L':X->Sl} {H':X->Hp} {bs':X->List Res} {C:X->Prop} {μ:X->Nat} {x:X} (y:X) (hC:C y/\μ y<μ x) (hL:Sub L (L' y)) (hB:∀ W,St H w0 bs W->St (H' y) w0 (bs' y) W) :
 At dfs n L H w0 bs (λa W=>∃ y,(C y/\μ y<μ x)/\Fr dfs n (L' y) a/\St (H' y) w0 (bs' y) W):=λ_ W f s=>⟨y,hC,f.sub hL,hB W s⟩
theorem St.drop {x:Res} {W:World} (h:St H w0 (x::bs) W):St H w0 bs W :=
 ⟨h.ext,h.agr,λy hy=>h.own y (.tail _ hy),(jX.1 h.apart).2,h.lo⟩
theorem cN5 {X:Type} {x y:Code} (L':X->Sl) (H':X->Hp) (bs':X->List Res) (C:X->Prop) (h:At dfs n L H w0 bs (x.wp P (Exit.then (λa W=>∃ z,C z/\Fr dfs n (L' z) a/\St (H' z) w0 (bs' z) W) Q)))
 (k:∀ z,C z->At dfs n (L' z) (H' z) w0 (bs' z) (y.wp P Q)):At dfs n L H w0 bs ((Code.seq x y).wp P Q) :=
 cut _ h λa W ⟨z,hz,f,s⟩=>k z hz a W f s
end
def AH (P:Program) (T:TypeId):Option (TypeId × Nat × Nat) :=
 match P.underlying T with
 | some (.slice e)=>(P.info? e).bind λi=>i.zero.bind λz=>if z.cells.size=i.size/\0<i.size then some (e,i.size,i.bytes) else none
 | _=>none
def cO1 (P:Program) (t:TypeId):Bool:=match P.underlying t with | some (.struct _)=>true | some (.array _ _)=>true | _=>false
section
variable {dfs:List Deferred} {P:Program} {n:Nat} {L:Sl} {H:Hp} {w0:World} {bs:List Res} {Q:Exit->Act->World->Prop} {ops:Array Oper} {K:Act->World->Prop}
variable {d:Option Tmp} {ty:TypeId} {pos:String} {aft:Array Edge} {g:Option (Nat × Bool)} {v:Value} {t:Tmp} {op:Op} {x y:Operand} {T T':TypeId}
theorem DH {e:TypeId} {size bytes:Nat} (h:AH P T=some (e,size,bytes)):P.underlying T=some (.slice e)/\∃ i z,P.info? e=some i/\i.zero=some z/\i.size=size/\i.bytes=bytes/\z.cells.size=size/\0<size:=by
 unfold AH at h;cases hu:P.underlying T with
 | none=>rw [hu] at h;cases h
 | some q =>
  rw [hu] at h;cases q <;> simp only [reduceCtorEq] at h;obtain ⟨i,hi,h2⟩:=dH.1 h;obtain ⟨z,hz,h3⟩:=dH.1 h2
  split at h3
  ·rename_i hc;obtain ⟨rfl,h4⟩:=rM (bH h3);obtain ⟨rfl,rfl⟩:=rM h4;exact ⟨Z,i,z,hi,hz,Z,Z,hc.1,hc.2⟩
  ·cases h3
inductive Src (H:Hp) (bs:List Res) (b off:Nat) (news:List Value):Prop where
 | box {l:List Value} {t:TypeId}:Res.box b l t∈bs->(∀ j u,news[j]? = some u->l[off+j]? = some u)->Src H bs b off news
 | mem {cs:Array Value} {t:TypeId} {m:Nat × Nat}:H b=some (.cells cs t m)->(∀ j u,news[j]? = some u->cs[off+j]? = some u)->Src H bs b off news
 | row {e:TypeId} {cap n:Nat} {xs:List Value}:Res.row e 1 (.slice (some ⟨b,0,none⟩) n cap) n xs∈bs->(∀ j u,news[j]? = some u->xs[off+j]? = some u)->Src H bs b off news
theorem Src.cell {b off:Nat} {news:List Value} {W:World} (h:Src H bs b off news) (s:St H w0 bs W):∀ j u,news[j]? = some u->W.cell? ((⟨b,off,none⟩:Addr).add j)=some u:=by
 intro j u e;rw [Addr.add_lit];cases h with
 | box hm hv=>exact (s.cell hm (hv j u e)).1
 | mem hm hv=>exact s.agr.cell hm (hv j u e)
 | row hm hv =>
  have h1:=(s.own _ hm).1;have h2:=World.ownsRow.cells h1 (g:=b) rfl (off+j) u (hv j u e)
  rwa [Addr.add_lit,dT] at h2
theorem row0 {G:Act->World->Prop} (e:TypeId) (size:Nat) (h:At dfs n L H w0 (.row e size (.slice none 0 0) 0 []::bs) G):At dfs n L H w0 bs G:=λa W f s =>
 h a W f ⟨s.ext,s.agr,λz hz=>by
  rcases bP.1 hz with rfl | hz
  ·exact ⟨World.ownsRow_nil _ _ _ _,λb e=>by cases e⟩
  ·exact s.own z hz,.cons (λz _ b e=>by cases e) s.apart,s.lo⟩
theorem append {e:TypeId} {size bytes m c k b off:Nat} {r:Value} {xs news:List Value} {bs':Value->List Res} (hT:AH P T=some (e,size,bytes)) (hx:ev L x=some r) (hm:∀ r',Upd bs (.row e size r k xs) (.row e size r' (k+m) (xs++news)) (bs' r'))
 (hy:ev L y=some (.slice (some ⟨b,off,none⟩) m c)) (hs:Src H bs b off news) (hl:news.length=m * size) (h1:∀ u∈news,u.oneCell'=true) (h63:k+m<=maxLen) (hb:(k+m) * bytes<=140737488355328) (ht:Nat.blt t n=true)
 (h:∀ r',(r'=.slice none 0 0↔r=.slice none 0 0/\m=0)->At dfs n ((t,r')::L) H w0 (bs' r') K):At dfs n L H w0 bs (one P ops Q ⟨some t,.call ⟨.builtin .append,#[x,y],#[T,T]⟩,ty,pos,aft,none⟩ K):=by
 obtain ⟨hu,i,z,hi,hz,hsz,hby,hzs,h0⟩:=DH hT;intro a W f s;have hown:W.ownsRow w0.heap.size e size r k xs:=(s.own _ (hm r).mem).1;obtain ⟨v',W',hr,ho,hg,hnil⟩:=run_append_own (P:=P) W w0.heap.size T ty e i z size bytes hu hi hz hsz hby hzs h0 r k xs hown ⟨b,off,none⟩ m c news hl (hs.cell s) h1 h63 hb s.ext.size
 have hblk:∀ q,v'.ownBlock=some q->r.ownBlock=some q\/W.heap.size<=q:=by
  subst hsz hby;have h64:k+m<=9223372036854775807:=by simp only [maxLen] at h63;omega
  rcases hown.2 with ⟨rfl,rfl⟩ | ⟨g,cap,cur,rfl,hbg,hgc,hnc,hcm,hcs,htake⟩
  ·intro q hq
   by_cases hm0:m=0
   ·rw [hnil.2 ⟨Z,hm0⟩] at hq;cases hq
   ·have h2:=run_append_nil (P:=P) W T ty e i z hu hi hz ⟨b,off,none⟩ m c news hl (hs.cell s) (by omega) (by omega) (by rw [dT] at hb;omega);rw [h2] at hr;injection hr with e1 e2
    rw [<-e1] at hq
    right
    have:=bH hq;simp at this;omega
  ·intro q hq
   by_cases hroom:k+m<=cap
   ·have hfit:k * i.size+news.length<=cur.size:=by rw [hl,hcs,<-uL];exact oT _ hroom
    have h2:=run_append_room (P:=P) W T ty e i hu hi g k cap cur hgc ⟨b,off,none⟩ m c news hl (hs.cell s) h1 hroom hfit;rw [h2] at hr;injection hr with e1 e2
    rw [<-e1] at hq;exact .inl hq
   ·have h2:=run_append_grow (P:=P) W T ty e i z hu hi hz ⟨g,0,none⟩ k cap xs hown.1 (World.ownsRow.cells hown (g:=g) rfl) ⟨b,off,none⟩ m c news hl (hs.cell s) (by omega) (by omega) (growslice_fits (by omega) hb);rw [h2] at hr;injection hr with e1 e2
    rw [<-e1] at hq
    right
    have:=bH hq;simp at this;omega
 refine oN rfl ?_;unfold Oper.wp execOp;simp only [resolve,invoke,builtin,Sem.run_bind,Sem.run_pure,Result.andThen_ok,kT,eT,wJ,f.ev hx,f.ev hy,hr];refine h v' hnil _ _ (f.put ht _) ?_;have hlt:∀ q,r.ownBlock=some q->w0.heap.size<=q:=λq hq=>(World.ownsRow.lt hown q hq).1;refine s.upd (hm v') ?_ hg.size (λq hq hn=>hg.block q hq (λe=>hn e.symm)) ho hblk;refine Ext.of_below ⟨hg.os.trans s.ext.below.os,hg.tape.trans s.ext.below.tape,hg.output.trans s.ext.below.output,aV s.ext.below.size hg.size,λq hq=>?_⟩;rw [hg.block q (dR hq s.ext.size) (λe=>by have:=hlt q e.symm;omega)];exact s.ext.below.block q hq

/-! ### Cuts -/
theorem aR6 {len z:Nat} (h:PG P T=some (len,z)):∃ el,P.underlying T=some (.array len el)/\iP P el=some z:=by
 unfold PG at h;cases hu:P.underlying T with
 | none=>rw [hu] at h;cases h
 | some q =>
  rw [hu] at h;cases q <;> simp only [reduceCtorEq] at h;obtain ⟨z',hz,h3⟩:=eE.1 h;obtain ⟨rfl,rfl⟩:=rM h3;exact ⟨_,Z,hz⟩
theorem aY9 {z:Nat} (h:slN P T=some z):∃ el,P.underlying T=some (.slice el)/\iP P el=some z:=by
 unfold slN at h;cases hu:P.underlying T with
 | none=>rw [hu] at h;cases h
 | some q=>rw [hu] at h;cases q <;> simp only [reduceCtorEq] at h;exact ⟨_,Z,h⟩
theorem Yl.cutHi {p:Option Addr} {len c z h:Nat} {k:IntKind} {i:Int} (hT:slN P T=some z) (hx:ev L x=some (.slice p len c)) (hy:ev L y=some (.int k i)) (e:i=(h:Int)) (hh:h<=c) (hp:∀ q,p=some q->q.spot=none) :
 Yl P L H w0 bs ⟨d,.slice T x none (some y) none,ty,pos,aft,g⟩ (.slice p h c):=.of_run λa W f _=>by
 subst e;obtain ⟨el,hu,hz⟩:=aY9 hT
 have hadd:p.map (λq=>q.add (0 * z))=p:=by
  cases p with
  | none=>rfl
  | some q =>
   obtain ⟨qb,qo,qs⟩:=q;have:=hp _ rfl;simp only at this;subst this;simp [Addr.add_lit]
 unfold execOp;simp only [pV] at hadd;simp [f x _ hx,f y _ hy,Instr.sliceAt,Instr.slice,underlying,program,Sem.run,Result.andThen,hu,Instr.sliceBounds,Instr.sliceBound,asIntOf,hh,pG hz,hadd]

/-! ### Strings and truths -/
theorem Yl.eqlS {p q:ByteArray} (hx:ev L x=some (.string p)) (hy:ev L y=some (.string q)):Yl P L H w0 bs ⟨d,.binOp .eql T x y T',ty,pos,aft,g⟩ (.bool (decide (p=q))):=.of_run λa W f _=>by
 have:(p.toList == q.toList)=decide (p=q):=by
  rw [aX];simp only [dM,aA]
  constructor
  ·intro h;have h2:p.data.toList=q.data.toList:=by simpa [ByteArray.toList_eq] using h
   exact rZ (sH.1 h2)
  ·intro h;rw [h]
 unfold execOp;simp [f x _ hx,f y _ hy,eqGuard,binOp,Op.stringOp,this]
theorem Yl.addS {p q r:ByteArray} (hx:ev L x=some (.string p)) (hy:ev L y=some (.string q)) (hs:p.size+q.size<=9223372036854775807) (hr:p++q=r):Yl P L H w0 bs ⟨d,.binOp .add T x y T',ty,pos,aft,g⟩ (.string r):=.of_run λa W f _=>by
 subst hr
 have h1:¬ (((p.size+q.size:Nat):Int) > IntKind.i64.max):=by
  simp [IntKind.max,IntKind.signed,IntKind.bits];omega
 unfold execOp;simp only [f x _ hx,f y _ hy,eqGuard,binOp,Op.stringOp];rw [aD h1];simp

/-! ### Values made of parts -/
def LC (P:Program):List Field->Option (List (Nat × Nat))
 | []=>some []
 | f::r=>(iP P f.type).bind λz=>(LC P r).map ((f.offset,z)::·)
def fK (P:Program) (T:TypeId) (pv:List (Nat × Value)):Option (List Value) :=
 match P.underlying T with
 | some (.struct fs)=>(qK P T).bind λz=>(LC P fs.toList).bind λpl=>(Instr.fill (pl.toArray[·]?) z.toArray pv).map Array.toList
 | some (.array _ e)=>(qK P T).bind λz=>(iP P e).bind λq=>(Instr.fill (λi=>some (i * q,q)) z.toArray pv).map Array.toList
 | _=>none
theorem MG {W:World}:∀ {l:List Field} {pl:List (Nat × Nat)},LC P l=some pl->(l.mapM λ(f:Field)=>do pure (f.offset,<-Go.sizeOf f.type)).run P W=.ok pl W
 | [],pl,h=>by cases h;simp
 | f::r,pl,h=>by
  unfold LC at h;obtain ⟨z,hz,h2⟩:=dH.1 h;obtain ⟨pr,hp,rfl⟩:=eE.1 h2;have ih:=MG (W:=W) hp;rw [yW];simp only [Sem.run_bind,pG hz,Sem.run_pure,Result.andThen,ih]
def evp (L:Sl):List (Nat × Operand)->Option (List (Nat × Value))
 | []=>some []
 | (i,x)::r=>(ev L x).bind λv=>(evp L r).map ((i,v)::·)
theorem UR {a:Act} (f:∀ x u,ev L x=some u->a.eval x=u):∀ {xs:List (Nat × Operand)} {vs:List (Nat × Value)},evp L xs=some vs->xs.map (λ(i,x)=>(i,a.eval x))=vs
 | [],vs,e=>by cases e;rfl
 | (i,x)::r,vs,e=>by
  unfold evp at e;obtain ⟨v,hv,h2⟩:=dH.1 e;obtain ⟨us,hu,rfl⟩:=eE.1 h2;rw [eT,UR f hu];show (i,a.eval x)::us=_;rw [f x v hv]
theorem Yl.build {ps:List (Nat × Operand)} {pv:List (Nat × Value)} {l:List Value} (hv:evp L ps=some pv) (hb:fK P T pv=some l):Yl P L H w0 bs ⟨d,.build T ps.toArray,ty,pos,aft,g⟩ (.agg l.toArray):=.of_run λa W f _=>by
 have hm:=UR f hv;unfold fK at hb;unfold execOp;simp only [kT,hm,Instr.build,Sem.run_bind];cases hu:P.underlying T with
 | none=>rw [hu] at hb;cases hb
 | some q =>
  rw [hu] at hb;have hus:(underlying T).run P W=.ok q W:=by simp [underlying,program,Sem.run,hu]
  cases q <;> simp only [reduceCtorEq] at hb
  case array len el =>
   obtain ⟨z,hz,h2⟩:=dH.1 hb;obtain ⟨s,hs,h3⟩:=dH.1 h2;obtain ⟨cs,hc,rfl⟩:=eE.1 h3;obtain ⟨zv,h4,h5⟩:=vK (W:=W) hz;have h6:zv.cells=z.toArray:=by rw [<-h5]
   simp [h4,hus,Result.andThen,pG hs,h6,hc]
  case struct fs =>
   obtain ⟨z,hz,h2⟩:=dH.1 hb;obtain ⟨s,hs,h3⟩:=dH.1 h2;obtain ⟨cs,hc,rfl⟩:=eE.1 h3;obtain ⟨zv,h4,h5⟩:=vK (W:=W) hz;have h6:zv.cells=z.toArray:=by rw [<-h5]
   have h7:=MG (W:=W) hs
   have h8:(fs.mapM λ(f:Field)=>do pure (f.offset,<-Go.sizeOf f.type)).run P W=.ok s.toArray W:=by
    have:fs=fs.toList.toArray:=rfl;rw [this,rO];simp only [sF,Sem.run_bind,h7,Result.andThen,Sem.run_pure]
   simp only [h4,hus,Result.andThen,Sem.run_bind,h8,h6,hc,Sem.run_pure]
def uO (P:Program) (T:TypeId) (len:Nat) (pv:List (Nat × Value)):Option (TypeId × List Value) :=
 match P.underlying T with
 | some (.slice e)=>(iP P e).bind λz=>if len * z > 2 ^ 24 then none else (qK P e).bind λq =>
  (Instr.fill (λi=>some (i * z,z)) ((Array.range (len * z)).map ((if len * z=0 then #[] else q.toArray)[· % (if len * z=0 then #[] else q.toArray).size]!)) pv).map λc=>(e,c.toList)
 | _=>none
theorem buildSlice {ps:List (Nat × Operand)} {pv:List (Nat × Value)} {len:Nat} {e:TypeId} {l:List Value} (hv:evp L ps=some pv) (hb:uO P T len pv=some (e,l)) (ht:Nat.blt t n=true)
 (h:∀ b,At dfs n ((t,.slice (some ⟨b,0,none⟩) len len)::L) H w0 (.box b l e::bs) K):At dfs n L H w0 bs (one P ops Q ⟨some t,.buildSlice T len ps.toArray,ty,pos,aft,none⟩ K):=by
 intro a W f s;refine oN rfl ?_;have hm:=UR (λx u e=>f.ev e) hv;unfold uO at hb;cases hu:P.underlying T with
 | none=>rw [hu] at hb;cases hb
 | some q =>
  rw [hu] at hb;have hus:(underlying T).run P W=.ok q W:=by simp [underlying,program,Sem.run,hu]
  cases q <;> simp only [reduceCtorEq] at hb;rename_i el;obtain ⟨z,hz,h2⟩:=dH.1 hb
  split at h2
  ·cases h2
  ·rename_i hbig;obtain ⟨zl,hzl,h3⟩:=dH.1 h2;obtain ⟨cs,hc,h4⟩:=eE.1 h3;obtain ⟨rfl,rfl⟩:=rM h4;obtain ⟨zv,h5,h6⟩:=vK (W:=W) hzl;have h7:zv.cells=zl.toArray:=by rw [<-h6]
   have e1:(execOp a.eval ⟨some t,.buildSlice T len ps.toArray,ty,pos,aft,none⟩).run P W=.ok (.value (.slice (some ⟨W.heap.size,0,none⟩) len len)) (W.alloc (.cells cs el)):=by
    unfold execOp;simp only [kT,hm,Instr.buildSlice,Sem.run_bind,hus,Result.andThen,pG hz];rw [aD hbig]
    by_cases h0:len * z=0
    ·simp only [h0,aU] at hc|-;simp only [Sem.run_bind,Sem.run_pure,Result.andThen,hc]
     rfl
    ·simp only [h0,aS] at hc|-;simp only [Sem.run_bind,Sem.run_pure,Result.andThen,h5,h7,hc]
     rfl
   unfold Oper.wp;rw [e1];have e2:cs=cs.toList.toArray:=rfl;rw [e2];exact h _ _ _ (f.put ht _) (s.alloc cs.toList _)
end
section
variable {dfs:List Deferred} {P:Program} {n:Nat} {L:Sl} {H:Hp} {w0:World} {bs:List Res} {Q:Exit->Act->World->Prop} {ops:Array Oper} {K:Act->World->Prop}
variable {d:Option Tmp} {ty:TypeId} {pos:String} {aft:Array Edge} {g:Option (Nat × Bool)} {v:Value} {t:Tmp} {op:Op} {x y z:Operand} {T T':TypeId}
theorem bJ4 {X:Type} {f:FuncId} {xs:List Operand} {vs:List Value} {ats:Array TypeId} {C:X->Prop} {val:X->Value} {H':X->Hp} {bs':X->List Res} (hf:cV P f=true) (hv:evs L xs=some vs)
 (hc:∀ W,St H w0 bs W->Calls P f vs.toArray W λe W'=>∃ x,C x/\e=.returned (val x)/\St (H' x) w0 (bs' x) W') (ht:Nat.blt t n=true)
 (h:∀ x,C x->At dfs n ((t,val x)::L) (H' x) w0 (bs' x) K) :
 At dfs n L H w0 bs (one P ops Q ⟨some t,.call ⟨.value (.func f),xs.toArray,ats⟩,ty,pos,aft,none⟩ K):=by
 intro a W f0 s;refine oN rfl ?_;unfold Oper.wp;rw [JG hf (λx u e=>f0.ev e) hv];refine (hc W s).mono ?_;rintro e W' ⟨x,hx,rfl,hs⟩;exact h x hx _ _ (f0.put ht _) hs
theorem AN (h:BR P T=true):P.underlying T=some .string:=by
 unfold BR at h;cases hu:P.underlying T with
 | none=>rw [hu] at h;cases h
 | some q=>rw [hu] at h;cases q <;> simp_all
def ET (b:UInt8):Value:=.int .u8 (b.toNat:Int)
theorem Yl.cutStr {s:ByteArray} {k k':IntKind} {i j:Int} {lo hi:Nat} (hT:BR P T=true) (hx:ev L x=some (.string s)) (hy:ev L y=some (.int k i)) (hz:ev L z=some (.int k' j)) (e1:i=(lo:Int)) (e2:j=(hi:Int)) (h1:lo<=hi) (h2:hi<=s.size) :
 Yl P L H w0 bs ⟨d,.slice T x (some y) (some z) none,ty,pos,aft,g⟩ (.string (s.extract lo hi)):=.of_run λa W f _=>by
 subst e1 e2;have hu:=AN hT;unfold execOp;simp [f x _ hx,f y _ hy,f z _ hz,Instr.sliceAt,Instr.slice,underlying,program,Sem.run,Result.andThen,hu,Instr.sliceBounds,Instr.sliceBound,asIntOf,h1,h2]
theorem Yl.cutStrHi {s:ByteArray} {k':IntKind} {j:Int} {hi:Nat} (hT:BR P T=true) (hx:ev L x=some (.string s)) (hz:ev L z=some (.int k' j)) (e2:j=(hi:Int)) (h2:hi<=s.size) :
 Yl P L H w0 bs ⟨d,.slice T x none (some z) none,ty,pos,aft,g⟩ (.string (s.extract 0 hi)):=.of_run λa W f _=>by
 subst e2;have hu:=AN hT;unfold execOp;simp [f x _ hx,f z _ hz,Instr.sliceAt,Instr.slice,underlying,program,Sem.run,Result.andThen,hu,Instr.sliceBounds,Instr.sliceBound,asIntOf,h2]
theorem Yl.neqS {p q:ByteArray} (hx:ev L x=some (.string p)) (hy:ev L y=some (.string q)):Yl P L H w0 bs ⟨d,.binOp .neq T x y T',ty,pos,aft,g⟩ (.bool (decide (¬ p=q))):=.of_run λa W f _=>by
 have:(!(p.toList == q.toList))=decide (¬ p=q):=by
  rw [aX];simp only [dX,beq_eq_false_iff_ne,aA,ne_eq]
  constructor
  ·intro h h';exact h (by rw [h'])
  ·intro h h';have h2:p.data.toList=q.data.toList:=by simpa [ByteArray.toList_eq] using h'
   exact h (rZ (sH.1 h2))
 unfold execOp;simp only [f x _ hx,f y _ hy,eqGuard,binOp,Op.stringOp,this];simp
end
section
variable {dfs:List Deferred} {P:Program} {n:Nat} {L:Sl} {H:Hp} {w0:World} {bs:List Res} {Q:Exit->Act->World->Prop} {ops:Array Oper} {K:Act->World->Prop}
variable {d:Option Tmp} {ty:TypeId} {pos:String} {aft:Array Edge} {g:Option (Nat × Bool)} {v:Value} {t:Tmp} {op:Op} {x y z:Operand} {T T':TypeId}
theorem fN {f:FuncId} {fn:Func} {c:Code} {args:List Value} {W:World} {R:Ending->World->Prop} (hf:P.funcs[f]? = some fn) (hb:fn.body=some c) (hn:fn.ntmps=n) (hl:Nat.ble args.length n=true) (s:St H w0 bs W)
 (h:At [] n (KB 0 args) H w0 bs (c.wp P (bodyPost P fn R))):Calls P f args.toArray W R:=by
 refine calls_of_wp hf hb (h _ _ ⟨?_,Z,?_⟩ s)
 ·have:args.length<=n:=lJ hl;simp [hn];omega
 ·intro t v e;obtain ⟨_,h2⟩:=HB args 0 t v e;rw [wI] at h2;have hlt:t<args.length:=(List.getElem?_eq_some_iff.1 h2).1;rw [Al_Array_getD_eq_getD_getElem?];rw [Array.getElem?_append_left (by simpa using hlt)];simp [h2]
section ints
variable {k k':IntKind} {i j c:Int}
theorem Yl.quo (hx:ev L x=some (.int k i)) (hy:ev L y=some (.int k j)) (h0:j≠0) (hw:k.wrap (i.tdiv j)=c):Yl P L H w0 bs ⟨d,.binOp .quo T x y T',ty,pos,aft,g⟩ (.int k c):=.of_run λa W f _=>by
 unfold execOp;simp [f x _ hx,f y _ hy,eqGuard,binOp,Op.intDiv,hw,h0]
end ints
theorem Src.at {b off j:Nat} {news:List Value} {u:Value} (h:Src H bs b off news) (hj:news[j]? = some u):Src H bs b (off+j) [u]:=by
 have key:∀ {i:Nat} {w:Value},[u][i]? = some w->news[j+i]? = some w:=λ{i w} e=>by
  cases i with
  | zero=>simp at e;subst e;simpa using hj
  | succ i=>simp at e
 cases h with
 | box hm hv=>exact .box hm λi w e=>by rw [dQ];exact hv _ _ (key e)
 | mem hm hv=>exact .mem hm λi w e=>by rw [dQ];exact hv _ _ (key e)
 | row hm hv=>exact .row hm λi w e=>by rw [dQ];exact hv _ _ (key e)
theorem Src.drop {b off:Nat} {news:List Value} (h:Src H bs b off news) (j:Nat):Src H bs b (off+j) (news.drop j):=by
 have key:∀ {i:Nat} {w:Value},(news.drop j)[i]? = some w->news[j+i]? = some w:=λ{i w} e=>by rwa [List.getElem?_drop] at e
 cases h with
 | box hm hv=>exact .box hm λi w e=>by rw [dQ];exact hv _ _ (key e)
 | mem hm hv=>exact .mem hm λi w e=>by rw [dQ];exact hv _ _ (key e)
 | row hm hv=>exact .row hm λi w e=>by rw [dQ];exact hv _ _ (key e)
theorem Src.take {b off:Nat} {news:List Value} (h:Src H bs b off news) (j:Nat):Src H bs b off (news.take j):=by
 have key:∀ {i:Nat} {w:Value},(news.take j)[i]? = some w->news[i]? = some w:=λ{i w} e=>by
  have hi:i<j:=by
   have:=(List.getElem?_eq_some_iff.1 e).1;rw [dV] at this;omega
  rwa [List.getElem?_take_of_lt hi] at e
 cases h with
 | box hm hv=>exact .box hm λi w e=>hv _ _ (key e)
 | mem hm hv=>exact .mem hm λi w e=>hv _ _ (key e)
 | row hm hv=>exact .row hm λi w e=>hv _ _ (key e)
theorem reSt {H':Hp} {bs':List Res} {G:Act->World->Prop} (hB:∀ W,St H w0 bs W->St H' w0 bs' W) (h:At dfs n L H' w0 bs' G):At dfs n L H w0 bs G:=λa W f s=>h a W f (hB W s)
theorem rowCase {e:TypeId} {size k:Nat} {r:Value} {xs:List Value} {G:Act->World->Prop} (hm:Res.row e size r k xs∈bs) (hk:0<k) (h:∀ b c,r=.slice (some ⟨b,0,none⟩) k c->k<=c->At dfs n L H w0 bs G):At dfs n L H w0 bs G:=λa W f s=>by
 have ho:W.ownsRow w0.heap.size e size r k xs:=(s.own _ hm).1;rcases ho.2 with ⟨_,h0⟩ | ⟨g,cap,cur,hr,_,_,hn,_⟩
 ·omega
 ·exact h g cap hr hn a W f s
theorem JY {a:Act} {j:Nat} {u:Tmp} (f:Fr dfs n L a) (hd:(ops[j]?).bind (·.dst)=some u) (hs:look L u=some undef):yielded ops a.tmps j=none:=by
 have:=f.slot u _ hs;unfold yielded;rw [hd];simp only [iY];rw [Al_Array_getD_eq_getD_getElem?] at this;cases e:a.tmps[u]? with
 | none=>rfl
 | some x=>rw [e] at this;simp at this;subst this;rfl
theorem cC1 {j:Nat} {b:Bool} {u:Tmp} (hd:(ops[j]?).bind (·.dst)=some u) (hs:look L u=some undef) (ht:Nat.blt t n=true) (h:At dfs n ((t,undef)::L) H w0 bs K) :
 At dfs n L H w0 bs (one P ops Q ⟨some t,op,ty,pos,aft,some (j,b)⟩ K):=by
 intro a W f s;unfold one;rw [aD (by simp [Region.wanted,JY f hd hs])];exact h _ _ (f.put ht _) s
end
section
variable {dfs:List Deferred} {P:Program} {n:Nat} {L:Sl} {H:Hp} {w0:World} {bs:List Res} {Q:Exit->Act->World->Prop} {ops:Array Oper} {K:Act->World->Prop}
variable {d:Option Tmp} {ty:TypeId} {pos:String} {aft:Array Edge} {g:Option (Nat × Bool)} {v:Value} {t:Tmp} {op:Op} {x y z:Operand} {T T':TypeId}
theorem aK9 {e:TypeId} {size bytes m c k:Nat} {A:Addr} {r:Value} {xs news:List Value} {bs':Value->List Res} (hT:AH P T=some (e,size,bytes)) (hx:ev L x=some r) (hm:∀ r',Upd bs (.row e size r k xs) (.row e size r' (k+m) (xs++news)) (bs' r'))
 (hy:ev L y=some (.slice (some A) m c)) (hs:∀ W,St H w0 bs W->∀ j u,news[j]? = some u->W.cell? (A.add j)=some u) (hl:news.length=m * size) (h1:∀ u∈news,u.oneCell'=true) (h63:k+m<=maxLen) (hb:(k+m) * bytes<=140737488355328) (ht:Nat.blt t n=true)
 (h:∀ r',(r'=.slice none 0 0↔r=.slice none 0 0/\m=0)->At dfs n ((t,r')::L) H w0 (bs' r') K):At dfs n L H w0 bs (one P ops Q ⟨some t,.call ⟨.builtin .append,#[x,y],#[T,T]⟩,ty,pos,aft,none⟩ K):=by
 obtain ⟨hu,i,z,hi,hz,hsz,hby,hzs,h0⟩:=DH hT;intro a W f s;have hown:W.ownsRow w0.heap.size e size r k xs:=(s.own _ (hm r).mem).1;obtain ⟨v',W',hr,ho,hg,hnil⟩:=run_append_own (P:=P) W w0.heap.size T ty e i z size bytes hu hi hz hsz hby hzs h0 r k xs hown A m c news hl (hs W s) h1 h63 hb s.ext.size
 have hblk:∀ q,v'.ownBlock=some q->r.ownBlock=some q\/W.heap.size<=q:=by
  subst hsz hby;have h64:k+m<=9223372036854775807:=by simp only [maxLen] at h63;omega
  rcases hown.2 with ⟨rfl,rfl⟩ | ⟨g,cap,cur,rfl,hbg,hgc,hnc,hcm,hcs,htake⟩
  ·intro q hq
   by_cases hm0:m=0
   ·rw [hnil.2 ⟨Z,hm0⟩] at hq;cases hq
   ·have h2:=run_append_nil (P:=P) W T ty e i z hu hi hz A m c news hl (hs W s) (by omega) (by omega) (by rw [dT] at hb;omega);rw [h2] at hr;injection hr with e1 e2
    rw [<-e1] at hq
    right
    have:=bH hq;simp at this;omega
  ·intro q hq
   by_cases hroom:k+m<=cap
   ·have hfit:k * i.size+news.length<=cur.size:=by rw [hl,hcs,<-uL];exact oT _ hroom
    have h2:=run_append_room (P:=P) W T ty e i hu hi g k cap cur hgc A m c news hl (hs W s) h1 hroom hfit;rw [h2] at hr;injection hr with e1 e2
    rw [<-e1] at hq;exact .inl hq
   ·have h2:=run_append_grow (P:=P) W T ty e i z hu hi hz ⟨g,0,none⟩ k cap xs hown.1 (World.ownsRow.cells hown (g:=g) rfl) A m c news hl (hs W s) (by omega) (by omega) (growslice_fits (by omega) hb);rw [h2] at hr;injection hr with e1 e2
    rw [<-e1] at hq
    right
    have:=bH hq;simp at this;omega
 refine oN rfl ?_;unfold Oper.wp execOp;simp only [resolve,invoke,builtin,Sem.run_bind,Sem.run_pure,Result.andThen_ok,kT,eT,wJ,f.ev hx,f.ev hy,hr];refine h v' hnil _ _ (f.put ht _) ?_;have hlt:∀ q,r.ownBlock=some q->w0.heap.size<=q:=λq hq=>(World.ownsRow.lt hown q hq).1;refine s.upd (hm v') ?_ hg.size (λq hq hn=>hg.block q hq (λe=>hn e.symm)) ho hblk;refine Ext.of_below ⟨hg.os.trans s.ext.below.os,hg.tape.trans s.ext.below.tape,hg.output.trans s.ext.below.output,aV s.ext.below.size hg.size,λq hq=>?_⟩;rw [hg.block q (dR hq s.ext.size) (λe=>by have:=hlt q e.symm;omega)];exact s.ext.below.block q hq
end
section
variable {dfs:List Deferred} {P:Program} {n:Nat} {L:Sl} {H:Hp} {w0:World} {bs:List Res} {Q:Exit->Act->World->Prop} {ops:Array Oper} {K:Act->World->Prop}
theorem opAt {ops':Array Oper} {i:Nat} {o:Oper} (e:ops'=ops) (h:ops[i]? = some o):ops'[i]? = some o:=e ▸ h
theorem Upd.same {bs bs':List Res} {x y:Res} (h:Upd bs x y bs'):x=y->bs'=bs:=by
 induction h with
 | head=>intro e;rw [e]
 | tail _ ih=>intro e;rw [ih e]
end
end Go.Sx
/- Data in memory: values, structs and slices, as a described tree over unchanging memory. -/
namespace Go.Sx
open Go.RowKit Go.Par
inductive D where
 | val (v:Value)
 | any (v:Value)
 | str (ds:List D)
 | seq (z:Nat) (ds:List D)
 | ps (vs:List Value)
def okV:Value->Prop
 | .string s=>s.size<=1000000
 | _=>True
def kU (H:Hp) (b off:Nat) (cs:List Value):Prop:=∃ arr t m,H b=some (.cells arr t m)/\∀ (j:Nat) u,cs[j]? = some u->arr[off+j]? = some u
structure uP (H:Hp) (b off:Nat) (cs:List Value):Prop where
 mem:kU H b off cs
 lo:H.lo<=b
instance {H:Hp} {b off:Nat} {cs:List Value}:Coe (uP H b off cs) (kU H b off cs):=⟨uP.mem⟩
mutual
def D.txt:D->Bool
 | .val (.string _)=>true
 | .val _=>false
 | .any _=>false
 | .str ds=>D.txtL ds
 | .seq _ ds=>D.txtL ds
 | .ps _=>true
def D.txtL:List D->Bool
 | []=>false
 | d::r=>D.txt d || D.txtL r
end
theorem D.txtL_any:∀ {ds:List D},D.txtL ds=ds.any D.txt
 | []=>rfl
 | d::r=>by rw [D.txtL,List.any_cons,D.txtL_any]
mutual
def Rep (H:Hp):D->List Value->Prop
 | .val v,l=>l=[v]/\v.oneCell'=true/\okV v
 | .any v,l=>l=[v]/\v.oneCell'=true
 | .str ds,l=>uZ H ds l
 | .seq z ds,l=>∃ p c,l=[.slice p ds.length c]/\ds.length<=c/\c<=maxLen/\(ds=[]\/∃ b off cs,p=some (⟨b,off,none⟩:Addr)/\kU H b off cs/\eJ H z ds cs/\(D.txtL ds=true->H.lo<=b/\off % z=0))
 | .ps vs,l=>∃ p c,l=[.slice p vs.length c]/\vs.length<=c/\c<=maxLen/\((p=none/\c=0)\/∃ b arr t,p=some (⟨b,0,none⟩:Addr)/\H b=some (.cells arr t (0,0))/\H.lo<=b/\arr.size=c/\(∀ u∈arr.toList,∃ s:ByteArray,u=.string s/\s.size<=1000000)/\arr.toList.take vs.length=vs)
def uZ (H:Hp):List D->List Value->Prop
 | [],l=>l=[]
 | d::r,l=>∃ x y,l=x++y/\Rep H d x/\uZ H r y
def eJ (H:Hp) (z:Nat):List D->List Value->Prop
 | [],l=>l=[]
 | d::r,l=>∃ x y,l=x++y/\x.length=z/\Rep H d x/\eJ H z r y
end
theorem Up.refl (H:Hp):Up H H:=⟨λ_ _ e=>e,Z⟩
variable {H H':Hp}
theorem Up.trans {H'':Hp} (h:Up H H') (k:Up H' H''):Up H H'':=⟨λb o e=>k b o (h b o e),k.lo.trans h.lo⟩
variable {b:Nat}
theorem kU.up {off:Nat} {cs:List Value} (h:kU H b off cs) (u:Up H H'):kU H' b off cs:=by
 obtain ⟨arr,t,m,h1,h2⟩:=h;exact ⟨arr,t,m,u _ _ h1,h2⟩
theorem uP.up {off:Nat} {cs:List Value} (h:uP H b off cs) (u:Up H H'):uP H' b off cs:=⟨h.mem.up u,u.lo ▸ h.lo⟩
mutual
theorem Rep.up {H H':Hp} (u:Up H H'):∀ {d:D} {l:List Value},Rep H d l->Rep H' d l
 | .val v,l,h=>by unfold Rep at h|-;exact h
 | .any v,l,h=>by unfold Rep at h|-;exact h
 | .str ds,l,h=>by unfold Rep at h|-;exact uZ.up u h
 | .seq z ds,l,h=>by
  unfold Rep at h|-;obtain ⟨p,c,h1,h2,h3,h4⟩:=h;refine ⟨p,c,h1,h2,h3,h4.imp id ?_⟩;rintro ⟨b,off,cs,h5,h6,h7,h8⟩;exact ⟨b,off,cs,h5,h6.up u,eJ.up u h7,λe=>u.lo ▸ h8 e⟩
 | .ps vs,l,h=>by
  unfold Rep at h|-;obtain ⟨p,c,h1,h2,h3,h4⟩:=h;refine ⟨p,c,h1,h2,h3,h4.imp id ?_⟩;rintro ⟨b,arr,t,h5,h6,h7,h8⟩;exact ⟨b,arr,t,h5,u _ _ h6,u.lo ▸ h7,h8⟩
theorem uZ.up {H H':Hp} (u:Up H H'):∀ {ds:List D} {l:List Value},uZ H ds l->uZ H' ds l
 | [],l,h=>by unfold uZ at h|-;exact h
 | d::r,l,h=>by
  unfold uZ at h|-;obtain ⟨x,y,h1,h2,h3⟩:=h;exact ⟨x,y,h1,Rep.up u h2,uZ.up u h3⟩
theorem eJ.up {H H':Hp} (u:Up H H') {z:Nat}:∀ {ds:List D} {l:List Value},eJ H z ds l->eJ H' z ds l
 | [],l,h=>by unfold eJ at h|-;exact h
 | d::r,l,h=>by
  unfold eJ at h|-;obtain ⟨x,y,h1,h2,h3,h4⟩:=h;exact ⟨x,y,h1,h2,Rep.up u h3,eJ.up u h4⟩
end
mutual
theorem Rep.one {H:Hp}:∀ {d:D} {l:List Value},Rep H d l->∀ v∈l,v.oneCell'=true
 | .val v,l,h=>by unfold Rep at h;obtain ⟨rfl,h,_⟩:=h;simpa using h
 | .any v,l,h=>by unfold Rep at h;obtain ⟨rfl,h⟩:=h;simpa using h
 | .str ds,l,h=>by unfold Rep at h;exact uZ.one h
 | .seq z ds,l,h=>by
  unfold Rep at h;obtain ⟨p,c,rfl,_⟩:=h;simp [Value.oneCell']
 | .ps vs,l,h=>by
  unfold Rep at h;obtain ⟨p,c,rfl,_⟩:=h;simp [Value.oneCell']
theorem uZ.one {H:Hp}:∀ {ds:List D} {l:List Value},uZ H ds l->∀ v∈l,v.oneCell'=true
 | [],l,h=>by unfold uZ at h;subst h;simp
 | d::r,l,h=>by
  unfold uZ at h;obtain ⟨x,y,rfl,h2,h3⟩:=h;intro v hv;rcases cK.1 hv with hv | hv
  ·exact Rep.one h2 v hv
  ·exact uZ.one h3 v hv
end
theorem eJ.one {H:Hp} {z:Nat}:∀ {ds:List D} {l:List Value},eJ H z ds l->∀ v∈l,v.oneCell'=true
 | [],l,h=>by unfold eJ at h;subst h;simp
 | d::r,l,h=>by
  unfold eJ at h;obtain ⟨x,y,rfl,_,h2,h3⟩:=h;intro v hv;rcases cK.1 hv with hv | hv
  ·exact Rep.one h2 v hv
  ·exact eJ.one h3 v hv
theorem eJ.len {H:Hp} {z:Nat}:∀ {ds:List D} {l:List Value},eJ H z ds l->l.length=ds.length * z
 | [],l,h=>by unfold eJ at h;subst h;simp
 | d::r,l,h=>by
  unfold eJ at h;obtain ⟨x,y,rfl,h1,h2,h3⟩:=h;have:=eJ.len h3;rw [aE,this,h1,aK,uL];omega
variable {z:Nat}
theorem eJ.app:∀ {ds es:List D} {l m:List Value},eJ H z ds l->eJ H z es m->eJ H z (ds++es) (l++m)
 | [],es,l,m,h,k=>by unfold eJ at h;subst h;exact k
 | d::r,es,l,m,h,k=>by
  unfold eJ at h;obtain ⟨x,y,rfl,h1,h2,h3⟩:=h;show eJ H z (d::(r++es)) _;unfold eJ;exact ⟨x,y++m,by rw [bW],h1,h2,h3.app k⟩
theorem eJ.single {d:D} {l:List Value} (h:Rep H d l) (hl:l.length=z):eJ H z [d] l:=by
 unfold eJ;exact ⟨l,[],by simp,hl,h,by unfold eJ;rfl⟩
theorem eJ.nil:eJ H z [] []:=by unfold eJ;rfl
theorem eJ.snoc {ds:List D} {l m:List Value} {d:D} (h:eJ H z ds l) (k:Rep H d m) (hl:m.length=z):eJ H z (ds++[d]) (l++m):=h.app (.single k hl)
theorem eJ.at {H:Hp} {z:Nat}:∀ {ds:List D} {l:List Value} {i:Nat} {d:D},eJ H z ds l->ds[i]? = some d->∃ cs,Rep H d cs/\cs.length=z/\∀ (j:Nat) u,cs[j]? = some u->l[i * z+j]? = some u
 | [],l,i,d,h,e=>by simp at e
 | d0::r,l,i,d,h,e=>by
  unfold eJ at h;obtain ⟨x,y,rfl,h1,h2,h3⟩:=h;cases i with
  | zero =>
   simp at e;subst e;refine ⟨x,h2,h1,λj u hu=>?_⟩;rw [pV,dT,List.getElem?_append_left (List.getElem?_eq_some_iff.1 hu).1];exact hu
  | succ i =>
   obtain ⟨cs,a,b,c⟩:=h3.at (i:=i) (d:=d) (by simpa using e);refine ⟨cs,a,b,λj u hu=>?_⟩;rw [List.getElem?_append_right (by rw [h1,iU];omega),h1,show (i+1) * z+j - z=i * z+j by rw [iU];omega];exact c j u hu
theorem eJ.take:∀ {ds:List D} {l:List Value} (n:Nat),eJ H z ds l->eJ H z (ds.take n) (l.take (n * z))
 | [],l,n,h=>by unfold eJ at h;subst h;simp;exact eJ.nil
 | d::r,l,0,h=>by simp;exact eJ.nil
 | d::r,l,n+1,h=>by
  unfold eJ at h;obtain ⟨x,y,rfl,h1,h2,h3⟩:=h;rw [List.take_succ_cons];unfold eJ;refine ⟨x,y.take (n * z),?_,h1,h2,h3.take n⟩;have hx:x.take ((n+1) * z)=x:=jU (by rw [h1,iU];omega);have hz:(n+1) * z - z=n * z:=by rw [iU];omega
  rw [List.take_append,hx,h1,hz]
theorem eJ.drop:∀ {ds:List D} {l:List Value} (n:Nat),eJ H z ds l->eJ H z (ds.drop n) (l.drop (n * z))
 | [],l,n,h=>by unfold eJ at h;subst h;simp;exact eJ.nil
 | d::r,l,0,h=>by simpa using h
 | d::r,l,n+1,h=>by
  unfold eJ at h;obtain ⟨x,y,rfl,h1,h2,h3⟩:=h;rw [pR];have:=h3.drop n;have hx:x.drop ((n+1) * z)=[]:=iK (by rw [h1,iU];omega);have hz:(n+1) * z - z=n * z:=by rw [iU];omega
  rw [List.drop_append,hx,h1,hz,dB];exact this
theorem kU.drop {off:Nat} {cs:List Value} (h:kU H b off cs) (k:Nat):kU H b (off+k) (cs.drop k):=by
 obtain ⟨arr,t,m,h1,h2⟩:=h;exact ⟨arr,t,m,h1,λj u e=>by rw [List.getElem?_drop] at e;rw [dQ];exact h2 _ _ e⟩
theorem uP.drop {off:Nat} {cs:List Value} (h:uP H b off cs) (k:Nat):uP H b (off+k) (cs.drop k):=⟨h.mem.drop k,h.lo⟩
theorem kU.take {off:Nat} {cs:List Value} (h:kU H b off cs) (k:Nat):kU H b off (cs.take k):=by
 obtain ⟨arr,t,m,h1,h2⟩:=h;refine ⟨arr,t,m,h1,λj u e=>h2 _ _ ?_⟩
 have hj:j<k:=by
  have:=(List.getElem?_eq_some_iff.1 e).1;rw [dV] at this;omega
 rwa [List.getElem?_take_of_lt hj] at e
theorem uP.take {off:Nat} {cs:List Value} (h:uP H b off cs) (k:Nat):uP H b off (cs.take k):=⟨h.mem.take k,h.lo⟩
theorem Rep.sl {ds:List D} {l:List Value} (h:Rep H (.seq z ds) l):∃ p c,l=[.slice p ds.length c]/\ds.length<=c/\c<=maxLen:=by
 unfold Rep at h;obtain ⟨p,c,h1,h2,h3,_⟩:=h;exact ⟨p,c,h1,h2,h3⟩
variable {n c i:Nat}
theorem Rep.elem {ds:List D} {p:Option Addr} {d:D} (h:Rep H (.seq z ds) [.slice p n c]) (hi:ds[i]? = some d):∃ b off cs,p=some ⟨b,off,none⟩/\Rep H d cs/\cs.length=z/\kU H b (off+i * z) cs:=by
 unfold Rep at h;obtain ⟨p',c',h1,h2,h3,h4⟩:=h;injection h1 with h1 _
 injection h1 with h5 h6 h7
 subst h5;rcases h4 with h4 | ⟨b,off,cs,h8,⟨arr,t,m,h9,h10⟩,h11,_⟩
 ·subst h4;simp at hi
 ·obtain ⟨cs',k1,k2,k3⟩:=h11.at hi;exact ⟨b,off,cs',h8,k1,k2,arr,t,m,h9,λj u e=>by rw [dQ];exact h10 _ _ (k3 j u e)⟩
theorem Rep.len {ds:List D} {p:Option Addr} (h:Rep H (.seq z ds) [.slice p n c]):n=ds.length/\n<=c/\c<=maxLen:=by
 obtain ⟨p',c',h1,h2,h3⟩:=h.sl;injection h1 with h1 _
 injection h1 with h5 h6 h7
 subst h6 h7;exact ⟨Z,h2,h3⟩
theorem Rep.cap {ds:List D} {p:Option Addr} (h:Rep H (.seq z ds) [.slice p n c]):n<=9223372036854775807:=by
 have:=h.len;simp only [maxLen] at this;omega
theorem Rep.empty {p:Option Addr} (hc:c<=maxLen):Rep H (.seq z []) [.slice p 0 c]:=by
 unfold Rep;exact ⟨p,c,Z,aP _,hc,.inl rfl⟩
theorem Rep.mkM {off:Nat} {ds:List D} {cs:List Value} (hm:kU H b off cs) (hz:eJ H z ds cs) (hn:ds.length=n) (h1:n<=c) (h2:c<=maxLen) (h3:D.txtL ds=true->H.lo<=b/\off % z=0):Rep H (.seq z ds) [.slice (some ⟨b,off,none⟩) n c]:=by
 subst hn;unfold Rep;exact ⟨_,c,Z,h1,h2,.inr ⟨b,off,cs,Z,hm,hz,h3⟩⟩
theorem Rep.mk {off:Nat} {ds:List D} {cs:List Value} (hm:uP H b off cs) (hz:eJ H z ds cs) (hn:ds.length=n) (h1:n<=c) (h2:c<=maxLen) (h3:off % z=0:=by first | rfl | exact Nat.zero_mod _):Rep H (.seq z ds) [.slice (some ⟨b,off,none⟩) n c]:=.mkM hm.mem hz hn h1 h2 λ_=>⟨hm.lo,h3⟩

section
variable {dfs:List Deferred} {P:Program} {n:Nat} {L:Sl} {H:Hp} {w0:World} {bs:List Res} {Q:Exit->Act->World->Prop} {ops:Array Oper} {K:Act->World->Prop}
variable {d:Option Tmp} {ty:TypeId} {pos:String} {aft:Array Edge} {g:Option (Nat × Bool)} {v:Value} {t:Tmp} {op:Op} {x y z:Operand} {T T':TypeId}
theorem kU.cell {W:World} {b off:Nat} {cs:List Value} (h:kU H b off cs) (s:Agr H W) {j:Nat} {u:Value} (e:cs[j]? = some u):W.cell? ⟨b,off+j,none⟩=some u:=by
 obtain ⟨arr,t,m,h1,h2⟩:=h;exact s.cell h1 (h2 j u e)
theorem Yl.loadM {b off o k:Nat} {cs:List Value} (hp:ev L x=some (.pointer (some ⟨b,off,none⟩))) (hT:lR P T=some none) (hm:kU H b o cs) (ho:off=o+k) (hv:cs[k]? = some v):Yl P L H w0 bs ⟨d,.load T x,ty,pos,aft,g⟩ v:=.of_run λa W f s=>by
 subst ho;unfold execOp;simp only [f x _ hp,Instr.loadAt,Instr.sureAddr,loadVar,Sem.run_bind,Sem.run_pure,Result.andThen,uA hT,aB,aS];rw [show (Go.load ⟨b,o+k,none⟩).run P W=.ok v W from by simp [Go.load,Sem.run,hm.cell s.agr hv]]
theorem Yl.loadMS {b off o k m:Nat} {cs vs:List Value} (hp:ev L x=some (.pointer (some ⟨b,off,none⟩))) (hT:lR P T=some (some m)) (hm:kU H b o cs) (ho:off=o+k) (hl:vs.length=m) (hv:∀ (j:Nat) u,vs[j]? = some u->cs[k+j]? = some u):Yl P L H w0 bs ⟨d,.load T x,ty,pos,aft,g⟩ (.agg vs.toArray):=.of_run λa W f s=>by
 subst ho hl;obtain ⟨h1,h2⟩:=vL (W:=W) hT
 have h3:(loadCells ⟨b,o+k,none⟩ vs.length).run P W=.ok vs.toArray W:=run_loadCells_list W _ vs λj u e=>by
  rw [Addr.add_lit,dQ];exact hm.cell s.agr (hv j u e)
 unfold execOp;simp only [f x _ hp,Instr.loadAt,Instr.sureAddr,loadVar,Sem.run_bind,Sem.run_pure,Result.andThen,h1,h2,aU,h3]
theorem Yl.loadMW {b o m:Nat} {cs:List Value} (hp:ev L x=some (.pointer (some ⟨b,o,none⟩))) (hT:lR P T=some (some m)) (hm:kU H b o cs) (hl:cs.length=m):Yl P L H w0 bs ⟨d,.load T x,ty,pos,aft,g⟩ (.agg cs.toArray) :=
 .loadMS (k:=0) hp hT hm rfl hl λj u e=>by rw [dT];exact e
structure HUp (w0:World) (H H':Hp):Prop where
 up:Up H H'
 new:∀ b,H b=none->b<w0.heap.size->H' b=none
 mark:∀ b o,H' b=some o->H b=none->∃ arr t,o=Obj.cells arr t (0,0)
theorem HUp.refl:HUp w0 H H:=⟨Up.refl H,λ_ e _=>e,λb o e k=>by rw [k] at e;cases e⟩
theorem HUp.trans {H' H'':Hp} (h:HUp w0 H H') (k:HUp w0 H' H''):HUp w0 H H'':=⟨h.up.trans k.up,λb e hb=>k.new b (h.new b e hb) hb,λb o e h0=>by
 cases e1:H' b with
 | none=>exact k.mark b o e e1
 | some q =>
  have:=k.up b q e1;rw [this] at e;exact h.mark b o (by rw [e1];exact e) h0⟩
theorem HUp.grow {W:World} {H':Hp} (h:HUp w0 H H') (s:St H' w0 bs W):zT H w0 H' W:=⟨s.ext,h.up,h.new,s.agr,h.mark⟩
theorem zT.hup {W W':World} {H':Hp} (g:zT H W H' W') (s:St H w0 bs W):HUp w0 H H':=⟨g.up,λb e hb=>g.new b e (dR hb s.ext.size),g.mark⟩
theorem bX6 {X:Type} {f:FuncId} {xs:List Operand} {vs:List Value} {ats:Array TypeId} {C:X->Hp->Prop} {val:X->Value} (hf:cV P f=true) (hv:evs L xs=some vs)
 (hc:∀ W,St H w0 bs W->Calls P f vs.toArray W λe W'=>∃ x H',C x H'/\e=.returned (val x)/\zT H W H' W') (ht:Nat.blt t n=true)
 (h:∀ x H',C x H'->HUp w0 H H'->At dfs n ((t,val x)::L) H' w0 bs K) :
 At dfs n L H w0 bs (one P ops Q ⟨some t,.call ⟨.value (.func f),xs.toArray,ats⟩,ty,pos,aft,none⟩ K):=by
 intro a W f0 s;refine oN rfl ?_;unfold Oper.wp;rw [JG hf (λx u e=>f0.ev e) hv];refine (hc W s).mono ?_;rintro e W' ⟨x,H',hx,rfl,hg⟩;exact h x H' hx (hg.hup s) _ _ (f0.put ht _) (s.grow hg)
def ML (H:Hp) (b:Nat) (o:Obj):Hp:=⟨λc=>if c=b then some o else H c,H.lo⟩
theorem DI {H:Hp} {b:Nat} {o:Obj}:ML H b o b=some o:=by simp [ML]
theorem sS {H:Hp} {b c:Nat} {o:Obj} (h:c≠b):ML H b o c=H c:=by simp [ML,h]
theorem St.freeze {r:Res} {W:World} {b:Nat} {o:Obj} (s:St H w0 (r::bs) W) (hb:r.blk=some b) (ho:W.heap[b]? = some o) (hm:∃ arr t,o=Obj.cells arr t (0,0)):St (ML H b o) w0 bs W/\HUp w0 H (ML H b o):=by
 have hr:=s.own r Hm;have hlt:=hr.1.lt hb;have hap:=jX.1 s.apart;refine ⟨⟨s.ext,⟨λc q e=>?_,s.agr.lo⟩,λy hy=>⟨(s.own y (.tail _ hy)).1,λc e=>?_⟩,hap.2,s.lo⟩,⟨⟨λc q e=>?_,Z⟩,λc e hc=>?_,λc q e h0=>?_⟩⟩
 ·by_cases h:c=b
  ·subst h;rw [DI] at e;cases e;exact ho
  ·rw [sS h] at e;exact s.agr c q e
 ·have:c≠b:=λh=>hap.1 y hy b hb (h ▸ e);rw [sS this];exact (s.own y (.tail _ hy)).2 c e
 ·have:c≠b:=λh=>by subst h;rw [hr.2 c hb] at e;cases e
  rw [sS this];exact e
 ·have:c≠b:=λh=>by omega
  rw [sS this];exact e
 ·by_cases h:c=b
  ·subst h;rw [DI] at e;cases e;exact hm
  ·rw [sS h,h0] at e;cases e
theorem freezeBoxN {b:Nat} {l:List Value} {t':TypeId} {G:Act->World->Prop} (h:∀ H',HUp w0 H H'->uP H' b 0 l->At dfs n L H' w0 bs G):At dfs n L H w0 (.box b l t'::bs) G:=λa W f s=>by
 have hm:=(s.own _ Hm).1.2;obtain ⟨s',u⟩:=s.freeze rfl hm ⟨_,_,Z⟩;exact h _ u ⟨⟨l.toArray,t',(0,0),DI,λj q e=>by rw [dT];simpa using e⟩,aV s.lo (s.own _ Hm).1.1⟩ a W f s'
theorem rR {b:Nat} {l:List Value} {t':TypeId} {G:Act->World->Prop} (h:∀ H',HUp w0 H H'->kU H' b 0 l->At dfs n L H' w0 bs G):At dfs n L H w0 (.box b l t'::bs) G :=
 freezeBoxN λH1 u m=>h H1 u m.mem
theorem aP5 {e:TypeId} {size k:Nat} {r:Value} {xs:List Value} {G:Act->World->Prop} (h:∀ H',HUp w0 H H'->((r=.slice none 0 0/\k=0)\/∃ b c,r=.slice (some ⟨b,0,none⟩) k c/\k<=c/\c<=maxLen/\uP H' b 0 xs)->At dfs n L H' w0 bs G):At dfs n L H w0 (.row e size r k xs::bs) G:=λa W f s=>by
 have ho:W.ownsRow w0.heap.size e size r k xs:=(s.own _ Hm).1;rcases ho.2 with ⟨rfl,rfl⟩ | ⟨g,cap,cur,rfl,hg,hc,h1,h2,h3,h4⟩
 ·exact h H .refl (.inl ⟨Z,Z⟩) a W f s.drop
 ·obtain ⟨s',u⟩:=s.freeze (b:=g) rfl hc ⟨_,_,Z⟩;refine h _ u (.inr ⟨g,cap,Z,h1,h2,⟨cur,e,(0,0),DI,λj q eq=>?_⟩,aV s.lo hg⟩) a W f s';have hc2:=World.ownsRow.cells ho (g:=g) rfl j q eq;rw [Addr.add_lit,cell_of_row W g (0+j) cur e (0,0) hc] at hc2;exact hc2
theorem nB {e:TypeId} {size k:Nat} {r:Value} {xs:List Value} {ds:List D} {G:Act->World->Prop} (hk:ds.length=k) (hz:eJ H size ds xs) (h:∀ H' p c,HUp w0 H H'->r=.slice p k c->Rep H' (.seq size ds) [r]->At dfs n L H' w0 bs G):At dfs n L H w0 (.row e size r k xs::bs) G :=
 aP5 λH' u hr=>by
  rcases hr with ⟨rfl,rfl⟩ | ⟨b,c,rfl,h1,h2,h3⟩
  ·obtain rfl:=bK hk;exact h H' none 0 u rfl (.empty (by simp [maxLen]))
  ·exact h H' _ c u rfl (.mk h3 (hz.up u.up) hk h1 h2)
end
end Go.Sx

namespace Go.Sx
open Go.RowKit Go.Par
section
variable {dfs:List Deferred} {P:Program} {L:Sl} {H H':Hp} {w0:World} {bs bs':List Res} {ty:TypeId} {pos:String} {aft:Array Edge} {t:Tmp} {op:Op} {ops:Array Oper} {N hn i n j:Nat} {pa:List (Nat × Oper × Value)} {E:Sl->Hp->List Res->Prop} {r:List (Nat × Nat × Oper)} {rest:List Oper} {Q:Exit->Act->World->Prop} {o:Oper} {v:Value} {b c:Bool} {u:Tmp}
theorem cR {α:Type} {a0 a1:α} {l:List α}:a1∈a0::a1::l:=.tail _<|.head _
theorem kP {α:Type} {a0 a1 a2:α} {l:List α}:a2∈a0::a1::a2::l:=.tail _<|.tail _<|.head _
theorem qP {α:Type} {a0 a1 a2 a3:α} {l:List α}:a3∈a0::a1::a2::a3::l:=.tail _<|.tail _<|.tail _<|.head _
theorem zC {α:Type} {a0 a1 a2 a3 a4:α} {l:List α}:a4∈a0::a1::a2::a3::a4::l:=.tail _<|.tail _<|.tail _<|.tail _<|.head _
theorem aO6 {α:Type} {a0 a1 a2 a3 a4 a5:α} {l:List α}:a5∈a0::a1::a2::a3::a4::a5::l:=.tail _<|.tail _<|.tail _<|.tail _<|.tail _<|.head _
theorem aO5 {α:Type} {a0 a1 a2 a3 a4 a5 a6:α} {l:List α}:a6∈a0::a1::a2::a3::a4::a5::a6::l:=.tail _<|.tail _<|.tail _<|.tail _<|.tail _<|.tail _<|.head _
theorem jS {a0 a1 x:Res} {l:List Res}:Upd (a0::a1::l) a1 x (a0::x::l):=.tail<|.head
theorem jW {a0 a1 a2 x:Res} {l:List Res}:Upd (a0::a1::a2::l) a2 x (a0::a1::x::l):=.tail<|.tail<|.head
theorem nP {a0 a1 a2 a3 x:Res} {l:List Res}:Upd (a0::a1::a2::a3::l) a3 x (a0::a1::a2::x::l):=.tail<|.tail<|.tail<|.head
theorem SN {a0 a1 a2 a3 a4 x:Res} {l:List Res}:Upd (a0::a1::a2::a3::a4::l) a4 x (a0::a1::a2::a3::x::l):=.tail<|.tail<|.tail<|.tail<|.head
theorem cF9 {a0 a1 a2 a3 a4 a5 x:Res} {l:List Res}:Upd (a0::a1::a2::a3::a4::a5::l) a5 x (a0::a1::a2::a3::a4::x::l):=.tail<|.tail<|.tail<|.tail<|.tail<|.head
theorem aL8 {a0 a1 a2 a3 a4 a5 a6 x:Res} {l:List Res}:Upd (a0::a1::a2::a3::a4::a5::a6::l) a6 x (a0::a1::a2::a3::a4::a5::x::l):=.tail<|.tail<|.tail<|.tail<|.tail<|.tail<|.head
end
section
variable {dfs:List Deferred} {P:Program} {ops:Array Oper} {w0:World} {n N:Nat}
def putL (d:Option Tmp) (v:Value) (L:Sl):Sl:=match d with | some t=>(t,v)::L | none=>L
def Yq (P:Program) (ops:Array Oper) (o:Oper) (v:Value) (a:Act) (W:World):Prop :=
 (Region.wanted o (yielded ops a.tmps)=true/\Oper.quietUpon P (Ext W) W v ((execOp a.eval o).run P W))\/(Region.wanted o (yielded ops a.tmps)=false/\v=undef)
def mH (ops:Array Oper):Nat->Nat->Nat->Bool
 | 0,_,_=>false
 | f+1,j,h=>Region.waitsFor .any ops j h || (List.range j).any λk=>Region.waitsFor .any ops j k && mH ops f k h
def iX (dfs:List Deferred) (P:Program) (ops:Array Oper) (n:Nat) (w0:World) (N:Nat) (L:Sl) (H':Hp) (bs':List Res) (i:Nat):List (Nat × Oper × Value)->Prop
 | []=>True
 | (j,o,v)::r=>(mH ops n i j=true\/∀ a W,Fr dfs N L a->St H' w0 bs' W->Yq P ops o v a W)/\iX dfs P ops n w0 N L H' bs' i r
def dU (dfs:List Deferred) (P:Program) (ops:Array Oper) (n:Nat) (w0:World) (N:Nat) (E:Sl->Hp->List Res->Prop):List (Nat × Nat × Oper)->List (Nat × Oper × Value)->Sl->Hp->List Res->Prop
 | [],_,L,H,bs=>E L H bs
 | (i,0,o)::r,pa,L,H,bs=>∃ v,(∀ a W,Fr dfs N L a->St H w0 bs W->Yq P ops o v a W)/\(∀ t,o.dst=some t->t<N)/\dU dfs P ops n w0 N E r ((i,o,v)::pa) (putL o.dst v L) H bs
 | (i,k+1,o)::r,pa,L,H,bs=>(∀ t,o.dst=some t->t<N)/\At dfs N L H w0 bs (one P ops (λ_ _ _=>False) o λa' W'=>∃ v H' bs',Fr dfs N (putL o.dst v L) a'/\St H' w0 bs' W'/\(k=1\/(∀ W,St H' w0 bs' W->St H w0 bs W)\/iX dfs P ops n w0 N L H' bs' i pa)/\dU dfs P ops n w0 N E r pa (putL o.dst v L) H' bs')
def WT (ops:Array Oper) (n:Nat):List (Nat × Nat)->Bool
 | []=>true
 | (i,k)::r=>decide (i<n) && !Region.waitsFor .any ops i i && r.all (λx=>!(x.1 == i) && !Region.waitsFor .any ops i x.1 && (k == 0 || mH ops n x.1 i)) && WT ops n r && (!(k == 2) || (List.range n).all λj=>j == i || r.any (λx=>x.1 == j) || mH ops n i j)
def RA (ops:Array Oper) (n:Nat) (ord:List (Nat × Nat)):Bool :=
 ZY ops n [] && WT ops n ord && (List.range n).all λi=>ord.any λx=>x.1 == i
theorem pH {listed:Array Bool} (I:HeadInv .any ops n listed):∀ (f j h:Nat),mH ops f j h=true->(∀ oj,ops[j]? = some oj->∀ e∈oj.after,Region.binds .any e=true->listed.getD e.on false=true)->listed.getD h false=true
 | 0,_,_,e,_=>by cases e
 | f+1,j,h,e,hj=>by
  unfold mH at e;rcases Bool.or_eq_true_iff.1 e with e | e
  ·obtain ⟨oj,hoj,x,hx,hb,rfl⟩:=Region.waitsFor_spec e;exact hj oj hoj x hx hb
  ·obtain ⟨k,_,hk⟩:=iZ.1 e;obtain ⟨h1,h2⟩:=Bool.and_eq_true_iff.1 hk;obtain ⟨oj,hoj,x,hx,hb,rfl⟩:=Region.waitsFor_spec h1;have hl:=hj oj hoj x hx hb;exact pH I f x.on h h2 λok hok y hy hby=>I.closed x.on ok hok hl y hy hby
theorem rS (F:Fit ops n []) {a0:Act} {v1 v2:Nat->Value} {S1 S2:Nat->Bool} {i:Nat} {o:Oper} (hi:i<n) (ho:ops[i]? = some o)
 (h:∀ j,j<n->Region.waitsFor .any ops i j=true->S1 j=true/\S2 j=true/\v1 j=v2 j) (t:Tmp) (ht:t∈o.looksAt ops) :
 (frm ops v1 S1 n a0).eval (.tmp t)=(frm ops v2 S2 n a0).eval (.tmp t):=by
 by_cases hw:∃ j,j<n/\iO ops j=some t
 ·obtain ⟨j,hj,hd⟩:=hw;obtain ⟨h1,h2,h3⟩:=h j hj (F.look i o hi ho t ht j hj hd);rw [FN _ S1 a0 t j h1 hd n hj (λk hk hne e=>F.apart k j hk hj hne t e hd),FN _ S2 a0 t j h2 hd n hj (λk hk hne e=>F.apart k j hk hj hne t e hd),h3]
 ·rw [yS _ S1 a0 t n (λk hk _ hd=>hw ⟨k,hk,hd⟩),yS _ S2 a0 t n (λk hk _ hd=>hw ⟨k,hk,hd⟩)]
theorem Yq.same {o:Oper} {v:Value} {a a':Act} {W:World} (hs:∀ cs b,o.op≠.select cs b) (h:∀ t∈o.looksAt ops,a.eval (.tmp t)=a'.eval (.tmp t)) (hy:Yq P ops o v a' W):Yq P ops o v a W:=by
 unfold Yq at *;rw [zL o hs h,vV o h];exact hy
theorem Yq.wpOp {i:Nat} {o:Oper} {v:Value} {a:Act} {w:World} {K:Act->World->Prop} {Q:Exit->Act->World->Prop} (hi:ops[i]? = some o) (hy:Yq P ops o v a w)
 (h:∀ w',Ext w w'->K (a.put o.dst v) w'):Go.wpOp P ops Q i K a w:=by
 unfold Go.wpOp;simp only [hi];rcases hy with ⟨hw,hv⟩ | ⟨hw,rfl⟩
 ·simp only [hw,aU];refine .inl ?_;unfold Oper.wp;generalize (execOp a.eval o).run P w=r at *;cases r with
  | ok x w' =>
   cases x <;> simp only [Oper.quietUpon] at hv <;> simp only [Oper.upon]
   case value u =>
    obtain ⟨e1,e2⟩:=hv;rw [e1,e2];exact h _ (Ext.refl _)
   case skip =>
    obtain ⟨e1,e2⟩:=hv;rw [e1,<-e2];exact h _ (Ext.refl _)
   case enter f args =>
    obtain ⟨e1,hc⟩:=hv;rw [e1];exact hc.mono λe w'' ⟨he,hw''⟩=>by subst he;exact h _ hw''
  | halt x w'=>simp only [Oper.quietUpon] at hv
 ·simp only [hw,aB,aS];exact h _ (Ext.refl _)
theorem MP {i:Nat} {o:Oper} {a a':Act} {W:World} {K K':Act->World->Prop} {Q:Exit->Act->World->Prop} (hi:ops[i]? = some o) (hs:∀ cs b,o.op≠.select cs b) (he:∀ t∈o.looksAt ops,a.eval (.tmp t)=a'.eval (.tmp t))
 (hd:∀ b W',K b W'->b.defers=dfs) (ha:a'.defers=dfs) (hk:∀ v W',K (a'.put o.dst v) W'->K' (a.put o.dst v) W') (h:one P ops (λ_ _ _=>False) o K a' W):Go.wpOp P ops Q i K' a W:=by
 unfold Go.wpOp;simp only [hi];unfold one at h;rw [vV o he];cases hw:Region.wanted o (yielded ops a'.tmps) with
 | false =>
  rw [hw] at h;simp only [aB,aS] at h|-;exact hk _ _ h
 | true =>
  rw [hw] at h;simp only [aU] at h|-;refine .inl ?_;rcases h with h | ⟨_,_,_,h⟩
  ·unfold Oper.wp at h|-;rw [zL o hs he];generalize (execOp a'.eval o).run P W=r at *;cases r with
   | ok x w' =>
    cases x <;> simp only [Oper.upon] at h|-
    case value u=>exact hk _ _ h
    case skip=>exact hk _ _ h
    case defer d =>
     have:=hd _ _ h;cases hdst:o.dst <;> rw [hdst] at this <;> simp [Act.put,ha] at this
    case enter f args =>
     refine h.mono λe w'' q=>?_;cases e with
     | returned v=>exact hk _ _ q
     | panicked c=>exact q.elim
     | outgrown=>obtain ⟨_,_,q⟩:=q;exact q.elim
    case row rw args=>exact h.mono λv w'' q=>hk _ _ q
   | halt x w' =>
    cases x <;> simp only [Oper.upon] at h
  ·exact h.elim
def upd {α:Type} (f:Nat->α) (i:Nat) (v:α):Nat->α:=λk=>if k=i then v else f k
theorem gW {α:Type} (f:Nat->α) (i:Nat) (v:α):upd f i v i=v:=aM rfl
theorem dY {α:Type} (f:Nat->α) {i k:Nat} (v:α) (h:k≠i):upd f i v k=f k:=aD h
def UJ (x:Nat × Nat × Oper):Nat × Nat:=(x.1,x.2.1)
structure GS (dfs:List Deferred) (P:Program) (ops:Array Oper) (w0:World) (n N:Nat) (a0:Act) (E:Sl->Hp->List Res->Prop) (listed:Array Bool) (a:Act) (W:World) (val:Nat->Value) (dec:Nat->Bool) (L:Sl) (H:Hp) (bs:List Res) (pa:List (Nat × Oper × Value)) (rest:List (Nat × Nat × Oper)):Prop where
 head:HeadInv .any ops n listed
 frame:a=frm ops val (st listed) n a0
 full:Fr dfs N L (frm ops val dec n a0)
 sub:∀ i,i<n->st listed i=true->dec i=true
 world:St H w0 bs W
 light:∀ i o,i<n->ops[i]? = some o->dec i=true->st listed i=false->∀ W,St H w0 bs W->Yq P ops o (val i) (frm ops val dec n a0) W
 plan:dU dfs P ops n w0 N E rest pa L H bs
 past:∀ i o,i<n->ops[i]? = some o->dec i=true->st listed i=false->(i,o,val i)∈pa
 undec:∀ x∈rest,dec x.1=false/\ops[x.1]? = some x.2.2
 cover:∀ i,i<n->dec i=true\/∃ x∈rest,x.1=i
 order:WT ops n (rest.map UJ)=true
 deps:∀ i j,i<n->j<n->dec i=true->Region.waitsFor .any ops i j=true->dec j=true
theorem iX.at {L:Sl} {H':Hp} {bs':List Res} {i j:Nat} {o:Oper} {v:Value}:∀ {pa:List (Nat × Oper × Value)},iX dfs P ops n w0 N L H' bs' i pa->(j,o,v)∈pa->mH ops n i j=true\/∀ a W,Fr dfs N L a->St H' w0 bs' W->Yq P ops o v a W
 | _::_,h,hm=>by
  rcases bP.1 hm with rfl | hm
  ·exact h.1
  ·exact iX.at h.2 hm
theorem zO {i k:Nat} {o:Oper} {r:List (Nat × Nat × Oper)} (h:WT ops n (((i,k,o)::r).map UJ)=true) :
 i<n/\Region.waitsFor .any ops i i=false/\(∀ x∈r,x.1≠i/\Region.waitsFor .any ops i x.1=false/\(k≠0->mH ops n x.1 i=true))/\WT ops n (r.map UJ)=true /\
  (k=2->∀ j,j<n->j≠i->(∀ x∈r,x.1≠j)->mH ops n i j=true):=by
 simp only [eT,UJ,WT,aC,aA,dX] at h;obtain ⟨⟨⟨⟨h1,h2⟩,h3⟩,h4⟩,h5⟩:=h;refine ⟨h1,h2,λx hx=>?_,h4,λhk j hj hji hr=>?_⟩
 ·have:=bC.1 h3 (UJ x) (pY.2 ⟨x,hx,Z⟩);simp only [UJ,aC,dX,beq_eq_false_iff_ne,aT] at this;obtain ⟨⟨k1,k2⟩,k3⟩:=this;refine ⟨k1,k2,λe=>?_⟩;rcases k3 with k3 | k3
  ·exact absurd (by simpa using k3) e
  ·exact k3
 ·subst hk;have h6:(List.range n).all (λj=>j == i || (r.map UJ).any (λx=>x.1 == j) || mH ops n i j)=true:=by simpa using h5
  have:=bC.1 h6 j (bU.2 hj);simp only [aT,dM] at this;rcases this with (h7 | h7) | h7
  ·exact absurd h7 hji
  ·obtain ⟨y,hy,e⟩:=iZ.1 h7;obtain ⟨x,hx,rfl⟩:=pY.1 hy;exact absurd (by simpa [UJ] using e) (hr x hx)
  ·exact h7
variable {a0:Act} {E:Sl->Hp->List Res->Prop} {Q:Exit->Act->World->Prop} {listed:Array Bool} {a:Act} {W:World} {val:Nat->Value} {dec:Nat->Bool} {L:Sl} {H:Hp} {bs:List Res} {pa:List (Nat × Oper × Value)}
theorem LI (F:Fit ops n []) {i:Nat} {o:Oper} {v:Value} (hi:i<n) (ho:ops[i]? = some o) (hd:dec i=false) :
 frm ops (upd val i v) (upd dec i true) n a0=(frm ops val dec n a0).put o.dst v:=by
 have e1:iO ops i=o.dst:=by simp [iO,ho]
 rw [pS (upd val i v) dec (upd dec i true) a0 i (gW _ _ _) hd (λk hk=>dY _ _ hk) n hi F.apart,gW,e1]
 congr 1
 refine jC _ _ _ _ a0 n λk _=>⟨Z,λhk=>dY _ _ λe=>?_⟩;subst e;rw [hd] at hk;cases hk
theorem Fr.putL {d:Option Tmp} (h:Fr dfs N L a) (v:Value) (hd:∀ t,d=some t->t<N):Fr dfs N (Sx.putL d v L) (a.put d v):=by
 cases d with
 | none=>exact h
 | some t=>exact h.put (by simpa [nZ] using hd t rfl) v
theorem GS.decide (F:Fit ops n []) {i:Nat} {o:Oper} {r:List (Nat × Nat × Oper)} (I:GS dfs P ops w0 n N a0 E listed a W val dec L H bs pa ((i,0,o)::r)) :
 ∃ val' L' pa',GS dfs P ops w0 n N a0 E listed a W val' (upd dec i true) L' H bs pa' r:=by
 obtain ⟨hi,hii,hr,ho',_⟩:=zO I.order;obtain ⟨hdi,ho⟩:=I.undec _ Hm;obtain ⟨v,hy,hN,hp⟩:=I.plan
 have hli:st listed i=false:=by
  cases h:st listed i with
  | false=>rfl
  | true=>have:=I.sub i hi h;rw [hdi] at this;cases this
 have hput:=LI (a0:=a0) (val:=val) (v:=v) F hi ho hdi
 have hdeps:∀ j,j<n->Region.waitsFor .any ops i j=true->dec j=true:=λj hj hw=>by
  rcases I.cover j hj with h | ⟨x,hx,rfl⟩
  ·exact h
  ·rcases bP.1 hx with rfl | hx
   ·rw [hii] at hw;cases hw
   ·rw [(hr x hx).2.1] at hw;cases hw
 refine ⟨upd val i v,Sx.putL o.dst v L,_,I.head,?_,?_,?_,I.world,?_,hp,?_,?_,?_,ho',?_⟩
 ·rw [I.frame];refine jC _ _ _ _ a0 n λk _=>⟨Z,λhk=>(dY _ _ λe=>?_).symm⟩;subst e;rw [hli] at hk;cases hk
 ·rw [hput];exact I.full.putL v hN
 ·intro j hj hs
  by_cases e:j=i
  ·subst e;exact gW _ _ _
  ·rw [dY _ _ e];exact I.sub j hj hs
 ·intro j oj hj hoj hd hs W hW
  by_cases e:j=i
  ·subst e;obtain rfl:oj=o:=bH (hoj.symm.trans ho);rw [gW];refine Yq.same (λcs b=>F.sel j oj cs b ho) (λt ht=>?_) (hy _ W I.full hW);refine rS F hj ho (λk hk hw=>?_) t ht;have hkd:=hdeps k hk hw;have hki:k≠j:=λe=>by subst e;rw [hii] at hw;cases hw
   exact ⟨by rw [dY _ _ hki];exact hkd,hkd,dY _ _ hki⟩
  ·rw [dY _ _ e] at hd|-;refine Yq.same (λcs b=>F.sel j oj cs b hoj) (λt ht=>?_) (I.light j oj hj hoj hd hs W hW);refine rS F hj hoj (λk hk hw=>?_) t ht;have hkd:=I.deps j k hj hk hd hw;have hki:k≠i:=λe=>by subst e;rw [hdi] at hkd;cases hkd
   exact ⟨by rw [dY _ _ hki];exact hkd,hkd,dY _ _ hki⟩
 ·intro j oj hj hoj hd hs
  by_cases e:j=i
  ·subst e;obtain rfl:oj=o:=bH (hoj.symm.trans ho);rw [gW];exact .head _
  ·rw [dY _ _ e] at hd|-;exact .tail _ (I.past j oj hj hoj hd hs)
 ·intro x hx;obtain ⟨h1,h2⟩:=I.undec x (.tail _ hx);exact ⟨by rw [dY _ _ (hr x hx).1];exact h1,h2⟩
 ·intro j hj
  by_cases e:j=i
  ·subst e;exact .inl (gW _ _ _)
  ·rcases I.cover j hj with h | ⟨x,hx,rfl⟩
   ·exact .inl (by rw [dY _ _ e];exact h)
   ·rcases bP.1 hx with rfl | hx
    ·exact absurd rfl e
    ·exact .inr ⟨x,hx,Z⟩
 ·intro j k hj hk hd hw
  by_cases e:j=i
  ·subst e;have hki:k≠j:=λe=>by subst e;rw [hii] at hw;cases hw
   rw [dY _ _ hki];exact hdeps k hk hw
  ·rw [dY _ _ e] at hd;have:=I.deps j k hj hk hd hw
   by_cases e2:k=i
   ·subst e2;exact gW _ _ _
   ·rw [dY _ _ e2];exact this
theorem GS.step (F:Fit ops n []) {i:Nat} {o:Oper} {rest:List (Nat × Nat × Oper)} {W':World} (I:GS dfs P ops w0 n N a0 E listed a W val dec L H bs pa rest) (hi:i<n) (ho:ops[i]? = some o) (hr:i∈Region.ready .any ops listed) (hd:dec i=true) (hx:Ext W W') :
 GS dfs P ops w0 n N a0 E (listed.setIfInBounds i true) (a.put o.dst (val i)) W' val dec L H bs pa rest:=by
 have hun:st listed i=false:=(mem_ready.1 hr).1;have e1:iO ops i=o.dst:=by simp [iO,ho]
 refine ⟨I.head.set hr hi,?_,I.full,?_,I.world.more hx,?_,I.plan,?_,I.undec,I.cover,I.order,I.deps⟩
 ·rw [I.frame,pS val (st listed) (st (listed.setIfInBounds i true)) a0 i eR hun (λk hk=>gS hk) n hi F.apart,e1]
 ·intro j hj hs
  by_cases e:j=i
  ·subst e;exact hd
  ·rw [gS e] at hs;exact I.sub j hj hs
 ·intro j oj hj hoj hdj hs;have e:j≠i:=λe=>by subst e;rw [eR] at hs;cases hs
  rw [gS e] at hs;exact I.light j oj hj hoj hdj hs
 ·intro j oj hj hoj hdj hs;have e:j≠i:=λe=>by subst e;rw [eR] at hs;cases hs
  rw [gS e] at hs;exact I.past j oj hj hoj hdj hs
theorem GS.heavy (F:Fit ops n []) {i k:Nat} {o:Oper} {v:Value} {r:List (Nat × Nat × Oper)} {W':World} {H':Hp} {bs':List Res} (I:GS dfs P ops w0 n N a0 E listed a W val dec L H bs pa ((i,k+1,o)::r)) (hr:i∈Region.ready .any ops listed)
 (hs:St H' w0 bs' W') (hws:k=1\/(∀ W,St H' w0 bs' W->St H w0 bs W)\/iX dfs P ops n w0 N L H' bs' i pa) (hp:dU dfs P ops n w0 N E r pa (putL o.dst v L) H' bs') :
 GS dfs P ops w0 n N a0 E (listed.setIfInBounds i true) (a.put o.dst v) W' (upd val i v) (upd dec i true) (putL o.dst v L) H' bs' pa r:=by
 obtain ⟨hi,hii,hrr,ho',hex⟩:=zO I.order;obtain ⟨hdi,ho⟩:=I.undec _ Hm;have hN:=I.plan.1;have hun:st listed i=false:=(mem_ready.1 hr).1;have e1:iO ops i=o.dst:=by simp [iO,ho]
 have hput:=LI (a0:=a0) (val:=val) (v:=v) F hi ho hdi
 have hdeps:∀ j,j<n->Region.waitsFor .any ops i j=true->dec j=true:=λj hj hw=>by
  rcases I.cover j hj with h | ⟨x,hx,rfl⟩
  ·exact h
  ·rcases bP.1 hx with rfl | hx
   ·rw [hii] at hw;cases hw
   ·rw [(hrr x hx).2.1] at hw;cases hw
 refine ⟨I.head.set hr hi,?_,?_,?_,hs,?_,hp,?_,?_,?_,ho',?_⟩
 ·rw [I.frame,pS (upd val i v) (st listed) (st (listed.setIfInBounds i true)) a0 i eR hun (λk hk=>gS hk) n hi F.apart,e1,gW]
  congr 1
  refine jC _ _ _ _ a0 n λk _=>⟨Z,λhk=>(dY _ _ λe=>?_).symm⟩;subst e;rw [hun] at hk;cases hk
 ·rw [hput];exact I.full.putL v hN
 ·intro j hj hs
  by_cases e:j=i
  ·subst e;exact gW _ _ _
  ·rw [dY _ _ e];rw [gS e] at hs;exact I.sub j hj hs
 ·intro j oj hj hoj hd hs W hW;have e:j≠i:=λe=>by subst e;rw [eR] at hs;cases hs
  rw [gS e] at hs;rw [dY _ _ e] at hd|-
  have hdone:mH ops n i j=true->False:=λh1=>by
   obtain ⟨_,oi,hoi,hall⟩:=mem_ready.1 hr
   have h2:=pH I.head n i j h1 (λok hok x hx hb=>by
    obtain rfl:ok=oi:=bH (hok.symm.trans hoi);exact hall x hx hb)
   rw [getD_both hs] at h2;cases h2
  have hy:Yq P ops oj (val j) (frm ops val dec n a0) W:=by
   rcases hws with hk | hw | hw
   ·exact (hdone (hex (by omega) j hj e (λx hx e2=>by
     have:=(I.undec x (.tail _ hx)).1;rw [e2,hd] at this;cases this))).elim
   ·exact I.light j oj hj hoj hd hs W (hw W hW)
   ·rcases hw.at (I.past j oj hj hoj hd hs) with h1 | h1
    ·exact (hdone h1).elim
    ·exact h1 _ W I.full hW
  refine Yq.same (λcs b=>F.sel j oj cs b hoj) (λt ht=>?_) hy;refine rS F hj hoj (λk hk hw=>?_) t ht;have hkd:=I.deps j k hj hk hd hw;have hki:k≠i:=λe=>by subst e;rw [hdi] at hkd;cases hkd
  exact ⟨by rw [dY _ _ hki];exact hkd,hkd,dY _ _ hki⟩
 ·intro j oj hj hoj hd hs;have e:j≠i:=λe=>by subst e;rw [eR] at hs;cases hs
  rw [gS e] at hs;rw [dY _ _ e] at hd|-;exact I.past j oj hj hoj hd hs
 ·intro x hx;obtain ⟨h1,h2⟩:=I.undec x (.tail _ hx);exact ⟨by rw [dY _ _ (hrr x hx).1];exact h1,h2⟩
 ·intro j hj
  by_cases e:j=i
  ·subst e;exact .inl (gW _ _ _)
  ·rcases I.cover j hj with h | ⟨x,hx,rfl⟩
   ·exact .inl (by rw [dY _ _ e];exact h)
   ·rcases bP.1 hx with rfl | hx
    ·exact absurd rfl e
    ·exact .inr ⟨x,hx,Z⟩
 ·intro j k hj hk hd hw
  by_cases e:j=i
  ·subst e;have hki:k≠j:=λe=>by subst e;rw [hii] at hw;cases hw
   rw [dY _ _ hki];exact hdeps k hk hw
  ·rw [dY _ _ e] at hd;have:=I.deps j k hj hk hd hw
   by_cases e2:k=i
   ·subst e2;exact gW _ _ _
   ·rw [dY _ _ e2];exact this
theorem aP8 (F:Fit ops n []) (hend:∀ L H bs,E L H bs->At dfs N L H w0 bs (wpList P ops Q (ops.toList.drop n))) :
 ∀ (m:Nat) (rest:List (Nat × Nat × Oper)) (listed:Array Bool) (a:Act) (W:World) (val:Nat->Value) (dec:Nat->Bool) (L:Sl) (H:Hp) (bs:List Res) (pa:List (Nat × Oper × Value)),cnt (st listed) n=m ->
  GS dfs P ops w0 n N a0 E listed a W val dec L H bs pa rest->wpAny P .any ops Q (m+(ops.size - n)) listed a W:=by
 intro m;induction m with
 | zero =>
  intro rest;induction rest with
  | nil =>
   intro listed a W val dec L H bs pa hm I;have hall:=rC _ n hm
   have hcan:listed=((List.range ops.size).map λk=>decide (k<n)).toArray:=by
    apply wZ
    ·simp [I.head.size]
    ·intro k h1 h2;have hk:k<ops.size:=by rw [<-I.head.size];exact h1
     simp only [oW,sG,qJ]
     by_cases hkn:k<n
     ·have:=hall k hkn;simp [st,h1] at this;simp [this,hkn]
     ·have:=I.head.tail k (by omega) hk;simp [h1] at this;simp [this,hkn]
   rw [dT];have hlen:(ops.toList.drop n).length=ops.size - n:=by simp
   rw [<-hlen];refine wpAny_of_seq (ops.toList.drop n) n listed a W (λj=>by simp [List.getElem?_drop]) (by rw [hlen,hcan];exact F.seq) ?_
   have hfr:a=frm ops val dec n a0:=by
    rw [I.frame];exact jC _ _ _ _ a0 n (λk hk=>⟨by rw [hall k hk,I.sub k hk (hall k hk)],λ_=>rfl⟩)
   rw [hfr];exact hend L H bs I.plan _ W I.full I.world
  | cons x r ih =>
   intro listed a W val dec L H bs pa hm I;obtain ⟨i,hv,o⟩:=x;have hall:=rC _ n hm;obtain ⟨hi,_⟩:=zO I.order;have:=I.sub i hi (hall i hi);rw [(I.undec _ Hm).1] at this;cases this
 | succ m ih =>
  intro rest;induction rest with
  | cons x r ihr =>
   intro listed a W val dec L H bs pa hm I;obtain ⟨i,kd,o⟩:=x;cases kd with
   | zero =>
    obtain ⟨val',L',pa',I'⟩:=I.decide F;exact ihr listed a W val' _ L' H bs pa' hm I'
   | succ kd =>
    obtain ⟨k0,hk0,hun0,hbelow⟩:=DN (st listed) n (by omega);have hk0s:k0<ops.size:=by have:=F.lt;omega
    have hready0:k0∈Region.ready .any ops listed:=by
     refine mem_ready.2 ⟨hun0,ops[k0],Array.getElem?_eq_getElem hk0s,λe he hb=>?_⟩;have hlt:=F.back k0 _ (Array.getElem?_eq_getElem hk0s) e he hb;have:=hbelow e.on hlt;have hsz:e.on<listed.size:=by rw [I.head.size];omega
     simpa [st,hsz] using this
    rw [show m+1+(ops.size - n)=(m+(ops.size - n))+1 by omega];refine ⟨λh0=>(by rw [h0] at hready0;cases hready0),λj hj=>?_⟩
    have hjn:j<n:=by
     rcases iA j n with h | h
     ·exact h
     ·exact absurd hj (yM F.sink F.chain I.head _ k0 rfl hk0 rfl hun0 j h)
    obtain ⟨hun,oj,hoj,hall⟩:=mem_ready.1 hj
    have hcnt:cnt (st (listed.setIfInBounds j true)) n=m:=by
     have:=xW (st listed) (st (listed.setIfInBounds j true)) j eR hun (λk hk=>gS hk) n hjn;omega
    have hS:∀ k,k<n->Region.waitsFor .any ops j k=true->st listed k=true:=by
     intro k hk hw;obtain ⟨oi,hoi,e,he,hb,hon⟩:=Region.waitsFor_spec hw;obtain rfl:oi=oj:=bH (hoi.symm.trans hoj);have h1:=hall e he hb;rw [hon] at h1;have hsz:k<listed.size:=by rw [I.head.size];have:=F.lt;omega
     simp [hsz] at h1;simp [st,hsz,h1]
    have hev:∀ t∈oj.looksAt ops,a.eval (.tmp t)=(frm ops val dec n a0).eval (.tmp t):=λt ht=>by
     rw [I.frame];exact rS F hjn hoj (λk hk hw=>⟨hS k hk hw,I.sub k hk (hS k hk hw),Z⟩) t ht
    rcases I.cover j hjn with hd | ⟨x,hx,rfl⟩
    ·have hy:Yq P ops oj (val j) a W:=Yq.same (λcs b=>F.sel j oj cs b hoj) hev (I.light j oj hjn hoj hd hun W I.world);exact hy.wpOp hoj λW' hx=>ih _ _ _ _ _ _ _ _ _ _ hcnt (I.step F hjn hoj hj hd hx)
    ·rcases bP.1 hx with rfl | hx
     ·dsimp only at *;obtain rfl:o=oj:=bH ((I.undec _ Hm).2.symm.trans hoj);refine MP hoj (λcs b=>F.sel i o cs b hoj) hev (λb W' ⟨v,H',bs',hf,_⟩=>hf.defers) I.full.defers ?_ (I.plan.2 _ W I.full I.world);rintro v W' ⟨v',H',bs',hf,hs,hw,hp⟩
      have hvv:putL o.dst v' L=putL o.dst v L:=by
       cases hdst:o.dst with
       | none=>rfl
       | some t =>
        rw [hdst] at hf;have h1:=hf.slot t v' (by unfold putL look;rw [lU,lI]);have h2:t<N:=I.plan.1 t hdst;have h3:=(I.full.put (by simpa [nZ] using h2) v).slot t v (by unfold look;rw [lU,lI]);rw [h3] at h1;rw [h1]
      rw [hvv] at hp;exact ih _ _ _ _ _ _ _ _ _ _ hcnt (I.heavy F hj hs hw hp)
     ·have hre:=(zO I.order).2.2.1 x hx
      have h1:=pH I.head n x.1 i (hre.2.2 (by omega)) (λok hok e he hb=>by
       obtain rfl:ok=oj:=bH (hok.symm.trans hoj);exact hall e he hb)
      have h2:st listed i=false:=by
       cases h:st listed i with
       | false=>rfl
       | true =>
        have:=I.sub i (zO I.order).1 h;rw [(I.undec _ Hm).1] at this;cases this
      rw [getD_both h2] at h1;cases h1
  | nil =>
   intro listed a W val dec L H bs pa hm I;obtain ⟨k0,hk0,hun0,hbelow⟩:=DN (st listed) n (by omega);have hk0s:k0<ops.size:=by have:=F.lt;omega
   have hready0:k0∈Region.ready .any ops listed:=by
    refine mem_ready.2 ⟨hun0,ops[k0],Array.getElem?_eq_getElem hk0s,λe he hb=>?_⟩;have hlt:=F.back k0 _ (Array.getElem?_eq_getElem hk0s) e he hb;have:=hbelow e.on hlt;have hsz:e.on<listed.size:=by rw [I.head.size];omega
    simpa [st,hsz] using this
   rw [show m+1+(ops.size - n)=(m+(ops.size - n))+1 by omega];refine ⟨λh0=>(by rw [h0] at hready0;cases hready0),λj hj=>?_⟩
   have hjn:j<n:=by
    rcases iA j n with h | h
    ·exact h
    ·exact absurd hj (yM F.sink F.chain I.head _ k0 rfl hk0 rfl hun0 j h)
   obtain ⟨hun,oj,hoj,hall⟩:=mem_ready.1 hj
   have hcnt:cnt (st (listed.setIfInBounds j true)) n=m:=by
    have:=xW (st listed) (st (listed.setIfInBounds j true)) j eR hun (λk hk=>gS hk) n hjn;omega
   have hS:∀ k,k<n->Region.waitsFor .any ops j k=true->st listed k=true:=by
    intro k hk hw;obtain ⟨oi,hoi,e,he,hb,hon⟩:=Region.waitsFor_spec hw;obtain rfl:oi=oj:=bH (hoi.symm.trans hoj);have h1:=hall e he hb;rw [hon] at h1;have hsz:k<listed.size:=by rw [I.head.size];have:=F.lt;omega
    simp [hsz] at h1;simp [st,hsz,h1]
   have hev:∀ t∈oj.looksAt ops,a.eval (.tmp t)=(frm ops val dec n a0).eval (.tmp t):=λt ht=>by
    rw [I.frame];exact rS F hjn hoj (λk hk hw=>⟨hS k hk hw,I.sub k hk (hS k hk hw),Z⟩) t ht
   rcases I.cover j hjn with hd | ⟨x,hx,rfl⟩
   ·have hy:Yq P ops oj (val j) a W:=Yq.same (λcs b=>F.sel j oj cs b hoj) hev (I.light j oj hjn hoj hd hun W I.world);exact hy.wpOp hoj λW' hx=>ih _ _ _ _ _ _ _ _ _ _ hcnt (I.step F hjn hoj hj hd hx)
   ·cases hx
theorem aJ5 {l:List Oper} {trip:List (Nat × Nat × Oper)} (n:Nat) (ord:List (Nat × Nat)) (hB:RA l.toArray n ord=true) (ht:ord.map (λx=>(x.1,x.2,l[x.1]!))=trip)
 (h:dU dfs P l.toArray n w0 N (λL H bs=>At dfs N L H w0 bs (wpList P l.toArray Q (l.drop n))) trip [] L H bs):∀ a W,Fr dfs N L a->St H w0 bs W->wpAny P .any l.toArray Q l.toArray.size (Array.replicate l.toArray.size false) a { W with drawn:=W.drawn+1 }:=by
 simp only [RA,aC] at hB;obtain ⟨⟨h1,h2⟩,h3⟩:=hB;have F:=Fit.of h1;have hlt:n<l.length:=by simpa using F.lt
 intro a W f s;have hsz:l.toArray.size=l.length:=by simp
 have hc0:∀ m,m<=n->cnt (st (Array.replicate l.toArray.size false)) m=m:=by
  intro m;induction m with
  | zero=>intro _;rfl
  | succ m ih =>
   intro hm;unfold cnt;rw [ih (by omega)]
   have:st (Array.replicate l.toArray.size false) m=false:=by
    have:m<l.length:=by omega
    simp [st,this]
   rw [this];simp
 have hmap:trip.map UJ=ord:=by
  subst ht;rw [BV]
  conv=>rhs;rw [<-List.map_id ord]
  exact List.map_congr_left λx _=>rfl
 have hfrm:∀ (val:Nat->Value) (m:Nat),frm l.toArray val (λ_=>false) m a=a:=λval m=>by
  induction m with
  | zero=>rfl
  | succ m ih=>unfold frm;simp [ih]
 have hall:∀ m,m<=n->∀ k,k<m->st (Array.replicate l.toArray.size false) k=false:=λm hm k hk=>by
  have:k<l.length:=by omega
  simp [st,this]
 have hh:HeadInv .any l.toArray n (Array.replicate l.toArray.size false):=by
  refine ⟨by simp,λj oj hj hl=>?_,λt ht ht'=>?_⟩
  ·exfalso
   rcases iA j l.length with h | h
   ·simp [h] at hl
   ·simp [h] at hl
  ·have:t<l.length:=by simpa using ht'
   simp [this]
 have key:=aP8 (Q:=Q) (a0:=a) F (λL H bs h=>by simpa using h) n trip (Array.replicate l.toArray.size false) a _ (λ_=>undef) (λ_=>false) L H bs [] (hc0 n (aW _))
  ⟨hh,?_,by rw [hfrm];exact f,?_,s.more ((Ext.refl W).drew),λ_ _ _ _ h=>(by cases h),h,λ_ _ _ _ h=>(by cases h),?_,?_,by rw [hmap];exact h2,λ_ _ _ _ h=>(by cases h)⟩
 ·have:n+(l.toArray.size - n)=l.toArray.size:=by rw [hsz];omega
  rw [this] at key;exact key
 ·rw [jC (λ_=>undef) (λ_=>undef) _ (λ_=>false) a n (λk hk=>⟨hall n (aW _) k hk,λ_=>rfl⟩),hfrm]
 ·intro i hi hs;rw [hall n (aW _) i hi] at hs;cases hs
 ·intro x hx;refine ⟨Z,?_⟩;subst ht;obtain ⟨y,hy,rfl⟩:=pY.1 hx
  have hyn:y.1<n:=by
   have:∀ (ord:List (Nat × Nat)),WT l.toArray n ord=true->∀ y∈ord,y.1<n:=by
    intro ord;induction ord with
    | nil=>intro _ y hy;cases hy
    | cons z r ih =>
     intro ho y hy;simp only [WT,aC,aA] at ho;rcases bP.1 hy with rfl | hy
     ·exact ho.1.1.1.1
     ·exact ih ho.1.2 y hy
   exact this ord h2 y hy
  have:y.1<l.length:=by omega
  simp [this]
 ·intro i hi
  right
  obtain ⟨y,hy,e⟩:=iZ.1 (bC.1 h3 i (bU.2 hi));subst ht;exact ⟨_,pY.2 ⟨y,hy,Z⟩,by simpa using e⟩
theorem cN0 {id:Nat} {l:List Oper} {trip:List (Nat × Nat × Oper)} (n:Nat) (ord:List (Nat × Nat)) (hm:P.follows .mixedOrders=true) (hB:RA l.toArray n ord=true) (ht:ord.map (λx=>(x.1,x.2,l[x.1]!))=trip)
 (h:dU dfs P l.toArray n w0 N (λL H bs=>At dfs N L H w0 bs (wpList P l.toArray Q (l.drop n))) trip [] L H bs):At dfs N L H w0 bs ((Code.region id l.toArray true).wp P Q) :=
 λa W f s=>wp_region_any hm (aJ5 n ord hB ht h a W f s)
end
end Go.Sx
/- The rules of the walk under short names, and further operations. -/
namespace Go.Sx
open Go.RowKit Go.Par
section
variable {dfs:List Deferred} {P:Program} {n:Nat} {L:Sl} {H:Hp} {w0:World} {bs:List Res} {Q:Exit->Act->World->Prop} {ops:Array Oper} {rest:List Oper} {K:Act->World->Prop}
variable {d:Option Tmp} {ty:TypeId} {pos:String} {aft:Array Edge} {g:Option (Nat × Bool)} {v:Value} {t:Tmp} {op:Op} {x y z:Operand} {T T':TypeId}
/-! ### Further operations -/
theorem Yl.nilCheck {a:Addr} (hx:ev L x=some (.pointer (some a))):Yl P L H w0 bs ⟨d,.nilCheck x,ty,pos,aft,g⟩ (.pointer (some a)):=.of_run λac W f _=>by
 unfold execOp;simp [f x _ hx]
theorem Yl.max2 {k k':IntKind} {i j c:Int} {ts:Array TypeId} (hx:ev L x=some (.int k i)) (hy:ev L y=some (.int k' j)) (hc:max i j=c):Yl P L H w0 bs ⟨d,.call ⟨.builtin .max,#[x,y],ts⟩,ty,pos,aft,g⟩ (.int k c):=.of_run λa W f _=>by
 subst hc;have e:(if j > i then j else i)=max i j:=by rw [Int.max_def];split <;> split <;> omega
 unfold execOp;simp [f x _ hx,f y _ hy,resolve,invoke,builtin,Builtin.max_,Builtin.max2,e]
theorem Yl.min2 {k k':IntKind} {i j c:Int} {ts:Array TypeId} (hx:ev L x=some (.int k i)) (hy:ev L y=some (.int k' j)) (hc:min i j=c):Yl P L H w0 bs ⟨d,.call ⟨.builtin .min,#[x,y],ts⟩,ty,pos,aft,g⟩ (.int k c):=.of_run λa W f _=>by
 subst hc;have e:(if j<i then j else i)=min i j:=by rw [Int.min_def];split <;> split <;> omega
 unfold execOp;simp [f x _ hx,f y _ hy,resolve,invoke,builtin,Builtin.min_,Builtin.min2,e]
theorem aB6 {f:FuncId} {xs:List Operand} {vs fi ca:List Value} {ats:Array TypeId} {a:Act} {W:World} (hc:cV P f=true) (f0:∀ x u,ev L x=some u->a.eval x=u) (hx:ev L x=some (.func (.func f) fi.toArray ca.toArray)) (hv:evs L xs=some vs) :
 (execOp a.eval ⟨d,.call ⟨.value x,xs.toArray,ats⟩,ty,pos,aft,g⟩).run P W=.ok (.enter f (fi++vs++ca).toArray) W:=by
 unfold execOp;have hm:=AY f0 hv;simp only [resolve,f0 x _ hx,Deferred.ofValue,Sem.run_bind,Sem.run_pure,Result.andThen,invoke,kT,hm];simp only [List.append_toArray];exact AG hc
theorem Yl.callV {f:FuncId} {xs:List Operand} {vs fi ca:List Value} {ats:Array TypeId} (hx:ev L x=some (.func (.func f) fi.toArray ca.toArray)) (hf:cV P f=true) (hv:evs L xs=some vs) (hc:∀ W,St H w0 bs W->Calls P f (fi++vs++ca).toArray W λe W'=>e=.returned v/\Ext W W') :
 Yl P L H w0 bs ⟨d,.call ⟨.value x,xs.toArray,ats⟩,ty,pos,aft,g⟩ v:=λa W f0 s=>by
 rw [aB6 hf f0 hx hv];exact ⟨Z,hc W s⟩
theorem Yl.cast {o:Oper} {v':Value} (h:Yl P L H w0 bs o v) (e:v=v'):Yl P L H w0 bs o v':=e ▸ h
/-! ### Code -/
theorem At.sq {x y:Code} (h:At dfs n L H w0 bs (x.wp P (Exit.then (y.wp P Q) Q))):At dfs n L H w0 bs ((Code.seq x y).wp P Q):=seq h
theorem At.bk {id:Nat} {c:Code} (h:At dfs n L H w0 bs (c.wp P (Exit.inBlock id Q))):At dfs n L H w0 bs ((Code.block id c).wp P Q):=blk h
theorem At.sk (h:At dfs n L H w0 bs (Q .normal)):At dfs n L H w0 bs (Code.skip.wp P Q):=skip h
theorem At.rt (h:At dfs n L H w0 bs (Q .ret)):At dfs n L H w0 bs (Code.ret.wp P Q):=ret h
theorem At.ex {id:Nat} (h:At dfs n L H w0 bs (Q (.exit id))):At dfs n L H w0 bs ((Code.exit id).wp P Q):=exit h
theorem At.cd {c:Operand} {x y:Code} {t:Bool} (hc:ev L c=some (.bool t)) (h1:t=true->At dfs n L H w0 bs (x.wp P Q)) (h2:t=false->At dfs n L H w0 bs (y.wp P Q)):At dfs n L H w0 bs ((Code.cond c x y).wp P Q):=cond hc h1 h2
theorem At.cT {c:Operand} {x y:Code} (hc:ev L c=some (.bool true)) (h:At dfs n L H w0 bs (x.wp P Q)):At dfs n L H w0 bs ((Code.cond c x y).wp P Q):=cK4 hc h
theorem At.cF {c:Operand} {x y:Code} (hc:ev L c=some (.bool false)) (h:At dfs n L H w0 bs (y.wp P Q)):At dfs n L H w0 bs ((Code.cond c x y).wp P Q):=cK5 hc h
theorem At.rg {id:Nat} {l:List Oper} (h:At dfs n L H w0 bs (wpList P l.toArray Q l)):At dfs n L H w0 bs ((Code.region id l.toArray false).wp P Q):=region h
theorem At.nl (h:At dfs n L H w0 bs (Q .normal)):At dfs n L H w0 bs (wpList P ops Q []):=nil h
theorem At.tN (h:At dfs n L H w0 bs K):At dfs n L H w0 bs (Exit.then K Q .normal):=h
theorem At.tR (h:At dfs n L H w0 bs (Q .ret)):At dfs n L H w0 bs (Exit.then K Q .ret):=h
theorem At.tE {id:Nat} (h:At dfs n L H w0 bs (Q (.exit id))):At dfs n L H w0 bs (Exit.then K Q (.exit id)):=h
theorem At.bN {id:Nat} (h:At dfs n L H w0 bs (Q .normal)):At dfs n L H w0 bs (Exit.inBlock id Q .normal):=h
theorem At.bR {id:Nat} (h:At dfs n L H w0 bs (Q .ret)):At dfs n L H w0 bs (Exit.inBlock id Q .ret):=h
theorem At.bE {id:Nat} (h:At dfs n L H w0 bs (Q .normal)):At dfs n L H w0 bs (Exit.inBlock id Q (.exit id)):=cN6 h
/-! ### Operations, one behind the other -/
theorem At.yv (hy:Yl P L H w0 bs ⟨some t,op,ty,pos,aft,none⟩ v) (ht:Nat.blt t n=true) (h:At dfs n ((t,v)::L) H w0 bs (wpList P ops Q rest)):At dfs n L H w0 bs (wpList P ops Q (⟨some t,op,ty,pos,aft,none⟩::rest)):=cons (yl hy ht h)
theorem At.m (hx:ev L x=some v) (ht:Nat.blt t n=true) (h:At dfs n ((t,v)::L) H w0 bs (wpList P ops Q rest)):At dfs n L H w0 bs (wpList P ops Q (⟨some t,.move x,ty,pos,aft,none⟩::rest)):=cons (yl (.move hx) ht h)
theorem At.a (hx:ev L x=some v) (ht:Nat.blt t n=true) (h:At dfs n ((t,v)::L) H w0 bs (wpList P ops Q rest)):At dfs n L H w0 bs (wpList P ops Q (⟨some t,.assign x,ty,pos,aft,none⟩::rest)):=cons (yl (.assign hx) ht h)
theorem At.gd {j:Nat} {b:Bool} {u:Tmp} (hd:(ops[j]?).bind (·.dst)=some u) (hs:look L u=some (.bool b)) (h:At dfs n L H w0 bs (wpList P ops Q (⟨d,op,ty,pos,aft,none⟩::rest))):At dfs n L H w0 bs (wpList P ops Q (⟨d,op,ty,pos,aft,some (j,b)⟩::rest)):=cons (cC2 hd hs h)
theorem At.gF {j:Nat} {b c:Bool} {u:Tmp} (hd:(ops[j]?).bind (·.dst)=some u) (hs:look L u=some (.bool c)) (hne:(c == b)=false) (ht:Nat.blt t n=true) (h:At dfs n ((t,undef)::L) H w0 bs (wpList P ops Q rest)):At dfs n L H w0 bs (wpList P ops Q (⟨some t,op,ty,pos,aft,some (j,b)⟩::rest)):=cons (cC3 hd hs hne ht h)
theorem At.gU {j:Nat} {b:Bool} {u:Tmp} (hd:(ops[j]?).bind (·.dst)=some u) (hs:look L u=some undef) (ht:Nat.blt t n=true) (h:At dfs n ((t,undef)::L) H w0 bs (wpList P ops Q rest)):At dfs n L H w0 bs (wpList P ops Q (⟨some t,op,ty,pos,aft,some (j,b)⟩::rest)):=cons (cC1 hd hs ht h)
theorem At.b2 {p:Bool} {G:Act->World->Prop} (h1:p=true->At dfs n ((t,.bool true)::L) H w0 bs G) (h2:p=false->At dfs n ((t,.bool false)::L) H w0 bs G):At dfs n ((t,.bool p)::L) H w0 bs G:=bool h1 h2
theorem At.al {l:List Value} (hz:qK P T=some l) (ht:Nat.blt t n=true) (h:∀ b,At dfs n ((t,.pointer (some ⟨b,0,none⟩))::L) H w0 (.box b l T::bs) (wpList P ops Q rest)):At dfs n L H w0 bs (wpList P ops Q (⟨some t,.alloc T,ty,pos,aft,none⟩::rest)):=cons (alloc hz ht h)
theorem At.bx {l:List Value} (hx:ev L x=some v) (hl:v.cells.toList=l) (ht:Nat.blt t n=true) (h:∀ b,At dfs n ((t,.pointer (some ⟨b,0,none⟩))::L) H w0 (.box b l T::bs) (wpList P ops Q rest)):At dfs n L H w0 bs (wpList P ops Q (⟨some t,.box T x,ty,pos,aft,none⟩::rest)):=cons (box hx hl ht h)
theorem At.st {b off:Nat} {l l':List Value} {t':TypeId} {bs':List Res} (hm:Upd bs (.box b l t') (.box b l' t') bs') (hp:ev L x=some (.pointer (some ⟨b,off,none⟩))) (hv:ev L y=some v) (hT:iP P T=some 1) (h1:v.oneCell'=true) (ho:off<l.length) (hl:l.set off v=l') (h:At dfs n L H w0 bs' (wpList P ops Q rest)) :
 At dfs n L H w0 bs (wpList P ops Q (⟨none,.store T x y,ty,pos,aft,none⟩::rest)):=cons (store hp hv hT h1 hm ho hl h)
theorem At.sW {b:Nat} {l vs:List Value} {t':TypeId} {bs':List Res} (hm:Upd bs (.box b l t') (.box b vs t') bs') (hp:ev L x=some (.pointer (some ⟨b,0,none⟩))) (hv:ev L y=some (.agg vs.toArray)) (hT:iP P T=some vs.length) (h1:∀ u∈vs,u.oneCell'=true) (ho:l.length=vs.length) (h:At dfs n L H w0 bs' (wpList P ops Q rest)) :
 At dfs n L H w0 bs (wpList P ops Q (⟨none,.store T x y,ty,pos,aft,none⟩::rest)):=cons (MF hp hv hT h1 hm ho h)
theorem At.sV {b m:Nat} {l vs:List Value} {t':TypeId} {bs':List Res} (hm:Upd bs (.box b l t') (.box b vs t') bs') (hp:ev L x=some (.pointer (some ⟨b,0,none⟩))) (hv:ev L y=some (.agg vs.toArray)) (hT:iP P T=some m) (hl:vs.length=m) (h1:∀ u∈vs,u.oneCell'=true) (ho:l.length=m) (h:At dfs n L H w0 bs' (wpList P ops Q rest)) :
 At dfs n L H w0 bs (wpList P ops Q (⟨none,.store T x y,ty,pos,aft,none⟩::rest)):=cons (MF hp hv (hl ▸ hT) h1 hm (ho.trans hl.symm) h)
theorem At.bl {ps:List (Nat × Operand)} {pv:List (Nat × Value)} {len:Nat} {e:TypeId} {l:List Value} (hv:evp L ps=some pv) (hb:uO P T len pv=some (e,l)) (ht:Nat.blt t n=true)
 (h:∀ b,At dfs n ((t,.slice (some ⟨b,0,none⟩) len len)::L) H w0 (.box b l e::bs) (wpList P ops Q rest)):At dfs n L H w0 bs (wpList P ops Q (⟨some t,.buildSlice T len ps.toArray,ty,pos,aft,none⟩::rest)):=cons (buildSlice hv hb ht h)
theorem At.ct {X:Type} {f:FuncId} {xs:List Operand} {vs:List Value} {ats:Array TypeId} {C:X->Hp->Prop} {val:X->Value} (hf:cV P f=true) (hv:evs L xs=some vs)
 (hc:∀ W,St H w0 bs W->Calls P f vs.toArray W λe W'=>∃ x H',C x H'/\e=.returned (val x)/\zT H W H' W') (ht:Nat.blt t n=true)
 (h:∀ x H',C x H'->HUp w0 H H'->At dfs n ((t,val x)::L) H' w0 bs (wpList P ops Q rest)):At dfs n L H w0 bs (wpList P ops Q (⟨some t,.call ⟨.value (.func f),xs.toArray,ats⟩,ty,pos,aft,none⟩::rest)):=cons (bX6 hf hv hc ht h)
theorem At.cs {X:Type} {f:FuncId} {xs:List Operand} {vs:List Value} {ats:Array TypeId} {C:X->Prop} {val:X->Value} {H':X->Hp} {bs':X->List Res} (hf:cV P f=true) (hv:evs L xs=some vs)
 (hc:∀ W,St H w0 bs W->Calls P f vs.toArray W λe W'=>∃ x,C x/\e=.returned (val x)/\St (H' x) w0 (bs' x) W') (ht:Nat.blt t n=true)
 (h:∀ x,C x->At dfs n ((t,val x)::L) (H' x) w0 (bs' x) (wpList P ops Q rest)):At dfs n L H w0 bs (wpList P ops Q (⟨some t,.call ⟨.value (.func f),xs.toArray,ats⟩,ty,pos,aft,none⟩::rest)):=cons (bJ4 hf hv hc ht h)
theorem At.ap {e:TypeId} {size bytes m c k b off:Nat} {r:Value} {xs news:List Value} {bs':Value->List Res} (hT:AH P T=some (e,size,bytes)) (hx:ev L x=some r) (hm:∀ r',Upd bs (.row e size r k xs) (.row e size r' (k+m) (xs++news)) (bs' r'))
 (hy:ev L y=some (.slice (some ⟨b,off,none⟩) m c)) (hs:Src H bs b off news) (hl:news.length=m * size) (h1:∀ u∈news,u.oneCell'=true) (h63:k+m<=maxLen) (hb:(k+m) * bytes<=140737488355328) (ht:Nat.blt t n=true)
 (h:∀ r',(r'=.slice none 0 0↔r=.slice none 0 0/\m=0)->At dfs n ((t,r')::L) H w0 (bs' r') (wpList P ops Q rest)):At dfs n L H w0 bs (wpList P ops Q (⟨some t,.call ⟨.builtin .append,#[x,y],#[T,T]⟩,ty,pos,aft,none⟩::rest)):=cons (append hT hx hm hy hs hl h1 h63 hb ht h)
/-! ### Operations in a drawn region -/
theorem St.weakH {H':Hp} {W:World} (u:Up H H') (s:St H' w0 bs W):St H w0 bs W :=
 ⟨s.ext,⟨λb o e=>s.agr b o (u b o e),u.lo ▸ s.agr.lo⟩,λx hx=>⟨(s.own x hx).1,λb e=>by
  cases h:H b with
  | none=>rfl
  | some o=>have:=(s.own x hx).2 b e;rw [u b o h] at this;cases this⟩,s.apart,u.lo ▸ s.lo⟩
variable {N hn:Nat} {pa:List (Nat × Oper × Value)} {E:Sl->Hp->List Res->Prop} {r:List (Nat × Nat × Oper)} {i k:Nat}
theorem rD {t N:Nat} (h:Nat.blt t N=true):∀ s,some t=some s->s<N:=λs e=>by cases e;simpa [nZ] using h
theorem dU.yv (hy:Yl P L H w0 bs ⟨some t,op,ty,pos,aft,none⟩ v) (ht:Nat.blt t N=true) (h:dU dfs P ops hn w0 N E r ((i,⟨some t,op,ty,pos,aft,none⟩,v)::pa) ((t,v)::L) H bs):dU dfs P ops hn w0 N E ((i,0,⟨some t,op,ty,pos,aft,none⟩)::r) pa L H bs :=
 ⟨v,λa W f s=>.inl ⟨by simp [Region.wanted],hy a W (λx u e=>f.ev e) s⟩,rD ht,h⟩
theorem dU.m (hx:ev L x=some v) (ht:Nat.blt t N=true) (h:dU dfs P ops hn w0 N E r ((i,⟨some t,.move x,ty,pos,aft,none⟩,v)::pa) ((t,v)::L) H bs):dU dfs P ops hn w0 N E ((i,0,⟨some t,.move x,ty,pos,aft,none⟩)::r) pa L H bs:=.yv (.move hx) ht h
theorem dU.a (hx:ev L x=some v) (ht:Nat.blt t N=true) (h:dU dfs P ops hn w0 N E r ((i,⟨some t,.assign x,ty,pos,aft,none⟩,v)::pa) ((t,v)::L) H bs):dU dfs P ops hn w0 N E ((i,0,⟨some t,.assign x,ty,pos,aft,none⟩)::r) pa L H bs:=.yv (.assign hx) ht h
theorem dU.yg {j:Nat} {b:Bool} {u:Tmp} (hd:(ops[j]?).bind (·.dst)=some u) (hs:look L u=some (.bool b)) (hy:Yl P L H w0 bs ⟨some t,op,ty,pos,aft,some (j,b)⟩ v) (ht:Nat.blt t N=true) (h:dU dfs P ops hn w0 N E r ((i,⟨some t,op,ty,pos,aft,some (j,b)⟩,v)::pa) ((t,v)::L) H bs) :
 dU dfs P ops hn w0 N E ((i,0,⟨some t,op,ty,pos,aft,some (j,b)⟩)::r) pa L H bs :=
 ⟨v,λa W f s=>.inl ⟨by simp [Region.wanted,VI f hd hs],hy a W (λx u e=>f.ev e) s⟩,rD ht,h⟩
theorem dU.gF {j:Nat} {b c:Bool} {u:Tmp} (hd:(ops[j]?).bind (·.dst)=some u) (hs:look L u=some (.bool c)) (hne:(c == b)=false) (ht:Nat.blt t N=true) (h:dU dfs P ops hn w0 N E r ((i,⟨some t,op,ty,pos,aft,some (j,b)⟩,undef)::pa) ((t,undef)::L) H bs) :
 dU dfs P ops hn w0 N E ((i,0,⟨some t,op,ty,pos,aft,some (j,b)⟩)::r) pa L H bs :=
 ⟨undef,λa W f s=>.inr ⟨by simp only [Region.wanted,VI f hd hs];simp;intro e;subst e;simp at hne,Z⟩,rD ht,h⟩
theorem dU.gU {j:Nat} {b:Bool} {u:Tmp} (hd:(ops[j]?).bind (·.dst)=some u) (hs:look L u=some undef) (ht:Nat.blt t N=true) (h:dU dfs P ops hn w0 N E r ((i,⟨some t,op,ty,pos,aft,some (j,b)⟩,undef)::pa) ((t,undef)::L) H bs) :
 dU dfs P ops hn w0 N E ((i,0,⟨some t,op,ty,pos,aft,some (j,b)⟩)::r) pa L H bs :=
 ⟨undef,λa W f s=>.inr ⟨by simp [Region.wanted,JY f hd hs],Z⟩,rD ht,h⟩
theorem dU.b2 {p:Bool} (h1:p=true->dU dfs P ops hn w0 N E r pa ((t,.bool true)::L) H bs) (h2:p=false->dU dfs P ops hn w0 N E r pa ((t,.bool false)::L) H bs):dU dfs P ops hn w0 N E r pa ((t,.bool p)::L) H bs:=by
 cases p
 ·exact h2 rfl
 ·exact h1 rfl
theorem dU.into {H':Hp} {bs':List Res} (hw:k=1\/(∀ W,St H' w0 bs' W->St H w0 bs W)\/iX dfs P ops hn w0 N L H' bs' i pa) (h:dU dfs P ops hn w0 N E r pa ((t,v)::L) H' bs') :
 At dfs N ((t,v)::L) H' w0 bs' (λa' W'=>∃ v H' bs',Fr dfs N (putL (some t) v L) a'/\St H' w0 bs' W'/\(k=1\/(∀ W,St H' w0 bs' W->St H w0 bs W)\/iX dfs P ops hn w0 N L H' bs' i pa)/\dU dfs P ops hn w0 N E r pa (putL (some t) v L) H' bs'):=λ_ _ f s=>⟨v,H',bs',f,s,hw,h⟩
theorem dU.al {l:List Value} (hz:qK P T=some l) (ht:Nat.blt t N=true) (h:∀ b,dU dfs P ops hn w0 N E r pa ((t,.pointer (some ⟨b,0,none⟩))::L) H (.box b l T::bs)):dU dfs P ops hn w0 N E ((i,k+1,⟨some t,.alloc T,ty,pos,aft,none⟩)::r) pa L H bs :=
 ⟨rD ht,alloc hz ht λb=>dU.into (.inr<|.inl λ_ s=>s.drop) (h b)⟩
theorem dU.bl {ps:List (Nat × Operand)} {pv:List (Nat × Value)} {len:Nat} {e:TypeId} {l:List Value} (hv:evp L ps=some pv) (hb:uO P T len pv=some (e,l)) (ht:Nat.blt t N=true)
 (h:∀ b,dU dfs P ops hn w0 N E r pa ((t,.slice (some ⟨b,0,none⟩) len len)::L) H (.box b l e::bs)):dU dfs P ops hn w0 N E ((i,k+1,⟨some t,.buildSlice T len ps.toArray,ty,pos,aft,none⟩)::r) pa L H bs :=
 ⟨rD ht,buildSlice hv hb ht λb=>dU.into (.inr<|.inl λ_ s=>s.drop) (h b)⟩
theorem dU.ct {X:Type} {f:FuncId} {xs:List Operand} {vs:List Value} {ats:Array TypeId} {C:X->Hp->Prop} {val:X->Value} (hf:cV P f=true) (hv:evs L xs=some vs)
 (hc:∀ W,St H w0 bs W->Calls P f vs.toArray W λe W'=>∃ x H',C x H'/\e=.returned (val x)/\zT H W H' W') (ht:Nat.blt t N=true)
 (h:∀ x H',C x H'->HUp w0 H H'->dU dfs P ops hn w0 N E r pa ((t,val x)::L) H' bs):dU dfs P ops hn w0 N E ((i,k+1,⟨some t,.call ⟨.value (.func f),xs.toArray,ats⟩,ty,pos,aft,none⟩)::r) pa L H bs :=
 ⟨rD ht,bX6 hf hv hc ht λx H' hx u=>dU.into (.inr<|.inl λ_ s=>s.weakH u.up) (h x H' hx u)⟩
theorem dU.c3 {X:Type} {f:FuncId} {xs:List Operand} {vs:List Value} {ats:Array TypeId} {C:X->Prop} {val:X->Value} {H':X->Hp} {bs':X->List Res} (hf:cV P f=true) (hv:evs L xs=some vs)
 (hc:∀ W,St H w0 bs W->Calls P f vs.toArray W λe W'=>∃ x,C x/\e=.returned (val x)/\St (H' x) w0 (bs' x) W') (ht:Nat.blt t N=true)
 (hr:∀ x,C x->iX dfs P ops hn w0 N L (H' x) (bs' x) i pa) (h:∀ x,C x->dU dfs P ops hn w0 N E r pa ((t,val x)::L) (H' x) (bs' x)):dU dfs P ops hn w0 N E ((i,3,⟨some t,.call ⟨.value (.func f),xs.toArray,ats⟩,ty,pos,aft,none⟩)::r) pa L H bs :=
 ⟨rD ht,bJ4 hf hv hc ht λx hx=>dU.into (.inr<|.inr<|hr x hx) (h x hx)⟩
theorem iX.done {H':Hp} {bs':List Res} {j:Nat} {o:Oper} (hr:mH ops hn i j=true) (h:iX dfs P ops hn w0 N L H' bs' i pa):iX dfs P ops hn w0 N L H' bs' i ((j,o,v)::pa):=⟨.inl hr,h⟩
theorem iX.yv {H':Hp} {bs':List Res} {j:Nat} (hy:Yl P L H' w0 bs' ⟨some t,op,ty,pos,aft,none⟩ v) (h:iX dfs P ops hn w0 N L H' bs' i pa):iX dfs P ops hn w0 N L H' bs' i ((j,⟨some t,op,ty,pos,aft,none⟩,v)::pa) :=
 ⟨.inr λa W f s=>.inl ⟨by simp [Region.wanted],hy a W (λx u e=>f.ev e) s⟩,h⟩
theorem iX.nl {H':Hp} {bs':List Res}:iX dfs P ops hn w0 N L H' bs' i []:=trivial
theorem dU.fn {l tl:List Oper} {nn:Nat} (ht:l.drop nn=tl) (h:At dfs N L H w0 bs (wpList P ops Q tl)):dU dfs P ops hn w0 N (λL H bs=>At dfs N L H w0 bs (wpList P ops Q (l.drop nn))) [] pa L H bs:=by
 subst ht;exact h
theorem At.fl {id:Nat} {l:List Oper} {trip:List (Nat × Nat × Oper)} (nn:Nat) (ord:List (Nat × Nat)) (hm:P.follows .mixedOrders=true) (hB:RA l.toArray nn ord=true) (ht:ord.map (λx=>(x.1,x.2,l[x.1]!))=trip)
 (h:dU dfs P l.toArray nn w0 n (λL H bs=>At dfs n L H w0 bs (wpList P l.toArray Q (l.drop nn))) trip [] L H bs):At dfs n L H w0 bs ((Code.region id l.toArray true).wp P Q):=cN0 nn ord hm hB ht h
end
end Go.Sx

namespace Go.Sx
open Go.RowKit Go.Par
section
variable {dfs:List Deferred} {P:Program} {L:Sl} {H H':Hp} {w0:World} {bs bs':List Res} {ty:TypeId} {pos:String} {aft:Array Edge} {t:Tmp} {op:Op} {ops:Array Oper} {N hn i n j:Nat} {pa:List (Nat × Oper × Value)} {E:Sl->Hp->List Res->Prop} {r:List (Nat × Nat × Oper)} {rest:List Oper} {Q:Exit->Act->World->Prop} {o:Oper} {v:Value} {b c:Bool} {u:Tmp}
theorem At.fL {id:Nat} {l:List Oper} (nn:Nat) (ord:List (Nat × Nat)) (h:dU dfs P l.toArray nn w0 n (λL H bs=>At dfs n L H w0 bs (wpList P l.toArray Q (l.drop nn))) (ord.map (λx=>(x.1,x.2,l[x.1]!))) [] L H bs) (hm:P.follows .mixedOrders=true:=by kernel_rfl) (hB:RA l.toArray nn ord=true:=by kernel_rfl):At dfs n L H w0 bs ((Code.region id l.toArray true).wp P Q):=.fl nn ord hm hB rfl h
theorem At.yw (hy:Yl P L H w0 bs ⟨some t,op,ty,pos,aft,none⟩ v) (h:At dfs n ((t,v)::L) H w0 bs (wpList P ops Q rest)) (ht:Nat.blt t n=true:=by rfl):At dfs n L H w0 bs (wpList P ops Q (⟨some t,op,ty,pos,aft,none⟩::rest)):=.yv hy ht h
theorem At.mv {x:Operand} (hx:ev L x=some v) (h:At dfs n ((t,v)::L) H w0 bs (wpList P ops Q rest)) (ht:Nat.blt t n=true:=by rfl):At dfs n L H w0 bs (wpList P ops Q (⟨some t,.move x,ty,pos,aft,none⟩::rest)):=.m hx ht h
theorem dU.yw (hy:Yl P L H w0 bs ⟨some t,op,ty,pos,aft,none⟩ v) (h:dU dfs P ops hn w0 N E r ((i,⟨some t,op,ty,pos,aft,none⟩,v)::pa) ((t,v)::L) H bs) (ht:Nat.blt t N=true:=by rfl):dU dfs P ops hn w0 N E ((i,0,⟨some t,op,ty,pos,aft,none⟩)::r) pa L H bs:=.yv hy ht h
theorem dU.mv {x:Operand} (hx:ev L x=some v) (h:dU dfs P ops hn w0 N E r ((i,⟨some t,.move x,ty,pos,aft,none⟩,v)::pa) ((t,v)::L) H bs) (ht:Nat.blt t N=true:=by rfl):dU dfs P ops hn w0 N E ((i,0,⟨some t,.move x,ty,pos,aft,none⟩)::r) pa L H bs:=.m hx ht h
theorem iX.dn (h:iX dfs P ops hn w0 N L H' bs' i pa) (hr:mH ops hn i j=true:=by kernel_rfl):iX dfs P ops hn w0 N L H' bs' i ((j,o,v)::pa):=.done hr h
theorem At.gG (h:At dfs n ((t,undef)::L) H w0 bs (wpList P ops Q rest)) (hd:(ops[j]?).bind (·.dst)=some u:=by rfl) (hs:look L u=some (.bool c):=by rfl) (hne:(c == b)=false:=by rfl) (ht:Nat.blt t n=true:=by rfl):At dfs n L H w0 bs (wpList P ops Q (⟨some t,op,ty,pos,aft,some (j,b)⟩::rest)):=.gF hd hs hne ht h
theorem At.gV (h:At dfs n ((t,undef)::L) H w0 bs (wpList P ops Q rest)) (hd:(ops[j]?).bind (·.dst)=some u:=by rfl) (hs:look L u=some undef:=by rfl) (ht:Nat.blt t n=true:=by rfl):At dfs n L H w0 bs (wpList P ops Q (⟨some t,op,ty,pos,aft,some (j,b)⟩::rest)):=.gU hd hs ht h
theorem dU.gG (h:dU dfs P ops hn w0 N E r ((i,⟨some t,op,ty,pos,aft,some (j,b)⟩,undef)::pa) ((t,undef)::L) H bs) (hd:(ops[j]?).bind (·.dst)=some u:=by rfl) (hs:look L u=some (.bool c):=by rfl) (hne:(c == b)=false:=by rfl) (ht:Nat.blt t N=true:=by rfl):dU dfs P ops hn w0 N E ((i,0,⟨some t,op,ty,pos,aft,some (j,b)⟩)::r) pa L H bs:=.gF hd hs hne ht h
theorem dU.gV (h:dU dfs P ops hn w0 N E r ((i,⟨some t,op,ty,pos,aft,some (j,b)⟩,undef)::pa) ((t,undef)::L) H bs) (hd:(ops[j]?).bind (·.dst)=some u:=by rfl) (hs:look L u=some undef:=by rfl) (ht:Nat.blt t N=true:=by rfl):dU dfs P ops hn w0 N E ((i,0,⟨some t,op,ty,pos,aft,some (j,b)⟩)::r) pa L H bs:=.gU hd hs ht h
end
section
variable {dfs:List Deferred} {P:Program} {L:Sl} {H H':Hp} {w0:World} {bs bs':List Res} {ty:TypeId} {pos:String} {aft:Array Edge} {t:Tmp} {op:Op} {ops:Array Oper} {N hn i n j:Nat} {pa:List (Nat × Oper × Value)} {E:Sl->Hp->List Res->Prop} {r:List (Nat × Nat × Oper)} {rest:List Oper} {Q:Exit->Act->World->Prop} {o:Oper} {v:Value} {b c:Bool} {u:Tmp}
theorem At.ce {c:Operand} {x y:Code} {p:Prop} {I:Decidable p} (hc:ev L c=some (.bool (@decide p I))) (h1:p->At dfs n L H w0 bs (x.wp P Q)) (h2:¬ p->At dfs n L H w0 bs (y.wp P Q)):At dfs n L H w0 bs ((Code.cond c x y).wp P Q):=.cd hc (λe=>h1 (aJ e)) (λe=>h2 (aO e))
theorem At.e2 {p:Prop} {I:Decidable p} {G:Act->World->Prop} (h1:p->At dfs n ((t,.bool true)::L) H w0 bs G) (h2:¬ p->At dfs n ((t,.bool false)::L) H w0 bs G):At dfs n ((t,.bool (@decide p I))::L) H w0 bs G:=.b2 (λe=>h1 (aJ e)) (λe=>h2 (aO e))
theorem dU.e2 {p:Prop} {I:Decidable p} (h1:p->dU dfs P ops hn w0 N E r pa ((t,.bool true)::L) H bs) (h2:¬ p->dU dfs P ops hn w0 N E r pa ((t,.bool false)::L) H bs):dU dfs P ops hn w0 N E r pa ((t,.bool (@decide p I))::L) H bs:=.b2 (λe=>h1 (aJ e)) (λe=>h2 (aO e))
theorem y9 {n:Nat} {fn:Func} {R:Ending->World->Prop} (hr:fn.results=#[.tmp t]) (hv:look L t=some v) (h:∀ W,St H w0 bs W->R (.returned v) W):At [] n L H w0 bs (bodyPost P fn R .ret):=cH0 (.inl Z) hr (.tmp hv) h
theorem y8 {n:Nat} {fn:Func} {R:Ending->World->Prop} {x:ResultVar} (hr:fn.results=#[x]) (hv:Rv P L bs x v) (h:∀ W,St H w0 bs W->R (.returned v) W):At [] n L H w0 bs (bodyPost P fn R .ret):=cH0 (.inl Z) hr hv h
theorem y7 {n:Nat} {fn:Func} {R:Ending->World->Prop} {rs:List ResultVar} {vs:List Value} (hr:fn.results=rs.toArray) (hv:Rvs P L bs rs vs) (h1:Nat.beq vs.length 1=false) (h:∀ W,St H w0 bs W->R (.returned (.tuple vs.toArray)) W):At [] n L H w0 bs (bodyPost P fn R .ret):=jE (.inl Z) hr hv h1 h
theorem At.fA {x:Operand} {T:TypeId} {k a off o':Nat} (hp:ev L x=some (.pointer (some ⟨a,off,none⟩))) (hF:eN P T k=some o') (h:At dfs n ((t,(.pointer (some ⟨a,off+o',none⟩)))::L) H w0 bs (wpList P ops Q rest)) (ht:Nat.blt t n=true:=by rfl):At dfs n L H w0 bs (wpList P ops Q (⟨some t,.fieldAddr T x k,ty,pos,aft,none⟩::rest)):=.yv (.fieldAddr hp hF) ht h
theorem dU.fA {x:Operand} {T:TypeId} {k a off o':Nat} (hp:ev L x=some (.pointer (some ⟨a,off,none⟩))) (hF:eN P T k=some o') (h:dU dfs P ops hn w0 N E r ((i,⟨some t,.fieldAddr T x k,ty,pos,aft,none⟩,(.pointer (some ⟨a,off+o',none⟩)))::pa) ((t,(.pointer (some ⟨a,off+o',none⟩)))::L) H bs) (ht:Nat.blt t N=true:=by rfl):dU dfs P ops hn w0 N E ((i,0,⟨some t,.fieldAddr T x k,ty,pos,aft,none⟩)::r) pa L H bs:=.yv (.fieldAddr hp hF) ht h
theorem At.lD {x:Operand} {T t':TypeId} {a off:Nat} {l:List Value} (hp:ev L x=some (.pointer (some ⟨a,off,none⟩))) (hT:lR P T=some none) (hm:Res.box a l t'∈bs) (hv:l[off]? = some v) (h:At dfs n ((t,v)::L) H w0 bs (wpList P ops Q rest)) (ht:Nat.blt t n=true:=by rfl):At dfs n L H w0 bs (wpList P ops Q (⟨some t,.load T x,ty,pos,aft,none⟩::rest)):=.yv (.load hp hT hm hv) ht h
theorem dU.lD {x:Operand} {T t':TypeId} {a off:Nat} {l:List Value} (hp:ev L x=some (.pointer (some ⟨a,off,none⟩))) (hT:lR P T=some none) (hm:Res.box a l t'∈bs) (hv:l[off]? = some v) (h:dU dfs P ops hn w0 N E r ((i,⟨some t,.load T x,ty,pos,aft,none⟩,v)::pa) ((t,v)::L) H bs) (ht:Nat.blt t N=true:=by rfl):dU dfs P ops hn w0 N E ((i,0,⟨some t,.load T x,ty,pos,aft,none⟩)::r) pa L H bs:=.yv (.load hp hT hm hv) ht h
theorem At.nC {x:Operand} {p:Addr} (hx:ev L x=some (.pointer (some p))) (h:At dfs n ((t,(.pointer (some p)))::L) H w0 bs (wpList P ops Q rest)) (ht:Nat.blt t n=true:=by rfl):At dfs n L H w0 bs (wpList P ops Q (⟨some t,.nilCheck x,ty,pos,aft,none⟩::rest)):=.yv (.nilCheck hx) ht h
theorem dU.nC {x:Operand} {p:Addr} (hx:ev L x=some (.pointer (some p))) (h:dU dfs P ops hn w0 N E r ((i,⟨some t,.nilCheck x,ty,pos,aft,none⟩,(.pointer (some p)))::pa) ((t,(.pointer (some p)))::L) H bs) (ht:Nat.blt t N=true:=by rfl):dU dfs P ops hn w0 N E ((i,0,⟨some t,.nilCheck x,ty,pos,aft,none⟩)::r) pa L H bs:=.yv (.nilCheck hx) ht h
theorem At.gy (hy:Yl P L H w0 bs ⟨some t,op,ty,pos,aft,none⟩ v) (h:At dfs n ((t,v)::L) H w0 bs (wpList P ops Q rest)) (hd:(ops[j]?).bind (·.dst)=some u:=by rfl) (hs:look L u=some (.bool b):=by rfl) (ht:Nat.blt t n=true:=by rfl):At dfs n L H w0 bs (wpList P ops Q (⟨some t,op,ty,pos,aft,some (j,b)⟩::rest)):=.gd hd hs (.yv hy ht h)
theorem At.sX {x y:Operand} {T t':TypeId} {a:Nat} {l vs:List Value} (hm:Upd bs (.box a l t') (.box a vs t') bs') (hp:ev L x=some (.pointer (some ⟨a,0,none⟩))) (hv:ev L y=some (.agg vs.toArray)) (hT:iP P T=some vs.length) (ho:l.length=vs.length) (h:At dfs n L H w0 bs' (wpList P ops Q rest)) (h1:∀ u∈vs,u.oneCell'=true:=by simp [Value.oneCell',bV]):At dfs n L H w0 bs (wpList P ops Q (⟨none,.store T x y,ty,pos,aft,none⟩::rest)):=.sW hm hp hv hT h1 ho h
theorem iX.d2 {j0 j1:Nat} {o0 o1:Oper} {v0 v1:Value} (h:iX dfs P ops hn w0 N L H' bs' i pa) (h0:mH ops hn i j0=true:=by kernel_rfl) (h1:mH ops hn i j1=true:=by kernel_rfl):iX dfs P ops hn w0 N L H' bs' i ((j0,o0,v0)::(j1,o1,v1)::pa):=.done h0<|.done h1<|h
theorem iX.d3 {j0 j1 j2:Nat} {o0 o1 o2:Oper} {v0 v1 v2:Value} (h:iX dfs P ops hn w0 N L H' bs' i pa) (h0:mH ops hn i j0=true:=by kernel_rfl) (h1:mH ops hn i j1=true:=by kernel_rfl) (h2:mH ops hn i j2=true:=by kernel_rfl):iX dfs P ops hn w0 N L H' bs' i ((j0,o0,v0)::(j1,o1,v1)::(j2,o2,v2)::pa):=.done h0<|.done h1<|.done h2<|h
theorem iX.d4 {j0 j1 j2 j3:Nat} {o0 o1 o2 o3:Oper} {v0 v1 v2 v3:Value} (h:iX dfs P ops hn w0 N L H' bs' i pa) (h0:mH ops hn i j0=true:=by kernel_rfl) (h1:mH ops hn i j1=true:=by kernel_rfl) (h2:mH ops hn i j2=true:=by kernel_rfl) (h3:mH ops hn i j3=true:=by kernel_rfl):iX dfs P ops hn w0 N L H' bs' i ((j0,o0,v0)::(j1,o1,v1)::(j2,o2,v2)::(j3,o3,v3)::pa):=.done h0<|.done h1<|.done h2<|.done h3<|h
end
section
variable {dfs:List Deferred} {P:Program} {n:Nat} {L:Sl} {H:Hp} {w0:World} {bs:List Res} {Q:Exit->Act->World->Prop} {ops:Array Oper} {K:Act->World->Prop}
theorem Sub.app {L M N:Sl} (h:Sub L M) (k:Sub L N):Sub L (M++N):=by
 induction M with
 | nil=>exact k
 | cons x r ih=>exact ⟨h.1,ih h.2⟩
def bK2 (P:Program) (T:TypeId):Bool:=match P.underlying T with | some (.array _ e)=>(match lR P e with | some none=>true | _=>false) | _=>false
theorem At.lp {c:Code} {X:Type} (M:Sl) (hM:Sub L M) (R:List Res) (F:X->Sl) (H':X->Hp) (B:X->List Res) (C:X->Prop) (μ:X->Nat) (x0:X) (hB:∀ W,St H w0 bs W->St (H' x0) w0 (B x0++R) W) (h0:Sub L (F x0)) (hC:C x0)
 (round:∀ x,C x->At dfs n (F x++M) (H' x) w0 (B x++R) (c.wp P (Exit.then (λa W=>∃ y,(C y/\μ y<μ x)/\Fr dfs n (F y++M) a/\St (H' y) w0 (B y++R) W) Q))) :
 At dfs n L H w0 bs ((Code.loop c).wp P Q):=loop (λx=>F x++M) H' (λx=>B x++R) C μ x0 hC (h0.app hM) hB round
theorem At.ag {X:Type} {M:Sl} {R:List Res} {F:X->Sl} {H':X->Hp} {B:X->List Res} {C:X->Prop} {μ:X->Nat} {x:X} (y:X) (hL:Sub L (F y)) (hM:Sub L M) (hB:∀ W,St H w0 bs W->St (H' y) w0 (B y++R) W) (hC:C y) (hm:μ y<μ x) :
 At dfs n L H w0 bs (λa W=>∃ y,(C y/\μ y<μ x)/\Fr dfs n (F y++M) a/\St (H' y) w0 (B y++R) W):=λ_ W f s=>⟨y,⟨hC,hm⟩,f.sub (hL.app hM),hB W s⟩
theorem At.cu {X:Type} {x y:Code} (M:Sl) (hM:Sub L M) (F:X->Sl) (H':X->Hp) (B:X->List Res) (C:X->Prop) (h:At dfs n L H w0 bs (x.wp P (Exit.then (λa W=>∃ z,C z/\Fr dfs n (F z++M) a/\St (H' z) w0 (B z) W) Q)))
 (k:∀ z,C z->At dfs n (F z++M) (H' z) w0 (B z) (y.wp P Q)):At dfs n L H w0 bs ((Code.seq x y).wp P Q):=cN5 (λz=>F z++M) H' B C h k
theorem At.me {X:Type} {M:Sl} {F:X->Sl} {H':X->Hp} {B:X->List Res} {C:X->Prop} (z:X) (hL:Sub L (F z)) (hM:Sub L M) (hB:∀ W,St H w0 bs W->St (H' z) w0 (B z) W) (hC:C z) :
 At dfs n L H w0 bs (λa W=>∃ z,C z/\Fr dfs n (F z++M) a/\St (H' z) w0 (B z) W):=λ_ W f s=>⟨z,hC,f.sub (hL.app hM),hB W s⟩
def oP:List Nat->Bool
 | []=>true
 | i::r=>!r.contains i && oP r
theorem KG {l:List Res} (h:l.Pairwise Res.apart):∀ {i j:Nat} {x y:Res},l[i]? = some x->l[j]? = some y->i≠j->x.apart y:=by
 induction l with
 | nil=>intro i j x y hx;simp at hx
 | cons a r ih =>
  rw [jX] at h;intro i j x y hx hy hne;cases i with
  | zero =>
   cases j with
   | zero=>exact absurd rfl hne
   | succ j=>simp at hx hy;subst hx;exact h.1 y (Al_List_mem_of_getElem? hy)
  | succ i =>
   cases j with
   | zero=>simp at hx hy;subst hy;exact (h.1 x (Al_List_mem_of_getElem? hx)).symm
   | succ j=>simp at hx hy;exact ih h.2 hx hy (by omega)
theorem St.pick {W:World} (s:St H w0 bs W):∀ (ix:List Nat) (bs':List Res),oP ix=true->ix.map (λi=>bs[i]?)=bs'.map some->St H w0 bs' W:=by
 intro ix bs' hn hm
 have key:∀ (ix:List Nat) (bs':List Res),oP ix=true->ix.map (λi=>bs[i]?)=bs'.map some->(∀ x∈bs',∃ i∈ix,bs[i]? = some x)/\bs'.Pairwise Res.apart:=by
  intro ix;induction ix with
  | nil =>
   intro bs' _ hm;cases bs' with
   | nil=>exact ⟨λx hx=>(by cases hx),.nil⟩
   | cons a r=>simp at hm
  | cons i r ih =>
   intro bs' hn hm;cases bs' with
   | nil=>simp at hm
   | cons a q =>
    simp only [eT,jK] at hm;simp only [oP,aC,dX] at hn;obtain ⟨h1,h2⟩:=ih q hn.2 hm.2;refine ⟨λx hx=>?_,.cons (λy hy=>?_) h2⟩
    ·rcases bP.1 hx with rfl | hx
     ·exact ⟨i,.head _,hm.1⟩
     ·obtain ⟨j,hj,e⟩:=h1 x hx;exact ⟨j,.tail _ hj,e⟩
    ·obtain ⟨j,hj,e⟩:=h1 y hy;refine KG s.apart hm.1 e λh=>?_;subst h;have:=hn.1;simp [hj] at this
 obtain ⟨h1,h2⟩:=key ix bs' hn hm;exact ⟨s.ext,s.agr,λx hx=>by obtain ⟨i,_,e⟩:=h1 x hx;exact s.own x (Al_List_mem_of_getElem? e),h2,s.lo⟩
theorem At.pm {G:Act->World->Prop} (ix:List Nat) (bs':List Res) (hn:oP ix=true) (hm:ix.map (λi=>bs[i]?)=bs'.map some) (h:At dfs n L H w0 bs' G):At dfs n L H w0 bs G:=λa W f s=>h a W f (s.pick ix bs' hn hm)
theorem At.ra {e:TypeId} {size k:Nat} {r:Value} {xs:List Value} {G:Act->World->Prop} (hm:Res.row e size r k xs∈bs) (h:∀ p c,r=.slice p k c->At dfs n L H w0 bs G):At dfs n L H w0 bs G:=λa W f s=>by
 have ho:W.ownsRow w0.heap.size e size r k xs:=(s.own _ hm).1;rcases ho.2 with ⟨hr,h0⟩ | ⟨g,cap,cur,hr,_⟩
 ·exact h none 0 (by rw [hr,h0]) a W f s
 ·exact h _ cap hr a W f s
theorem w64 {i:Int} (h1:-9223372036854775808<=i) (h2:i<=9223372036854775807):IntKind.i64.wrap i=i:=by
 simp only [IntKind.wrap,IntKind.signed,IntKind.bits];simp;omega
variable {d:Option Tmp} {ty:TypeId} {pos:String} {aft:Array Edge} {g:Option (Nat × Bool)} {v:Value} {t:Tmp} {op:Op} {x y z:Operand} {T T':TypeId}
theorem cE6 (l:List UInt8) (j:Nat):(⟨l.toArray⟩:ByteArray)[j]? = l[j]? := by
 by_cases h:j<l.length
 ·have h1:j<(⟨l.toArray⟩:ByteArray).size:=by simpa [ByteArray.size] using h
  rw [getElem?_def,OX h1,List.getElem?_eq_getElem h]
  rfl
 ·have h1:¬ j<(⟨l.toArray⟩:ByteArray).size:=by simpa [ByteArray.size] using h
  rw [getElem?_def,OY h1];simp only [Nat.not_lt] at h;rw [List.getElem?_eq_none h]
theorem Yl.idxS {l:List UInt8} {k:IntKind} {i:Int} {j:Nat} {b:UInt8} (hT:BR P T=true) (hx:ev L x=some (.string ⟨l.toArray⟩)) (hy:ev L y=some (.int k i)) (e:i=(j:Int)) (h:l[j]? = some b) :
 Yl P L H w0 bs ⟨d,.index T x y,ty,pos,aft,g⟩ (ET b):=.of_run λa W f _=>by
 subst e;have hu:=AN hT;have h2:(⟨l.toArray⟩:ByteArray)[j]? = some b:=(cE6 l j).trans h;unfold execOp;simp [f x _ hx,f y _ hy,Instr.index,underlying,program,Sem.run,Result.andThen,hu,asIntOf,h2,ET]
theorem Yl.idxA {cs:List Value} {k:IntKind} {i:Int} {j len:Nat} (hT:PG P T=some (len,1)) (hA:bK2 P T=true) (hx:ev L x=some (.agg cs.toArray)) (hy:ev L y=some (.int k i)) (e:i=(j:Int)) (hj:j<len) (h:cs[j]? = some v) :
 Yl P L H w0 bs ⟨d,.index T x y,ty,pos,aft,g⟩ v:=.of_run λa W f _=>by
 subst e;obtain ⟨el,hu,hz⟩:=aR6 hT
 have hE:lR P el=some none:=by
  unfold bK2 at hA;rw [hu] at hA;dsimp only at hA;cases hq:lR P el with
  | none=>rw [hq] at hA;cases hA
  | some q=>rw [hq] at hA;cases q <;> first | rfl | cases hA
 have h4:(Instr.index T (.agg cs.toArray) (.int k (j:Int))).run P W=.ok v W:=by
  simp [Instr.index,run_underlying hu,asIntOf,hj,go_sem,pG hz,uA hE,h]
 unfold execOp;simp only [f x _ hx,f y _ hy,Sem.run_bind,h4,Result.andThen,Sem.run_pure]
theorem CU (l:List UInt8) (a b:Nat):(⟨l.toArray⟩:ByteArray).extract a b=⟨((l.take b).drop a).toArray⟩:=by
 apply rZ;apply sH.1;rw [Lib.extract_data];simp [uM]
theorem Yl.takeS {l:List UInt8} {k':IntKind} {j:Int} {hi:Nat} (hT:BR P T=true) (hx:ev L x=some (.string ⟨l.toArray⟩)) (hz:ev L z=some (.int k' j)) (e2:j=(hi:Int)) (h2:hi<=l.length) :
 Yl P L H w0 bs ⟨d,.slice T x none (some z) none,ty,pos,aft,g⟩ (.string ⟨(l.take hi).toArray⟩) :=
 (Yl.cutStrHi hT hx hz e2 (by simpa [ByteArray.size] using h2)).cast (by rw [CU,nO])
theorem Yl.dropS {l:List UInt8} {k:IntKind} {i:Int} {lo:Nat} (hT:BR P T=true) (hx:ev L x=some (.string ⟨l.toArray⟩)) (hy:ev L y=some (.int k i)) (e1:i=(lo:Int)) (h1:lo<=l.length) :
 Yl P L H w0 bs ⟨d,.slice T x (some y) none none,ty,pos,aft,g⟩ (.string ⟨(l.drop lo).toArray⟩):=.of_run λa W f _=>by
 subst e1;have hu:=AN hT;have h2:lo<=(⟨l.toArray⟩:ByteArray).size:=by simpa [ByteArray.size] using h1
 have h3:(⟨l.toArray⟩:ByteArray).extract lo (⟨l.toArray⟩:ByteArray).size=⟨(l.drop lo).toArray⟩:=by
  rw [CU]
  congr 2
  rw [jU (by simp [ByteArray.size])]
 unfold execOp;simp [f x _ hx,f y _ hy,Instr.sliceAt,Instr.slice,underlying,program,Sem.run,Result.andThen,hu,Instr.sliceBounds,Instr.sliceBound,asIntOf,h2,h3]
theorem Yl.midS {l:List UInt8} {k k':IntKind} {i j:Int} {lo hi:Nat} (hT:BR P T=true) (hx:ev L x=some (.string ⟨l.toArray⟩)) (hy:ev L y=some (.int k i)) (hz:ev L z=some (.int k' j)) (e1:i=(lo:Int)) (e2:j=(hi:Int)) (h1:lo<=hi) (h2:hi<=l.length) :
 Yl P L H w0 bs ⟨d,.slice T x (some y) (some z) none,ty,pos,aft,g⟩ (.string ⟨((l.take hi).drop lo).toArray⟩) :=
 (Yl.cutStr hT hx hy hz e1 e2 h1 (by simpa [ByteArray.size] using h2)).cast (by rw [CU])
theorem bM5 (a b:List UInt8):(⟨a.toArray⟩:ByteArray)++⟨b.toArray⟩=⟨(a++b).toArray⟩:=by
 apply rZ;rw [ByteArray.data_append];simp
theorem ME (a:List UInt8):(⟨a.toArray⟩:ByteArray).size=a.length:=by simp [ByteArray.size]
theorem aG4 {a b:List UInt8}:((⟨a.toArray⟩:ByteArray)=⟨b.toArray⟩)↔a=b:=by
 constructor
 ·intro h;have:=congrArg (λs:ByteArray=>s.data.toList) h;simpa using this
 ·intro h;rw [h]
theorem Yl.app {a b:List UInt8} (hx:ev L x=some (.string ⟨a.toArray⟩)) (hy:ev L y=some (.string ⟨b.toArray⟩)) (hs:a.length+b.length<=9223372036854775807):Yl P L H w0 bs ⟨d,.binOp .add T x y T',ty,pos,aft,g⟩ (.string ⟨(a++b).toArray⟩) :=
 .addS hx hy (by rw [ME,ME];exact hs) (bM5 a b)
theorem Yl.eqS {a b:List UInt8} (hx:ev L x=some (.string ⟨a.toArray⟩)) (hy:ev L y=some (.string ⟨b.toArray⟩)):Yl P L H w0 bs ⟨d,.binOp .eql T x y T',ty,pos,aft,g⟩ (.bool (decide (a=b))) :=
 (Yl.eqlS hx hy).cast (by congr 1;rw [decide_eq_decide];exact aG4)
theorem Yl.neS {a b:List UInt8} (hx:ev L x=some (.string ⟨a.toArray⟩)) (hy:ev L y=some (.string ⟨b.toArray⟩)):Yl P L H w0 bs ⟨d,.binOp .neq T x y T',ty,pos,aft,g⟩ (.bool (decide (¬ a=b))) :=
 (Yl.neqS hx hy).cast (by congr 1;rw [decide_eq_decide];exact not_congr aG4)
theorem Yl.lenS {a:List UInt8} (hT:BR P T=true) (hp:ev L x=some (.string ⟨a.toArray⟩)):Yl P L H w0 bs ⟨d,.call ⟨.builtin .len,#[x],#[T]⟩,ty,pos,aft,g⟩ (iN a.length) :=
 (Yl.lenStr hT hp).cast (by rw [ME])
theorem kN {p q:Bool} (h:p=true↔q=true):Ending.returned (.bool p)=.returned (.bool q):=by rw [aX.2 h]
end
end Go.Sx
namespace Go.Sx
open Go.RowKit Go.Par MapKept
section
variable {dfs:List Deferred} {P:Program} {n:Nat} {L:Sl} {H:Hp} {w0:World} {bs:List Res} {Q:Exit->Act->World->Prop} {ops:Array Oper} {rest:List Oper} {K:Act->World->Prop}
variable {d:Option Tmp} {ty:TypeId} {pos:String} {aft:Array Edge} {g:Option (Nat × Bool)} {v:Value} {t:Tmp} {op:Op} {x y z:Operand} {T T':TypeId}
end
end Go.Sx
