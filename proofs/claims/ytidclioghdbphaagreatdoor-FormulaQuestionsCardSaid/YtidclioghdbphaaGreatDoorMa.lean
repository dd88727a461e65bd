/- Texts of the proof, one behind the other. -/
import Derived.Below
import Derived.Deep.Quiet
import Derived.StillTail
import Derived.WalkKit
import Derived.WalkSpells
import Derived.Laws.IdiomCopy
import Derived.Laws.AppendOwn
import Derived.Laws.Rows
import Derived.Deep.LoopGhost
import Derived.WalkLawsBesides
import Derived.IntWalk
import Derived.ChangeKeysEq
import Derived.Laws.CopyRow
import Derived.Laws.AppendOwnNone
import Derived.Laws.IdiomStrings
import Derived.Sort.Row
import Derived.Laws.MakeOwn
import Derived.Lib.Strings
import Derived.ChangeMaps4
import Derived.Lib.Builder
import Derived.Lib.AppendStr
import Derived.Lib.UnsafeStr
set_option linter.all false
set_option maxRecDepth 100000
namespace Go
def aK:=@if_pos
def dC:=@if_true
def vS:=@Ne.symm
def aM:=@Bool.false_eq_true
def cZ:=@if_false
def aE:=@Bool.and_eq_true
def aB:=@decide_eq_true_eq
def bD:=@List.all_eq_true
def bZ:=@List.mem_range
def nJ:=@Option.map_some
def kR:=@Option.getD_some
def mZ:=@Array.all_eq_true_iff_forall_mem
def CK:=@decide_false
def aT:=@Bool.false_or
def gI:=@List.contains_iff_mem
def gA:=@List.any_eq_true
def bL:=@Option.some.inj
def aY:=@Nat.le_refl
def aW:=@Bool.or_eq_true
def Al_Array_getD_eq_getD_getElem?:=@Array.getD_eq_getD_getElem?
def iR:=@Option.bind_some
def kE:=@List.mem_append_left
def rL:=@List.mem_filterMap
def aA:=@if_neg
def jG:=@Nat.lt_or_ge
def IZ:=@Array.ext
def uC:=@List.getElem_toArray
def pI:=@List.getElem_map
def vI:=@List.getElem_range
def dO:=@Nat.zero_add
def bY:=@List.cons_append
def cJ:=@List.mem_append
def BC:=@Bool.not_true
def mH:=@List.pairwise_append
def fP:=@Nat.add_assoc
def rD:=@Nat.blt_eq
def mL:=@Nat.beq_refl
def lN:=@cond_true
def wO:=@Option.some.injEq
def lP:=@Nat.eq_of_beq_eq_true
def aZ:=@Nat.le_trans
def bM:=@List.mem_cons
def bK:=@List.eq_nil_of_length_eq_zero
def lQ:=@List.set_append_right
def hZ:=@Nat.sub_self
def rK:=@List.set_cons_zero
def lO:=@Nat.le_of_ble_eq_true
def wY:=@Nat.sub_zero
def fE:=@Option.map_eq_some_iff
def dS:=@Option.bind_eq_some_iff
def rY:=@Prod.mk.inj
def eP:=@List.map_cons
def eT:=@Bool.not_eq_true'
def jH:=@Nat.add_zero
def dE:=@List.nil_append
def aH:=@List.length_nil
def zO:=@List.mapM_cons
def rZ:=@List.mapM_toArray
def sN:=@map_eq_pure_bind
def jQ:=@List.pairwise_cons
def vB:=@Nat.add_mul
def mD:=@Nat.mul_le_mul_right
def kS:=@List.map_toArray
def tL:=@List.map_nil
def eK:=@Nat.lt_of_lt_of_le
def aQ:=@Bool.eq_iff_iff
def eJ:=@beq_iff_eq
def sG:=@ByteArray.ext
def sO:=@Array.toList_inj
def iK:=@Nat.min_eq_left
def dG:=@List.length_take
def aC:=@List.length_append
def aF:=@List.length_cons
def aV:=@List.append_assoc
def nU:=@Nat.zero_mul
def hU:=@Nat.succ_mul
def fX:=@List.take_of_length_le
def qI:=@List.drop_succ_cons
def fY:=@List.drop_of_length_le
def aN:=@Nat.zero_le
def jX:=@List.mem_map
def tM:=@List.map_map
def aI:=@of_decide_eq_true
def aJ:=@of_decide_eq_false
def Al_List_mem_of_getElem?:=@List.mem_of_getElem?
def bV:=@List.cons.injEq
def yY:=@dif_pos
def qH:=@dif_neg
def vE:=@List.drop_take
def oQ:=@List.drop_zero
def xN:=@Option.isSome_iff_exists
def eL:=@List.append_nil
def bI:=@List.map_append
def pC:=@List.mem_append_right
def eE:=@decide_eq_false_iff_not
def tF:=@List.sizeOf_lt_of_mem
def aP:=@List.length_map
def eW:=@List.take_append_drop
def aX:=@List.getElem_mem
def fI:=@List.takeWhile_cons
def iH:=@List.isPrefixOf_iff_prefix
def IY:=@Bool.and_assoc
def oP:=@List.foldl_append
def aR:=@UInt8.toNat_inj
def pU:=@List.map_take
def dA:=@List.length_drop
def bU:=@List.headD_cons
def tK:=@Nat.le_of_lt
def rJ:=@UInt8.toNat_ofNat'
def bS:=@List.mem_singleton
def tW:=@List.foldl_cons
def zP:=@List.foldl_nil
def fU:=@UInt8.ofNat_toNat
def nK:=@Int64.toInt_inj
def iC:=@Int64.toInt_ofNat_of_lt
def cD:=@List.mem_cons_of_mem
def bH:=@List.mem_cons_self
def zB:=@List.append_eq_nil_iff
def iY:=@List.take_left
def vD:=@List.length_pos_iff
def gJ:=@List.all_cons
def bW:=@List.take_length
def tV:=@beq_false_of_ne
def zZ:=@List.length_singleton
def rC:=@Nat.mod_lt
def kC:=@List.range_succ
def cO:=@true_iff
def cI:=@false_iff
def cP:=@iff_true
def cH:=@iff_false
def bC:=@Bool.true_eq_false
def pQ:=@List.mem_iff_getElem
def zM:=@List.take_zero
def cW:=@Bool.and_true
def aO:=@Bool.true_and
def pD:=@Bool.and_eq_false_iff
def vR:=@not_or
def IX:=@Nat.mul_le_mul
def dL:=@and_true
def mK:=@Bool.or_eq_false_iff
def aL:=@decide_eq_false
def aG:=@decide_eq_true
def zY:=@Nat.div_lt_iff_lt_mul
def fO:=@List.drop_drop
def dF:=@Nat.lt_succ_self
def xC:=@List.suffix_refl
def FF:=@List.suffix_cons
def aU:=@Bool.false_and
def bP:=@Classical.not_not
def fV:=@List.drop_eq_getElem_cons
def jB:=@Nat.add_sub_cancel_left
def dH:=@UInt8.toNat_ofNat_of_lt'
def jO:=@Int.tdiv_eq_ediv_of_nonneg
def zA:=@Option.map_eq_none_iff
def BB:=@Prod.mk.injEq
def pH:=@Nat.min_eq_right
def dJ:=@Int.tmod_eq_emod_of_nonneg
def mV:=@Nat.mul_le_mul_left
def mJ:=@List.mem_of_mem_take
def KP:=@List.map_drop
theorem Jt:True:=trivial
theorem Hm {α:Type} {a:α} {l:List α} :a∈a::l:=.head _
abbrev iN (n:Nat):Value:=.int .i64 n
abbrev cL:Value:=.slice none 0 0
abbrev dV:Value:=.string ⟨#[]⟩
abbrev dI (b:Nat):Option Addr:=some ⟨b,0,none⟩
theorem aS {p:Prop} (h:p:=by decide):p:=h
theorem aD {p:Prop} (h:p:=by omega):p:=h
theorem fT {p:Prop} (h:p:=by kernel_rfl):p:=h
theorem fG {p:Prop} (h:p:=by simp):p:=h
theorem xM {p:Prop} (h:p:=by assumption):p:=h
theorem qS {p:Prop} (h:p:=by decide +kernel):p:=h
theorem Z {α:Sort _} {a:α} :a=a:=rfl
end Go
namespace Go.Par
open Go.RowKit

def Ext (w w':World):Prop:=Below w.heap.size w w'
theorem Ext.refl (w:World):Ext w w:=Below.refl _ _
theorem Ext.trans {a b c:World} (h:Ext a b) (k:Ext b c):Ext a c:=Below.trans h (Below.mono k h.size)
theorem Ext.alloc {a w:World} (h:Ext a w) (o:Obj):Ext a (w.alloc o):=Below.alloc h h.size o
theorem Ext.drew {a w:World} (h:Ext a w):Ext a w.drew:=Below.drew h
theorem Ext.drewN {a w:World} (h:Ext a w) (n:Nat):Ext a (w.drewN n):=⟨h.os,h.tape,h.output,h.size,h.block⟩
theorem Ext.setCell {a w:World} (h:Ext a w) {p:Addr} (hp:a.heap.size<=p.block) (u:Value):Ext a (w.setCell p u):=Below.setCell h hp u
theorem Ext.size {a w:World} (h:Ext a w):a.heap.size<=w.heap.size:=Below.size h

section
variable {P:Program} {ops:Array Oper} {w0:World}

def kL (ops:Array Oper) (k:Nat):Option Tmp:=(ops[k]?).bind (·.dst)

def frm (ops:Array Oper) (val:Nat->Value) (S:Nat->Bool):Nat->Act->Act
 | 0,a=>a
 | k+1,a=>if S k=true then (frm ops val S k a).put (kL ops k) (val k) else frm ops val S k a

theorem bC7 (a:Act) (d:Option Tmp) (v:Value):(a.put d v).tmps.size=a.tmps.size:=by
 cases d <;> simp [Act.put]
theorem OW (val:Nat->Value) (S:Nat->Bool) (a:Act):∀ n,(frm ops val S n a).tmps.size=a.tmps.size
 | 0=>rfl
 | k+1=>by
  unfold frm
  split
  ·rw [bC7,OW val S a k]
  ·exact OW val S a k

theorem QG (a:Act) (t:Tmp) (v:Value):(a.put (some t) v).eval (.tmp t)=if t<a.tmps.size then v else undef:=by
 simp only [Act.eval,Act.put]
 split
 ·rename_i h;simp [h]
 ·rename_i h;simp [h]

theorem EO (val:Nat->Value) (S:Nat->Bool) (a:Act) (t:Tmp):∀ n,(∀ k,k<n->S k=true->kL ops k≠some t)->(frm ops val S n a).eval (.tmp t)=a.eval (.tmp t)
 | 0,_=>rfl
 | k+1,h=>by
  unfold frm
  split
  ·rename_i hs;rw [Act.eval_put (λd hd e=>by cases e;exact h k aD hs hd)];exact EO val S a t k (λj hj=>h j aD)
  ·exact EO val S a t k (λj hj=>h j aD)

theorem OX (val:Nat->Value) (S:Nat->Bool) (a:Act) (t:Tmp) (j:Nat) (hS:S j=true) (hd:kL ops j=some t):∀ n,j<n->(∀ k,k<n->k≠j->kL ops k≠some t) ->
 (frm ops val S n a).eval (.tmp t)=if t<a.tmps.size then val j else undef
 | 0,h,_=>absurd h aD
 | k+1,hj,hu=>by
  unfold frm
  by_cases hk:k=j
  ·subst hk;rw [aK hS,hd,QG,OW]
  ·have ih:=OX val S a t j hS hd k aD (λi hi=>hu i aD)
   split
   ·rw [Act.eval_put (λd hd' e=>by cases e;exact hu k aD hk hd')];exact ih
   ·exact ih

theorem kP (val val':Nat->Value) (S S':Nat->Bool) (a:Act):∀ n,(∀ k,k<n->S k=S' k/\(S k=true->val k=val' k))->frm ops val S n a=frm ops val' S' n a
 | 0,_=>rfl
 | k+1,h=>by
  have hk:=h k aD;have ih:=kP val val' S S' a k (λj hj=>h j aD);unfold frm;rw [ih,<-hk.1]
  split
  ·rename_i hs;rw [hk.2 hs]
  ·rfl

theorem uP (val:Nat->Value) (S S':Nat->Bool) (a:Act) (i:Nat) (hi':S' i=true) (hi:S i=false) (hS:∀ k,k≠i->S' k=S k) :
 ∀ n,i<n->(∀ j k,j<n->k<n->j≠k->∀ d,kL ops j=some d->kL ops k≠some d)->frm ops val S' n a=(frm ops val S n a).put (kL ops i) (val i)
 | 0,h,_=>absurd h aD
 | k+1,hin,hd=>by
  by_cases hk:k=i
  ·subst hk;have e:frm ops val S' k a=frm ops val S k a:=kP val val S' S a k (λj hj=>⟨hS j aD,λ_=>rfl⟩);simp only [frm,hi',hi,e,dC];simp
  ·have ih:=uP val S S' a i hi' hi hS k aD (λj l hj hl=>hd j l aD aD);simp only [frm,hS k hk,ih]
   split
   ·rw [Act.put_comm];intro d hd';exact hd i k aD aD (vS hk) d hd'
   ·rfl






def bB6 (ops:Array Oper) (n:Nat) (fl:List Nat):Bool :=
 (List.range n).all λi=>fl.contains i || (List.range (n+1)).any λj=>decide (i<j) && (decide (j=n) || !fl.contains j) && Region.waitsFor .any ops j i

def cJ6 (ops:Array Oper) (n:Nat) (fl:List Nat):Bool :=
 fl.all λi=>(List.range ops.size).all λj=>decide (i=j) || (decide (j<n) && !fl.contains j) || Region.waitsFor .any ops j i ||
  (match ops[i]?,ops[j]? with | some oi,some oj=>oi.apart ops oj | _,_=>true)

def bD5 (ops:Array Oper) (n:Nat) (fl:List Nat):Bool :=
 Region.noSelect ops && decide (n<ops.size) && bB6 ops n fl && Region.chainB .any ops n &&
 (List.range ops.size).all (λi=>((ops[i]?).map λo=>o.after.all λe=>!Region.binds .any e || decide (e.on<i)).getD true) &&
 (List.range n).all (λi=>(List.range n).all λj=>decide (i=j) || (kL ops i).isNone || kL ops i != kL ops j) &&
 (List.range n).all (λi=>((ops[i]?).map λo=>(o.looksAt ops).all λt=>(List.range n).all λj=>kL ops j != some t || Region.waitsFor .any ops i j).getD true) &&
 Region.seqB .any ops (ops.size - n) n ((List.range ops.size).map λk=>decide (k<n)).toArray && cJ6 ops n fl

structure Fit (ops:Array Oper) (n:Nat) (fl:List Nat):Prop where
 sel:∀ (j:Nat) (o:Oper) (cs:Array SelectCase) (b:Bool),ops[j]? = some o->o.op≠.select cs b
 lt:n<ops.size
 sink:bB6 ops n fl=true
 chain:Region.chainB .any ops n=true
 back:∀ i o,ops[i]? = some o->∀ e∈o.after,Region.binds .any e=true->e.on<i
 apart:∀ j k,j<n->k<n->j≠k->∀ d,kL ops j=some d->kL ops k≠some d
 look:∀ i o,i<n->ops[i]? = some o->∀ t∈o.looksAt ops,∀ j,j<n->kL ops j=some t->Region.waitsFor .any ops i j=true
 seq:Region.seqB .any ops (ops.size - n) n ((List.range ops.size).map λk=>decide (k<n)).toArray=true
 float:∀ i oi j oj,fl.contains i=true->ops[i]? = some oi->ops[j]? = some oj->i≠j->(n<=j\/fl.contains j=true)->Region.waitsFor .any ops j i=false->oi.apart ops oj=true

theorem Fit.of {n:Nat} {fl:List Nat} (h:bD5 ops n fl=true):Fit ops n fl:=by
 simp only [bD5,aE,aB] at h;obtain ⟨⟨⟨⟨⟨⟨⟨⟨h1,h2⟩,h3⟩,h4⟩,h5⟩,h6⟩,h7⟩,h8⟩,h9⟩:=h;refine ⟨Region.noSelect_spec h1,h2,h3,h4,?_,?_,?_,h8,?_⟩
 ·intro i o ho e he hb;have hi:i<ops.size:=(Array.getElem?_eq_some_iff.1 ho).1;have:=bD.1 h5 i (bZ.2 hi);simp only [ho,nJ,kR,mZ] at this;have:=this e he;simpa [hb] using this
 ·intro j k hj hk hne d hd;have:=bD.1 (bD.1 h6 j (bZ.2 hj)) k (bZ.2 hk);simp only [hd,hne,CK,aT,Option.isNone_some,bne_iff_ne] at this;exact λe=>this e.symm
 ·intro i o hi ho t ht j hj hd;have:=bD.1 h7 i (bZ.2 hi);simp only [ho,nJ,kR] at this;have:=bD.1 (bD.1 this t ht) j (bZ.2 hj);simpa [hd] using this
 ·intro i oi j oj hi hoi hoj hne hj hw;have hjs:j<ops.size:=(Array.getElem?_eq_some_iff.1 hoj).1;have:=bD.1 (bD.1 h9 i (gI.1 hi)) j (bZ.2 hjs)
  have hn:(decide (j<n) && !fl.contains j)=false:=by
   rcases hj with hj | hj
   ·simp [show ¬ j<n by omega]
   ·rw [hj];simp
  rw [hn,hw] at this;simpa [hne,hoi,hoj] using this

theorem CS {n:Nat} {fl:List Nat} {listed:Array Bool} (hs:bB6 ops n fl=true) (hc:Region.chainB .any ops n=true) (inv:HeadInv .any ops n listed) :
 ∀ (d i:Nat),n - i=d->i<n->fl.contains i=false->listed.getD i true=false->∀ t,n<=t->t ∉ Region.ready .any ops listed:=by
 intro d;induction d using Nat.strongRecOn with
 | _ d ih =>
  intro i hd hi hf hun t ht hr;obtain ⟨_,ot,hot,hall⟩:=mem_ready.1 hr;have htlt:t<ops.size:=(Array.getElem?_eq_some_iff.1 hot).1
  by_cases htn:t=n
  ·subst htn;have h1:=bD.1 hs i (bZ.2 hi);rw [hf,aT] at h1;obtain ⟨j,hj,hj2⟩:=gA.1 h1;simp only [aE,aB] at hj2;obtain ⟨⟨hij,hjf⟩,hw⟩:=hj2;obtain ⟨oj,hoj,e,he,hb,hon⟩:=Region.waitsFor_spec hw;have hjle:j<=t:=by have:=bZ.1 hj;omega
   by_cases hjt:j=t
   ·subst hjt;have:oj=ot:=bL (hoj.symm.trans hot);subst this;have h2:=hall e he hb;rw [hon,getD_both hun] at h2;cases h2
   ·have hjf':fl.contains j=false:=by simpa [hjt] using hjf
    cases hl:listed.getD j false with
    | true =>
     have h2:=inv.closed j oj hoj hl e he hb;rw [hon,getD_both hun] at h2;cases h2
    | false =>
     have hjs:j<listed.size:=by rw [inv.size];omega
     exact ih (t - j) aD j rfl aD hjf' (getD_in hjs hl) t (aY _) hr
  ·have h1:=bD.1 hc t (bZ.2 htlt);simp only [aW,aB] at h1;rcases h1 with h1 | h1
   ·omega
   ·obtain ⟨o',ho',e,he,hb,hon⟩:=Region.waitsFor_spec h1;have:o'=ot:=bL (ho'.symm.trans hot);subst this;have h2:=hall e he hb;rw [hon,getD_both (inv.tail (t - 1) aD aD)] at h2;cases h2


variable {n:Nat} {fl:List Nat} {a0:Act} {isB:Nat->Bool} {vA:Nat->Value} {mk:Nat->Nat->Value} {obj:Nat->Obj}




theorem KU {a a':Act} (o:Oper) (h:∀ t∈o.looksAt ops,a.eval (.tmp t)=a'.eval (.tmp t)):Region.wanted o (yielded ops a.tmps)=Region.wanted o (yielded ops a'.tmps):=by
 unfold Region.wanted;cases hg:o.guard with
 | none=>rfl
 | some gw =>
  obtain ⟨g,want⟩:=gw
  have hy:yielded ops a.tmps g=yielded ops a'.tmps g:=by
   unfold yielded;cases ht:(ops[g]?).bind (·.dst) with
   | none=>rfl
   | some t =>
    have:=h t (by simp [Oper.looksAt,hg,ht]);simp only [Act.eval,Al_Array_getD_eq_getD_getElem?] at this;simp only [iR]
    revert this
    generalize a.tmps[t]? = x;generalize a'.tmps[t]? = y;intro this;cases x with
    | none=>cases y with
     | none=>rfl
     | some v=>simp at this;subst this;rfl
    | some u=>cases y with
     | none=>simp at this;subst this;rfl
     | some v=>simp at this;subst this;rfl
  simp only [hy]

theorem RT {a a':Act} (o:Oper) (hs:∀ cs b,o.op≠.select cs b) (h:∀ t∈o.looksAt ops,a.eval (.tmp t)=a'.eval (.tmp t)):execOp a.eval o=execOp a'.eval o :=
 execOp_congr o hs λx hx=>by
  cases x with
  | tmp t=>exact h t (kE _ (rL.2 ⟨.tmp t,by simpa using hx,Z⟩))
  | _=>rfl

def cnt (S:Nat->Bool):Nat->Nat
 | 0=>0
 | k+1=>cnt S k+(if S k=true then 0 else 1)
theorem SX (S S':Nat->Bool):∀ m,(∀ k,k<m->S k=S' k)->cnt S m=cnt S' m
 | 0,_=>rfl
 | k+1,h=>by unfold cnt;rw [SX S S' k (λj hj=>h j aD),h k aD]
theorem DM (S S':Nat->Bool) (i:Nat) (hi':S' i=true) (hi:S i=false) (hS:∀ k,k≠i->S' k=S k):∀ m,i<m->cnt S' m+1=cnt S m
 | 0,h=>absurd h aD
 | k+1,h=>by
  unfold cnt
  by_cases hk:k=i
  ·subst hk;rw [SX S' S k (λj hj=>hS j aD),hi',hi];simp
  ·have:=DM S S' i hi' hi hS k aD;rw [hS k hk];omega
theorem sT (S:Nat->Bool):∀ m,cnt S m=0->∀ k,k<m->S k=true
 | 0,_,k,hk=>absurd hk aD
 | m+1,h,k,hk=>by
  unfold cnt at h
  by_cases hm:S m=true
  ·by_cases e:k=m
   ·subst e;exact hm
   ·exact sT S m aD k aD
  ·rw [aA hm] at h;omega
theorem IH (S:Nat->Bool):∀ m,0<cnt S m->∃ k,k<m/\S k=false/\∀ j,j<k->S j=true
 | 0,h=>absurd h (by simp [cnt])
 | m+1,h=>by
  by_cases hc:0<cnt S m
  ·obtain ⟨k,a,b,c⟩:=IH S m hc;exact ⟨k,aD,b,c⟩
  ·unfold cnt at h
   by_cases hm:S m=true
   ·rw [aK hm] at h;omega
   ·exact ⟨m,aD,by simpa using hm,sT S m aD⟩

abbrev st (listed:Array Bool):Nat->Bool:=λk=>listed.getD k true


theorem kU {listed:Array Bool} {i k:Nat} (hk:k≠i):st (listed.setIfInBounds i true) k=st listed k:=getD_set_ne true (vS hk)
theorem fW {listed:Array Bool} {i:Nat}:st (listed.setIfInBounds i true) i=true:=by
 simp only [st];rcases jG i listed.size with h | h
 ·simp [h]
 ·simp [h]

theorem TF {w w':World} (h:Ext w w') {b:Nat} {o:Obj} (hb:w.heap[b]? = some o):w'.heap[b]? = some o:=by
 have hlt:b<w.heap.size:=by
  rcases jG b w.heap.size with h' | h'
  ·exact h'
  ·simp [h'] at hb
 rw [Below.block h b hlt];exact hb
theorem sY {w:World} {b:Nat} {o:Obj} (hb:w.heap[b]? = some o):b<w.heap.size:=by
 rcases jG b w.heap.size with h' | h'
 ·exact h'
 ·simp [h'] at hb


/-! ### The walk of the first n operations, and what it gives the game -/

abbrev cS1:=Option Tmp × (Nat->Value) × Obj
















theorem YZ {w:World} {b:Nat} {cs:Array Value} {t:TypeId} (h:w.heap[b]? = some (.cells cs t)) (i:Nat):w.cell? ⟨b,i,none⟩=cs[i]? := cell_of_row w b i cs t (0,0) h
theorem bM5 {w:World} {b:Nat} {cs:Array Value} {t:TypeId} (h:w.heap[b]? = some (.cells cs t)) (i:Nat):w.frozen? ⟨b,i,none⟩=false:=by
 simp [World.frozen?,h]

theorem Ext.below {a w:World} (h:Ext a w):Below a.heap.size a w:=h
theorem Ext.of_below {a w:World} (h:Below a.heap.size a w):Ext a w:=h
attribute [irreducible] Ext

/-! ### The steps of the walk -/
variable {Q:List cS1->Act->Prop} {o:Oper} {rest:List Oper} {bl:List cS1} {a:Act} {k:Nat}








end
end Go.Par
namespace Go.Sx
open Go.RowKit Go.Par

abbrev Sl:=List (Nat × Value)
def look:Sl->Nat->Option Value
 | [],_=>none
 | (k,v)::r,t=>bif Nat.beq k t then some v else look r t
def ev (L:Sl):Operand->Option Value
 | .tmp t=>look L t
 | .const v=>some v
 | .global g=>some (.pointer (some ⟨g,0,none⟩))
 | .func f=>some (.func (.func f) #[] #[])
structure Fr (dfs:List Deferred) (n:Nat) (L:Sl) (a:Act):Prop where
 size:a.tmps.size=n
 defers:a.defers=dfs
 slot:∀ t v,look L t=some v->a.tmps.getD t undef=v
theorem Fr.ev {dfs:List Deferred} {n:Nat} {L:Sl} {a:Act} (h:Fr dfs n L a) {x:Operand} {v:Value} (e:ev L x=some v):a.eval x=v:=by
 cases x with
 | tmp t=>exact h.slot t v e
 | const u=>exact bL e
 | global g=>exact bL e
 | func f=>exact bL e
variable {dfs:List Deferred} {n:Nat} {L:Sl}
theorem Fr.put {a:Act} (h:Fr dfs n L a) {t:Nat} (ht:Nat.blt t n=true) (v:Value):Fr dfs n ((t,v)::L) (a.put (some t) v):=by
 have ht':t<n:=by simpa [rD] using ht
 refine ⟨by simp [Act.put,h.size],h.defers,?_⟩;intro s u e;unfold look at e
 by_cases hs:t=s
 ·subst hs;simp only [mL,lN,wO] at e;subst e;simp [Act.put,h.size,ht']
 ·have hb:Nat.beq t s=false:=by
   cases hb:Nat.beq t s
   ·rfl
   ·exact absurd (lP hb) hs
  rw [hb,cond_false] at e;have:=h.slot s u e;simp only [Act.put,Al_Array_getD_eq_getD_getElem?] at this|-;rw [Array.getElem?_setIfInBounds_ne hs];exact this
theorem Fr.putNone {a:Act} (h:Fr dfs n L a) (v:Value):Fr dfs n L (a.put none v):=h
def Sub (L:Sl):Sl->Prop
 | []=>True
 | (t,v)::r=>look L t=some v/\Sub L r
theorem Sub.at {L:Sl}:∀ {M:Sl},Sub L M->∀ t v,look M t=some v->look L t=some v
 | [],_,t,v,e=>by cases e
 | (k,u)::r,h,t,v,e=>by
  unfold look at e;cases hb:Nat.beq k t
  ·rw [hb,cond_false] at e;exact Sub.at h.2 t v e
  ·rw [hb,lN] at e;rw [<-lP hb,<-bL e];exact h.1
theorem Fr.sub {M:Sl} {a:Act} (h:Fr dfs n L a) (s:Sub L M):Fr dfs n M a:=⟨h.size,h.defers,λt v e=>h.slot t v (s.at t v e)⟩

structure Hp where
 get:Nat->Option Obj
 lo:Nat
instance:CoeFun Hp (λ_=>Nat->Option Obj):=⟨Hp.get⟩
structure Agr (H:Hp) (W:World):Prop where
 get:∀ b o,H b=some o->W.heap[b]? = some o
 lo:H.lo<=W.heap.size
instance {H:Hp} {W:World}:CoeFun (Agr H W) (λ_=>∀ b o,H b=some o->W.heap[b]? = some o):=⟨Agr.get⟩
variable {H:Hp} {W W':World}
theorem Agr.ext (h:Agr H W) (x:Ext W W'):Agr H W':=⟨λb o e=>TF x (h b o e),aZ h.lo x.size⟩
structure Up (H H':Hp):Prop where
 get:∀ b o,H b=some o->H' b=some o
 lo:H'.lo=H.lo
instance {H H':Hp}:CoeFun (Up H H') (λ_=>∀ b o,H b=some o->H' b=some o):=⟨Up.get⟩
inductive Res where
 | box (b:Nat) (l:List Value) (t:TypeId)
 | row (e:TypeId) (size:Nat) (v:Value) (n:Nat) (xs:List Value)
 | obj (b:Nat) (o:Obj)
 | big (k:Nat)
 | ps (e:TypeId) (v:Value) (xs:List Value)
def JM (w:World) (base:Nat) (e:TypeId) (v:Value) (xs:List Value):Prop :=
 (v=.slice none 0 0/\xs=[])\/∃ g cap cur,v=.slice (some ⟨g,0,none⟩) xs.length cap/\base<=g/\w.heap[g]? = some (.cells cur e (0,0))/\xs.length<=cap/\cap<=maxLen/\cur.size=cap/\cur.toList.take xs.length=xs/\∀ u∈cur.toList,∃ s:ByteArray,u=.string s/\s.size<=1000000
def Res.blk:Res->Option Nat
 | .box b _ _=>some b
 | .row _ _ v _ _=>v.ownBlock
 | .obj b _=>some b
 | .big _=>none
 | .ps _ v _=>v.ownBlock
def Res.ok (base:Nat) (W:World):Res->Prop
 | .box b l t=>base<=b/\W.heap[b]? = some (.cells l.toArray t (0,0))
 | .row e size v n xs=>W.ownsRow base e size v n xs
 | .obj b o=>base<=b/\W.heap[b]? = some o
 | .big k=>k<=W.heap.size
 | .ps e v xs=>JM W base e v xs
def Res.apart (x y:Res):Prop:=∀ b,x.blk=some b->y.blk≠some b
theorem Res.apart.symm {x y:Res} (h:x.apart y):y.apart x:=λb e f=>h b f e
structure St (H:Hp) (w0:World) (bs:List Res) (W:World):Prop where
 ext:Ext w0 W
 agr:Agr H W
 own:∀ x∈bs,x.ok w0.heap.size W/\∀ b,x.blk=some b->H b=none
 apart:bs.Pairwise Res.apart
 lo:H.lo<=w0.heap.size
variable {b:Nat}
theorem Res.ok.lt {base:Nat} {x:Res} (h:x.ok base W) (e:x.blk=some b):base<=b/\b<W.heap.size:=by
 cases x with
 | box c l t =>
  obtain rfl:c=b:=bL e;exact ⟨h.1,sY h.2⟩
 | obj c o =>
  obtain rfl:c=b:=bL e;exact ⟨h.1,sY h.2⟩
 | big c=>cases e
 | ps et v xs =>
  obtain ⟨rfl,_⟩ | ⟨g,cap,cur,rfl,hg,hc,_⟩:=h
  ·cases e
  ·obtain rfl:g=b:=bL e;exact ⟨hg,sY hc⟩
 | row et size v n xs =>
  obtain ⟨_,⟨rfl,_⟩ | ⟨g,cap,cur,rfl,hg,hc,_⟩⟩:=h
  ·cases e
  ·obtain rfl:g=b:=bL e;exact ⟨hg,sY hc⟩
theorem Res.ok.keep {base:Nat} {x:Res} (h:x.ok base W) (z:W.heap.size<=W'.heap.size) (k:∀ b,x.blk=some b->W'.heap[b]? = W.heap[b]?):x.ok base W':=by
 cases x with
 | box c l t=>exact ⟨h.1,(k c rfl).trans h.2⟩
 | obj c o=>exact ⟨h.1,(k c rfl).trans h.2⟩
 | big c=>exact aZ h z
 | ps et v xs =>
  obtain ⟨rfl,h0⟩ | ⟨g,cap,cur,rfl,hg,hc,hr⟩:=h
  ·exact .inl ⟨Z,h0⟩
  ·exact .inr ⟨g,cap,cur,Z,hg,(k g Z).trans hc,hr⟩
 | row et size v n xs =>
  obtain ⟨hl,⟨rfl,h0⟩ | ⟨g,cap,cur,rfl,hg,hc,hr⟩⟩:=h
  ·exact ⟨hl,.inl ⟨Z,h0⟩⟩
  ·exact ⟨hl,.inr ⟨g,cap,cur,Z,hg,(k g rfl).trans hc,hr⟩⟩
theorem aS6 (x:Ext W W') (h:b<W.heap.size):W'.heap[b]? = W.heap[b]? := by
 cases e:W.heap[b]? with
 | some o=>exact TF x e
 | none =>
  have:=Array.getElem?_eq_none_iff.1 e;omega
theorem Res.ok.ext {base:Nat} {x:Res} (h:x.ok base W) (e:Ext W W'):x.ok base W' :=
 h.keep e.size λ_ hb=>aS6 e (h.lt hb).2
structure wV (H:Hp) (W:World) (H':Hp) (W':World):Prop where
 ext:Ext W W'
 up:Up H H'
 new:∀ b,H b=none->b<W.heap.size->H' b=none
 agr:Agr H' W'
 mark:∀ b o,H' b=some o->H b=none->∃ arr t,o=Obj.cells arr t (0,0)
theorem wV.pure (h:Agr H W) (x:Ext W W'):wV H W H W':=⟨x,⟨λ_ _ e=>e,Z⟩,λ_ e _=>e,h.ext x,λb o e k=>by rw [k] at e;cases e⟩
variable {H':Hp} {w0:World} {bs:List Res}
theorem St.grow (h:St H w0 bs W) (g:wV H W H' W'):St H' w0 bs W' :=
 ⟨h.ext.trans g.ext,g.agr,λx hx=>⟨(h.own x hx).1.ext g.ext,λb e=>g.new b ((h.own x hx).2 b e) ((h.own x hx).1.lt e).2⟩,h.apart,g.up.lo ▸ h.lo⟩
theorem St.more (h:St H w0 bs W) (x:Ext W W'):St H w0 bs W':=h.grow (.pure h.agr x)
theorem St.start {w:World} (h:Agr H w):St H w [] w:=⟨Ext.refl w,h,(λ_ hx=>by cases hx),List.Pairwise.nil,h.lo⟩
theorem Agr.lt (h:Agr H W) (hb:W.heap.size<=b):H b=none:=by
 cases e:H b with
 | none=>rfl
 | some o=>have:=sY (h b o e);omega
theorem St.alloc (h:St H w0 bs W) (l:List Value) (t:TypeId) :
 St H w0 (.box W.heap.size l t::bs) (W.alloc (.cells l.toArray t)):=by
 have hx:Ext W (W.alloc (.cells l.toArray t)):=(Ext.refl W).alloc _;have k:=h.more hx;refine ⟨k.ext,k.agr,?_,.cons ?_ h.apart,h.lo⟩
 ·intro x hm;rcases bM.1 hm with rfl | hm
  ·refine ⟨⟨h.ext.size,?_⟩,λb e=>?_⟩
   ·show (W.heap.push _)[W.heap.size]? = _;simp
   ·obtain rfl:W.heap.size=b:=bL e;exact h.agr.lt (aY _)
  ·exact k.own x hm
 ·intro y hy b e e';obtain rfl:W.heap.size=b:=bL e;have:=((h.own y hy).1.lt e').2;omega
inductive Upd:List Res->Res->Res->List Res->Prop where
 | head {x y:Res} {r:List Res}:Upd (x::r) x y (y::r)
 | tail {x y z:Res} {r r':List Res}:Upd r x y r'->Upd (z::r) x y (z::r')
variable {bs':List Res}
theorem Upd.mem {x y:Res} (h:Upd bs x y bs'):x∈bs:=by
 induction h with
 | head=>exact .head _
 | tail _ ih=>exact .tail _ ih
theorem Upd.apart {x y:Res} (h:Upd bs x y bs') (ap:bs.Pairwise Res.apart):∃ o:List Res,(∀ z∈o,z∈bs/\x.apart z)/\(∀ z∈bs',z=y\/z∈o)/\((∀ z∈o,y.apart z)->bs'.Pairwise Res.apart):=by
 induction h with
 | @head x y r =>
  cases ap with
  | cons h1 h2=>exact ⟨r,λz hz=>⟨.tail _ hz,h1 z hz⟩,λz hz=>bM.1 hz,λk=>.cons k h2⟩
 | @tail x y z r r' hu ih =>
  cases ap with
  | cons h1 h2 =>
   obtain ⟨o,p1,p2,p3⟩:=ih h2;refine ⟨z::o,?_,?_,?_⟩
   ·intro u hu';rcases bM.1 hu' with rfl | hm
    ·exact ⟨.head _,(h1 x hu.mem).symm⟩
    ·exact ⟨.tail _ (p1 u hm).1,(p1 u hm).2⟩
   ·intro u hu';rcases bM.1 hu' with rfl | hm
    ·exact .inr Hm
    ·exact (p2 u hm).imp id (.tail _)
   ·intro k;refine .cons ?_ (p3 λu hm=>k u (.tail _ hm));intro u hm;rcases p2 u hm with rfl | hm
    ·exact (k z Hm).symm
    ·exact h1 u (p1 u hm).1 |> λq=>q
theorem St.upd {x y:Res} (h:St H w0 bs W) (u:Upd bs x y bs') (hx:Ext w0 W') (hsz:W.heap.size<=W'.heap.size)
 (hk:∀ b,b<W.heap.size->x.blk≠some b->W'.heap[b]? = W.heap[b]?) (hy:y.ok w0.heap.size W')
 (hb:∀ b,y.blk=some b->x.blk=some b\/W.heap.size<=b):St H w0 bs' W':=by
 obtain ⟨o,p1,p2,p3⟩:=u.apart h.apart
 have keep:∀ z∈o,∀ b,z.blk=some b->W'.heap[b]? = W.heap[b]? := λz hz b e =>
  hk b ((h.own z (p1 z hz).1).1.lt e).2 (λe'=>(p1 z hz).2 b e' e)
 refine ⟨hx,⟨?_,aZ h.agr.lo hsz⟩,?_,?_,h.lo⟩
 ·intro b ob e;have hb:=h.agr b ob e
  rw [hk b (sY hb) (λe'=>by
   have:=(h.own x u.mem).2 b e';rw [this] at e;cases e)]
  exact hb
 ·intro z hz;rcases p2 z hz with rfl | hz
  ·refine ⟨hy,λb e=>?_⟩;rcases hb b e with e' | e'
   ·exact (h.own x u.mem).2 b e'
   ·exact h.agr.lt e'
  ·exact ⟨(h.own z (p1 z hz).1).1.keep hsz (keep z hz),(h.own z (p1 z hz).1).2⟩
 ·refine p3 λz hz b e e'=>?_;rcases hb b e with e2 | e2
  ·exact (p1 z hz).2 b e2 e'
  ·have:=((h.own z (p1 z hz).1).1.lt e').2;omega
theorem HR (W:World) (b off:Nat) (v:Value) (c:Nat):(W.setCell ⟨b,off,none⟩ v).heap[c]? = if c=b then (W.heap[c]?).map (λ| .cells cs e f=>.cells (cs.setIfInBounds off v) e f | o=>o) else W.heap[c]? := by
 unfold World.setCell;rw [Array.getElem?_modify]
 by_cases h:b=c
 ·subst h;simp only [dC]
  congr 1
 ·rw [aA h,aA (vS h)]
variable {l:List Value} {t:TypeId} {v:Value}
theorem St.set {off:Nat} {l':List Value} (h:St H w0 bs W) (u:Upd bs (.box b l t) (.box b l' t) bs') (hl:l.set off v=l') :
 St H w0 bs' (W.setCell ⟨b,off,none⟩ v):=by
 have hm:=h.own _ u.mem;have hW:W.heap[b]? = some (.cells l.toArray t (0,0)):=hm.1.2;have hz:(W.setCell ⟨b,off,none⟩ v).heap.size=W.heap.size:=by simp [World.setCell]
 refine h.upd u (h.ext.setCell hm.1.1 v) aD ?_ ⟨hm.1.1,?_⟩ (λc e=>.inl e)
 ·intro c _ hn;rw [HR,aA (λe=>hn (by rw [e];rfl))]
 ·rw [HR,aK rfl,hW];simp [<-hl]
theorem St.cell {off:Nat} (h:St H w0 bs W) (hm:Res.box b l t∈bs) (hv:l[off]? = some v) :
 W.cell? ⟨b,off,none⟩=some v/\W.frozen? ⟨b,off,none⟩=false:=by
 have hW:W.heap[b]? = some (.cells l.toArray t (0,0)):=(h.own _ hm).1.2;exact ⟨by rw [YZ hW];simpa using hv,bM5 hW off⟩
theorem Upd.mid {x z:Res} (h:Upd bs x z bs') (y:Res):∃ bs1,Upd bs x y bs1/\Upd bs1 y z bs':=by
 induction h with
 | head=>exact ⟨_,.head,.head⟩
 | tail _ ih=>obtain ⟨b1,h1,h2⟩:=ih;exact ⟨_,.tail h1,.tail h2⟩
def pE (l:List Value):Nat->List Value->List Value
 | _,[]=>l
 | off,v::r=>pE (l.set off v) (off+1) r
theorem St.sets {H:Hp} {w0:World} {b:Nat} {t:TypeId}:∀ (vs:List Value) (off:Nat) (l:List Value) (W:World) (bs bs':List Res),St H w0 bs W->Upd bs (.box b l t) (.box b (pE l off vs) t) bs'->St H w0 bs' (W.setCells b off vs)
 | [],off,l,W,bs,bs',h,u=>by
  have:bs'=bs:=by
   have h2:∀ {bs bs':List Res} {x y:Res},Upd bs x y bs'->x=y->bs'=bs:=λu=>by
    induction u with
    | head=>intro e;rw [e]
    | tail _ ih=>intro e;rw [ih e]
   exact h2 u rfl
  rw [this];exact h
 | v::r,off,l,W,bs,bs',h,u=>by
  obtain ⟨b1,u1,u2⟩:=u.mid (.box b (l.set off v) t);exact St.sets r (off+1) (l.set off v) _ b1 bs' (h.set u1 rfl) u2
theorem JK:∀ (vs p l:List Value),l.length=vs.length->pE (p++l) p.length vs=p++vs
 | [],p,l,h=>by obtain rfl:l=[]:=bK h;rfl
 | v::r,p,l,h=>by
  match l,h with
  | x::l,h =>
   unfold pE;rw [lQ _ _ (aY _),hZ,rK];have:=JK r (p++[v]) l (by simpa using h);simpa using this
theorem Agr.cell (h:Agr H W) {off:Nat} {cs:Array Value} {m:Nat × Nat} (hb:H b=some (.cells cs t m)) (hv:cs[off]? = some v) :
 W.cell? ⟨b,off,none⟩=some v:=by
 rw [cell_of_row W b off cs t m (h b _ hb)];exact hv

def At (dfs:List Deferred) (n:Nat) (L:Sl) (H:Hp) (w0:World) (bs:List Res) (G:Act->World->Prop):Prop:=∀ a W,Fr dfs n L a->St H w0 bs W->G a W

section
variable {dfs:List Deferred} {P:Program} {n:Nat} {L:Sl} {H:Hp} {w0:World} {bs:List Res} {Q:Exit->Act->World->Prop} {ops:Array Oper} {rest:List Oper}

def KS:Nat->List Value->Sl
 | _,[]=>[]
 | k,v::r=>(k,v)::KS (k+1) r
theorem HO:∀ (l:List Value) (k t:Nat) (v:Value),look (KS k l) t=some v->k<=t/\l[t - k]? = some v
 | [],_,_,_,e=>by cases e
 | u::r,k,t,v,e=>by
  unfold KS look at e;cases hb:Nat.beq k t
  ·rw [hb,cond_false] at e;obtain ⟨h1,h2⟩:=HO r (k+1) t v e;refine ⟨aD,?_⟩;rw [show t - k=(t - (k+1))+1 by omega];simpa using h2
  ·rw [hb,lN] at e;have:=lP hb;subst this;simpa using e
theorem enter {f:FuncId} {fn:Func} {c:Code} {args:List Value} {w:World} {R:Ending->World->Prop} (hf:P.funcs[f]? = some fn) (hb:fn.body=some c) (hn:fn.ntmps=n) (hl:Nat.ble args.length n=true) (hA:Agr H w)
 (h:At [] n (KS 0 args) H w [] (c.wp P (bodyPost P fn R))):Calls P f args.toArray w R:=by
 refine calls_of_wp hf hb (h _ _ ⟨?_,Z,?_⟩ (.start hA))
 ·have:args.length<=n:=lO hl;simp [hn];omega
 ·intro t v e;obtain ⟨_,h2⟩:=HO args 0 t v e;rw [wY] at h2;have hlt:t<args.length:=(List.getElem?_eq_some_iff.1 h2).1;rw [Al_Array_getD_eq_getD_getElem?];rw [Array.getElem?_append_left (by simpa using hlt)];simp [h2]

theorem seq {x y:Code} (h:At dfs n L H w0 bs (x.wp P (Exit.then (y.wp P Q) Q))):At dfs n L H w0 bs ((Code.seq x y).wp P Q):=λa W f s=>wp_seq (h a W f s)
theorem cut {x y:Code} (M:Act->World->Prop) (h:At dfs n L H w0 bs (x.wp P (Exit.then M Q))) (k:∀ a W,M a W->y.wp P Q a W):At dfs n L H w0 bs ((Code.seq x y).wp P Q) :=
 λa W f s=>wp_seq (wp_mono (h a W f s) λe a' W' q=>by cases e <;> first | exact q | exact k _ _ q)
theorem blk {id:Nat} {c:Code} (h:At dfs n L H w0 bs (c.wp P (Exit.inBlock id Q))):At dfs n L H w0 bs ((Code.block id c).wp P Q):=λa W f s=>wp_block (h a W f s)
theorem skip (h:At dfs n L H w0 bs (Q .normal)):At dfs n L H w0 bs (Code.skip.wp P Q):=λa W f s=>wp_skip (h a W f s)
theorem ret (h:At dfs n L H w0 bs (Q .ret)):At dfs n L H w0 bs (Code.ret.wp P Q):=λa W f s=>wp_ret (h a W f s)
theorem exit {id:Nat} (h:At dfs n L H w0 bs (Q (.exit id))):At dfs n L H w0 bs ((Code.exit id).wp P Q):=λa W f s=>wp_exit (h a W f s)
theorem cond {c:Operand} {x y:Code} {t:Bool} (hc:ev L c=some (.bool t)) (h1:t=true->At dfs n L H w0 bs (x.wp P Q)) (h2:t=false->At dfs n L H w0 bs (y.wp P Q)):At dfs n L H w0 bs ((Code.cond c x y).wp P Q) :=
 λa W f s=>wp_cond_split (f.ev hc) (λe=>h1 e a W f s) (λe=>h2 e a W f s)
theorem cQ4 {c:Operand} {x y:Code} (hc:ev L c=some (.bool true)) (h:At dfs n L H w0 bs (x.wp P Q)):At dfs n L H w0 bs ((Code.cond c x y).wp P Q):=cond hc (λ_=>h) (λe=>by cases e)
theorem cQ5 {c:Operand} {x y:Code} (hc:ev L c=some (.bool false)) (h:At dfs n L H w0 bs (y.wp P Q)):At dfs n L H w0 bs ((Code.cond c x y).wp P Q):=cond hc (λe=>by cases e) (λ_=>h)
theorem region {id:Nat} {l:List Oper} (h:At dfs n L H w0 bs (wpList P l.toArray Q l)):At dfs n L H w0 bs ((Code.region id l.toArray false).wp P Q):=λa W f s=>wp_region_lit (h a W f s)
theorem nil (h:At dfs n L H w0 bs (Q .normal)):At dfs n L H w0 bs (wpList P ops Q []):=λa W f s=>wpList_nil (h a W f s)
theorem cT9 {id:Nat} (h:At dfs n L H w0 bs (Q .normal)):At dfs n L H w0 bs (Exit.inBlock id Q (.exit id)):=λa W f s=>by simp only [Exit.inBlock,dC];exact h a W f s
theorem loop {c:Code} {X:Type} (L':X->Sl) (H':X->Hp) (bs':X->List Res) (C:X->Prop) (μ:X->Nat) (x0:X) (hC:C x0) (hL:Sub L (L' x0)) (hB:∀ W,St H w0 bs W->St (H' x0) w0 (bs' x0) W)
 (round:∀ x,C x->At dfs n (L' x) (H' x) w0 (bs' x) (c.wp P (Exit.then (λa W=>∃ y,(C y/\μ y<μ x)/\Fr dfs n (L' y) a/\St (H' y) w0 (bs' y) W) Q))) :
 At dfs n L H w0 bs ((Code.loop c).wp P Q):=by
 intro a W f s;refine wp_loop_ghost (λm a W=>∃ x,μ x=m/\C x/\Fr dfs n (L' x) a/\St (H' x) w0 (bs' x) W) _ ⟨x0,Z,hC,f.sub hL,hB W s⟩ ?_;rintro m a W ⟨x,rfl,hx,f,s⟩;refine wp_mono (round x hx a W f s) λe a' W' q=>?_;cases e <;> first | exact q | skip
 obtain ⟨y,⟨hy,hlt⟩,fy,sy⟩:=q;exact ⟨_,hlt,y,Z,hy,fy,sy⟩
end

def jI (P:Program) (t:TypeId):Option (Option Nat) :=
 match P.underlying t with
 | some (.struct _) | some (.array _ _)=>(P.info? t).map (λi=>some i.size)
 | some _=>some none
 | none=>none
def gQ (P:Program) (t:TypeId):Option Nat:=(P.info? t).map (·.size)
def nA (P:Program) (t:TypeId):Option (List Value):=(P.info? t).bind λi=>i.zero.map (·.cells.toList)
def dU (P:Program) (s:TypeId) (k:Nat):Option Nat :=
 match P.underlying s with
 | some (.struct fs)=>(fs[k]?).bind λf=>(gQ P f.type).bind λz=>if z=0 then none else some f.offset
 | _=>none
def QQ (P:Program) (t:TypeId):Option (Nat × Nat) :=
 match P.underlying t with
 | some (.array len e)=>(gQ P e).map λz=>(len,z)
 | _=>none
def slN (P:Program) (t:TypeId):Option Nat :=
 match P.underlying t with
 | some (.slice e)=>gQ P e
 | _=>none
def AM (P:Program) (t:TypeId):Bool:=match P.underlying t with | some .string=>true | _=>false
def YC (P:Program) (t:TypeId):Option IntKind:=match P.underlying t with | some (.int k)=>some k | _=>none
def kM (P:Program) (f:FuncId):Bool:=match P.funcs[f]? with | some fn=>fn.body.isSome && !(fn.name == "runtime.NumGoroutine") | none=>false

section
variable {dfs:List Deferred} {P:Program} {W:World}
theorem uJ {t:TypeId} (h:jI P t=some none):(isAgg t).run P W=.ok false W:=by
 unfold jI at h;unfold isAgg;simp only [Sem.run_bind,underlying];cases hu:P.underlying t with
 | none=>rw [hu] at h;cases h
 | some d =>
  rw [hu] at h;cases d <;> simp_all [program,Sem.run,Result.andThen]
theorem vU {t:TypeId} {m:Nat} (h:jI P t=some (some m)):(isAgg t).run P W=.ok true W/\(Go.sizeOf t).run P W=.ok m W:=by
 unfold jI at h;unfold isAgg Go.sizeOf typeInfo;simp only [Sem.run_bind,underlying];cases hu:P.underlying t with
 | none=>rw [hu] at h;cases h
 | some d =>
  rw [hu] at h;cases d <;> simp_all [program,Sem.run,Result.andThen] <;> (obtain ⟨i,hi,rfl⟩:=h;simp [hi])
theorem nB {t:TypeId} {m:Nat} (h:gQ P t=some m):(Go.sizeOf t).run P W=.ok m W:=by
 unfold gQ at h;unfold Go.sizeOf typeInfo;simp only [Sem.run_bind];obtain ⟨i,hi,rfl⟩:=fE.1 h;simp [program,Sem.run,Result.andThen,hi]
theorem vT {t:TypeId} {l:List Value} (h:nA P t=some l):∃ z,(zeroValue t).run P W=.ok z W/\z.cells.toList=l:=by
 unfold nA at h;obtain ⟨i,hi,h2⟩:=dS.1 h;obtain ⟨z,hz,rfl⟩:=fE.1 h2;refine ⟨z,?_,Z⟩;unfold zeroValue typeInfo;simp [Sem.run_bind,program,Sem.run,Result.andThen,hi,hz]
end

section
variable {dfs:List Deferred} {P:Program} {n:Nat} {L:Sl} {H:Hp} {w0:World} {bs:List Res} {Q:Exit->Act->World->Prop} {ops:Array Oper} {K:Act->World->Prop}
variable {d:Option Tmp} {ty:TypeId} {pos:String} {aft:Array Edge} {g:Option (Nat × Bool)} {v:Value} {t:Tmp} {op:Op}

def one (P:Program) (ops:Array Oper) (Q:Exit->Act->World->Prop) (o:Oper) (K:Act->World->Prop) (a:Act) (w:World):Prop :=
 if Region.wanted o (yielded ops a.tmps) then o.wp P a w K Q\/(o.asks P a w/\LetsOut Q) else K (a.put o.dst undef) w
theorem nR {o:Oper} {a:Act} {w:World} (hg:o.guard=none) (h:o.wp P a w K Q):one P ops Q o K a w:=by
 unfold one;rw [aK (by simp [Region.wanted,hg])];exact .inl h
theorem cons {o:Oper} {rest:List Oper} (h:At dfs n L H w0 bs (one P ops Q o (wpList P ops Q rest))):At dfs n L H w0 bs (wpList P ops Q (o::rest)):=h
def Yl (P:Program) (L:Sl) (H:Hp) (w0:World) (bs:List Res) (o:Oper) (v:Value):Prop :=
 ∀ (a:Act) W,(∀ x u,ev L x=some u->a.eval x=u)->St H w0 bs W->Oper.quietUpon P (Ext W) W v ((execOp a.eval o).run P W)
theorem Yl.of_run {o:Oper} (h:∀ (a:Act) W,(∀ x u,ev L x=some u->a.eval x=u)->St H w0 bs W->(execOp a.eval o).run P W=.ok (.value v) W):Yl P L H w0 bs o v :=
 λa W f s=>by rw [h a W f s];exact ⟨Z,Z⟩

theorem yl (hy:Yl P L H w0 bs ⟨some t,op,ty,pos,aft,none⟩ v) (ht:Nat.blt t n=true) (h:At dfs n ((t,v)::L) H w0 bs K) :
 At dfs n L H w0 bs (one P ops Q ⟨some t,op,ty,pos,aft,none⟩ K):=by
 intro a W f s;refine nR rfl ?_;have h3:=hy a W (λx u e=>f.ev e) s;unfold Oper.wp;generalize (execOp a.eval ⟨some t,op,ty,pos,aft,none⟩).run P W=r at *;cases r with
 | ok x w' =>
  cases x <;> simp only [Oper.quietUpon] at h3 <;> simp only [Oper.upon]
  case value u =>
   obtain ⟨e1,e2⟩:=h3;subst e1 e2;exact (h _ _ (f.put ht _) s)
  case skip =>
   obtain ⟨e1,e2⟩:=h3;subst e1 e2;exact (h _ _ (f.put ht _) s)
  case enter fi args =>
   obtain ⟨e1,hc⟩:=h3;subst e1;exact hc.mono λe w'' ⟨he,hw''⟩=>by subst he;exact (h _ _ (f.put ht _) (s.more hw''))
 | halt x w'=>simp only [Oper.quietUpon] at h3

theorem cI7 {j:Nat} {b:Bool} {u:Tmp} (hd:(ops[j]?).bind (·.dst)=some u) (hs:look L u=some (.bool b)) (h:At dfs n L H w0 bs (one P ops Q ⟨d,op,ty,pos,aft,none⟩ K)) :
 At dfs n L H w0 bs (one P ops Q ⟨d,op,ty,pos,aft,some (j,b)⟩ K):=by
 intro a W f s;have hq:=h a W f s
 have hy:yielded ops a.tmps j=some b:=by
  have:=f.slot u _ hs;unfold yielded;rw [hd];simp only [iR];rw [Al_Array_getD_eq_getD_getElem?] at this;cases e:a.tmps[u]? with
  | none=>rw [e] at this;simp [undef] at this
  | some x=>rw [e] at this;simp at this;subst this;rfl
 unfold one at hq|-;rw [aK (by simp [Region.wanted])] at hq;rw [aK (by simp [Region.wanted,hy])];exact hq
theorem cI8 {j:Nat} {b c:Bool} {u:Tmp} (hd:(ops[j]?).bind (·.dst)=some u) (hs:look L u=some (.bool c)) (hne:(c == b)=false) (ht:Nat.blt t n=true) (h:At dfs n ((t,undef)::L) H w0 bs K) :
 At dfs n L H w0 bs (one P ops Q ⟨some t,op,ty,pos,aft,some (j,b)⟩ K):=by
 intro a W f s
 have hy:yielded ops a.tmps j=some c:=by
  have:=f.slot u _ hs;unfold yielded;rw [hd];simp only [iR];rw [Al_Array_getD_eq_getD_getElem?] at this;cases e:a.tmps[u]? with
  | none=>rw [e] at this;simp [undef] at this
  | some x=>rw [e] at this;simp at this;subst this;rfl
 unfold one;rw [aA (by simp only [Region.wanted,hy];simp;intro e;subst e;simp at hne)];exact h _ _ (f.put ht _) s
theorem bool {p:Bool} {G:Act->World->Prop} (h1:p=true->At dfs n ((t,.bool true)::L) H w0 bs G) (h2:p=false->At dfs n ((t,.bool false)::L) H w0 bs G):At dfs n ((t,.bool p)::L) H w0 bs G:=by
 cases p
 ·exact h2 rfl
 ·exact h1 rfl

theorem Yl.move {x:Operand} (hx:ev L x=some v):Yl P L H w0 bs ⟨d,.move x,ty,pos,aft,g⟩ v:=.of_run λa W f _=>by unfold execOp;simp [f x _ hx]
theorem Yl.assign {x:Operand} (hx:ev L x=some v):Yl P L H w0 bs ⟨d,.assign x,ty,pos,aft,g⟩ v:=.of_run λa W f _=>by unfold execOp;simp [f x _ hx]
theorem Yl.pickT {c x y:Operand} (hc:ev L c=some (.bool true)) (hx:ev L x=some v):Yl P L H w0 bs ⟨d,.pick c x y,ty,pos,aft,g⟩ v:=.of_run λa W f _=>by unfold execOp;simp [f x _ hx,f c _ hc,asBool]
theorem Yl.pickF {c x y:Operand} (hc:ev L c=some (.bool false)) (hy:ev L y=some v):Yl P L H w0 bs ⟨d,.pick c x y,ty,pos,aft,g⟩ v:=.of_run λa W f _=>by unfold execOp;simp [f y _ hy,f c _ hc,asBool]

section ints
variable {x y:Operand} {k:IntKind} {i j c:Int} {T T':TypeId}
theorem Yl.lss (hx:ev L x=some (.int k i)) (hy:ev L y=some (.int k j)):Yl P L H w0 bs ⟨d,.binOp .lss T x y T',ty,pos,aft,g⟩ (.bool (decide (i<j))):=.of_run λa W f _=>by
 unfold execOp;simp [f x _ hx,f y _ hy,eqGuard,binOp,Op.intCmp]
theorem Yl.leq (hx:ev L x=some (.int k i)) (hy:ev L y=some (.int k j)):Yl P L H w0 bs ⟨d,.binOp .leq T x y T',ty,pos,aft,g⟩ (.bool (decide (i<=j))):=.of_run λa W f _=>by
 unfold execOp;simp [f x _ hx,f y _ hy,eqGuard,binOp,Op.intCmp]
theorem Yl.gtr (hx:ev L x=some (.int k i)) (hy:ev L y=some (.int k j)):Yl P L H w0 bs ⟨d,.binOp .gtr T x y T',ty,pos,aft,g⟩ (.bool (decide (j<i))):=.of_run λa W f _=>by
 unfold execOp;simp [f x _ hx,f y _ hy,eqGuard,binOp,Op.intCmp]
theorem Yl.geq (hx:ev L x=some (.int k i)) (hy:ev L y=some (.int k j)):Yl P L H w0 bs ⟨d,.binOp .geq T x y T',ty,pos,aft,g⟩ (.bool (decide (j<=i))):=.of_run λa W f _=>by
 unfold execOp;simp [f x _ hx,f y _ hy,eqGuard,binOp,Op.intCmp]
theorem Yl.eql (hx:ev L x=some (.int k i)) (hy:ev L y=some (.int k j)):Yl P L H w0 bs ⟨d,.binOp .eql T x y T',ty,pos,aft,g⟩ (.bool (decide (i=j))):=.of_run λa W f _=>by
 unfold execOp;simp [f x _ hx,f y _ hy,eqGuard,binOp,Op.intCmp];rfl
theorem Yl.neq (hx:ev L x=some (.int k i)) (hy:ev L y=some (.int k j)):Yl P L H w0 bs ⟨d,.binOp .neq T x y T',ty,pos,aft,g⟩ (.bool (decide (¬ i=j))):=.of_run λa W f _=>by
 unfold execOp;simp [f x _ hx,f y _ hy,eqGuard,binOp,Op.intCmp,bne];rfl
theorem Yl.add (hx:ev L x=some (.int k i)) (hy:ev L y=some (.int k j)) (hw:k.wrap (i+j)=c):Yl P L H w0 bs ⟨d,.binOp .add T x y T',ty,pos,aft,g⟩ (.int k c):=.of_run λa W f _=>by
 unfold execOp;simp [f x _ hx,f y _ hy,eqGuard,binOp,Op.intArith,hw]
theorem Yl.sub (hx:ev L x=some (.int k i)) (hy:ev L y=some (.int k j)) (hw:k.wrap (i - j)=c):Yl P L H w0 bs ⟨d,.binOp .sub T x y T',ty,pos,aft,g⟩ (.int k c):=.of_run λa W f _=>by
 unfold execOp;simp [f x _ hx,f y _ hy,eqGuard,binOp,Op.intArith,hw]
theorem Yl.mul (hx:ev L x=some (.int k i)) (hy:ev L y=some (.int k j)) (hw:k.wrap (i * j)=c):Yl P L H w0 bs ⟨d,.binOp .mul T x y T',ty,pos,aft,g⟩ (.int k c):=.of_run λa W f _=>by
 unfold execOp;simp [f x _ hx,f y _ hy,eqGuard,binOp,Op.intArith,hw]
theorem Yl.conv {k':IntKind} (hx:ev L x=some (.int k i)) (hT:YC P T=some k) (hT':YC P T'=some k') (hw:k'.wrap i=c):Yl P L H w0 bs ⟨d,.convert T T' x,ty,pos,aft,g⟩ (.int k' c):=.of_run λa W f _=>by
 have h1:P.underlying T=some (.int k):=by
  unfold YC at hT;cases hu:P.underlying T with
  | none=>rw [hu] at hT;cases hT
  | some e=>rw [hu] at hT;cases e <;> simp_all
 have h2:P.underlying T'=some (.int k'):=by
  unfold YC at hT';cases hu:P.underlying T' with
  | none=>rw [hu] at hT';cases hT'
  | some e=>rw [hu] at hT';cases e <;> simp_all
 unfold execOp;simp [f x _ hx,convert,underlying,program,Sem.run,h1,h2,Conv.intToInt,hw]
end ints
theorem Yl.not {x:Operand} {T:TypeId} {p:Bool} (hx:ev L x=some (.bool p)):Yl P L H w0 bs ⟨d,.unOp .not T x,ty,pos,aft,g⟩ (.bool (!p)):=.of_run λa W f _=>by
 unfold execOp;simp [f x _ hx,Op.unary]

section mem
variable {x y:Operand} {b off m:Nat} {l:List Value} {T t':TypeId}
theorem FJ {W:World} {vs:List Value} (hW:W.heap[b]? = some (.cells l.toArray t' (0,0))) (hv:∀ j u,vs[j]? = some u->l[off+j]? = some u):(loadCells ⟨b,off,none⟩ vs.length).run P W=.ok vs.toArray W :=
 run_loadCells_list W _ vs λj u e=>by
  rw [Addr.add_lit,YZ hW];simpa using hv j u e
theorem Yl.load (hp:ev L x=some (.pointer (some ⟨b,off,none⟩))) (hT:jI P T=some none) (hm:Res.box b l t'∈bs) (hv:l[off]? = some v):Yl P L H w0 bs ⟨d,.load T x,ty,pos,aft,g⟩ v:=.of_run λa W f s=>by
 unfold execOp;simp only [f x _ hp,Instr.loadAt,Instr.sureAddr,loadVar,Sem.run_bind,Sem.run_pure,Result.andThen,uJ hT,aM,cZ];rw [show (Go.load ⟨b,off,none⟩).run P W=.ok v W from by simp [Go.load,Sem.run,(s.cell hm hv).1]]
theorem Yl.loadS {vs:List Value} (hp:ev L x=some (.pointer (some ⟨b,off,none⟩))) (hT:jI P T=some (some m)) (hm:Res.box b l t'∈bs) (hl:vs.length=m) (hv:∀ j u,vs[j]? = some u->l[off+j]? = some u):Yl P L H w0 bs ⟨d,.load T x,ty,pos,aft,g⟩ (.agg vs.toArray):=.of_run λa W f s=>by
 have hW:W.heap[b]? = some (.cells l.toArray t' (0,0)):=(s.own _ hm).1.2;obtain ⟨h1,h2⟩:=vU (W:=W) hT;subst hl;unfold execOp;simp only [f x _ hp,Instr.loadAt,Instr.sureAddr,loadVar,Sem.run_bind,Sem.run_pure,Result.andThen,h1,h2,dC,FJ hW hv]
theorem Yl.loadW (hp:ev L x=some (.pointer (dI b))) (hT:jI P T=some (some m)) (hm:Res.box b l t'∈bs) (hl:l.length=m):Yl P L H w0 bs ⟨d,.load T x,ty,pos,aft,g⟩ (.agg l.toArray) :=
 .loadS hp hT hm hl λj u e=>by rw [dO];exact e
theorem Yl.fieldAddr {o i:Nat} (hp:ev L x=some (.pointer (some ⟨b,off,none⟩))) (hF:dU P T i=some o):Yl P L H w0 bs ⟨d,.fieldAddr T x i,ty,pos,aft,g⟩ (.pointer (some ⟨b,off+o,none⟩)):=.of_run λa W f s=>by
 unfold dU at hF;cases hu:P.underlying T with
 | none=>rw [hu] at hF;cases hF
 | some e =>
  rw [hu] at hF;cases e <;> simp only [reduceCtorEq] at hF;rename_i fs;obtain ⟨fl,hf,h2⟩:=dS.1 hF;obtain ⟨z,hz,h3⟩:=dS.1 h2
  split at h3
  ·cases h3
  ·rename_i hz0;obtain rfl:=bL h3;unfold execOp;simp [f x _ hp,Instr.fieldAt,underlying,program,Sem.run,Result.andThen,hu,hf,fieldPlace,Instr.sureAddr,nB hz,hz0,Addr.add_lit]
theorem Yl.indexArr {k:IntKind} {i len z q:Nat} {ii:Int} (hT:QQ P T=some (len,z)) (hp:ev L x=some (.pointer (some ⟨b,off,none⟩))) (hi:ev L y=some (.int k ii)) (e:ii=(i:Int)) (h:i<len) (hq:off+i * z=q) :
 Yl P L H w0 bs ⟨d,.indexAddr T x y,ty,pos,aft,g⟩ (.pointer (some ⟨b,q,none⟩)):=.of_run λa W f s=>by
 subst hq e;unfold QQ at hT;cases hu:P.underlying T with
 | none=>rw [hu] at hT;cases hT
 | some e =>
  rw [hu] at hT;cases e <;> simp only [reduceCtorEq] at hT;rename_i len' el;obtain ⟨z',hz,h3⟩:=fE.1 hT;obtain ⟨rfl,rfl⟩:=rY h3;unfold execOp;simp [f x _ hp,f y _ hi,Instr.indexAt,asIntOf,underlying,program,Sem.run,Result.andThen,hu,Instr.sureAddr,nB hz,h,Addr.add_lit]
theorem Yl.indexSl {k:IntKind} {i len c z q:Nat} {ii:Int} (hT:slN P T=some z) (hp:ev L x=some (.slice (some ⟨b,off,none⟩) len c)) (hi:ev L y=some (.int k ii)) (e:ii=(i:Int)) (h:i<len) (hq:off+i * z=q) :
 Yl P L H w0 bs ⟨d,.indexAddr T x y,ty,pos,aft,g⟩ (.pointer (some ⟨b,q,none⟩)):=.of_run λa W f s=>by
 subst hq e;unfold slN at hT;cases hu:P.underlying T with
 | none=>rw [hu] at hT;cases hT
 | some e =>
  rw [hu] at hT;cases e <;> simp only [reduceCtorEq] at hT;rename_i el;unfold execOp;simp [f x _ hp,f y _ hi,Instr.indexAt,asIntOf,underlying,program,Sem.run,Result.andThen,hu,nB hT,h,Addr.add_lit]
theorem Yl.lenSl {p:Option Addr} {len c z:Nat} (hT:slN P T=some z) (hp:ev L x=some (.slice p len c)):Yl P L H w0 bs ⟨d,.call ⟨.builtin .len,#[x],#[T]⟩,ty,pos,aft,g⟩ (.int .i64 len):=.of_run λa W f s=>by
 unfold slN at hT;cases hu:P.underlying T with
 | none=>rw [hu] at hT;cases hT
 | some e =>
  rw [hu] at hT;cases e <;> simp only [reduceCtorEq] at hT;unfold execOp;simp [f x _ hp,resolve,invoke,builtin,Builtin.len_,underlying,program,Sem.run,Result.andThen,hu,goInt]
theorem Yl.lenStr {s:ByteArray} (hT:AM P T=true) (hp:ev L x=some (.string s)):Yl P L H w0 bs ⟨d,.call ⟨.builtin .len,#[x],#[T]⟩,ty,pos,aft,g⟩ (.int .i64 s.size):=.of_run λa W f _=>by
 unfold AM at hT;cases hu:P.underlying T with
 | none=>rw [hu] at hT;cases hT
 | some e =>
  rw [hu] at hT;cases e <;> simp only [aM] at hT;unfold execOp;simp [f x _ hp,resolve,invoke,builtin,Builtin.len_,underlying,program,Sem.run,Result.andThen,hu,goInt]
theorem Yl.extract {vs:List Value} {i:Nat} (hx:ev L x=some (.tuple vs.toArray)) (hv:vs[i]? = some v):Yl P L H w0 bs ⟨d,.extract x i,ty,pos,aft,g⟩ v:=.of_run λa W f s=>by
 unfold execOp;simp [f x _ hx,Instr.extract,hv]
end mem

def evs (L:Sl):List Operand->Option (List Value)
 | []=>some []
 | x::r=>(ev L x).bind λv=>(evs L r).map (v::·)
theorem EQ {a:Act} (f:∀ x u,ev L x=some u->a.eval x=u):∀ {xs:List Operand} {vs:List Value},evs L xs=some vs->xs.map a.eval=vs
 | [],vs,e=>by cases e;rfl
 | x::r,vs,e=>by
  unfold evs at e;obtain ⟨v,hv,h2⟩:=dS.1 e;obtain ⟨us,hu,rfl⟩:=fE.1 h2;rw [eP,f x v hv,EQ f hu]
theorem BH {f:FuncId} {args:Array Value} {W:World} (h:kM P f=true):(callFunc f args).run P W=.ok (.enter f args) W:=by
 unfold kM at h;cases hf:P.funcs[f]? with
 | none=>rw [hf] at h;cases h
 | some fn =>
  rw [hf] at h;simp only [aE,eT] at h;obtain ⟨h1,h2⟩:=h;have h3:fn.body.isNone=false:=by cases e:fn.body <;> simp_all
  unfold callFunc;simp only [program,Sem.run_bind,Sem.run,Result.andThen,hf,h2,h3,aM,cZ]
  rfl
theorem JW {f:FuncId} {xs:List Operand} {vs:List Value} {ats:Array TypeId} {a:Act} {W:World} (hc:kM P f=true) (f0:∀ x u,ev L x=some u->a.eval x=u) (hv:evs L xs=some vs) :
 (execOp a.eval ⟨d,.call ⟨.value (.func f),xs.toArray,ats⟩,ty,pos,aft,g⟩).run P W=.ok (.enter f vs.toArray) W:=by
 unfold execOp;have:(#[]:Array Value)=[].toArray:=rfl;simp [resolve,Deferred.ofValue,Act.eval,invoke,EQ f0 hv,BH hc]
theorem Yl.call {f:FuncId} {xs:List Operand} {vs:List Value} {ats:Array TypeId} (hf:kM P f=true) (hv:evs L xs=some vs) (hc:∀ W,St H w0 bs W->Calls P f vs.toArray W λe W'=>e=.returned v/\Ext W W') :
 Yl P L H w0 bs ⟨d,.call ⟨.value (.func f),xs.toArray,ats⟩,ty,pos,aft,g⟩ v:=λa W f0 s=>by
 rw [JW hf f0 hv];exact ⟨Z,hc W s⟩

theorem Yl.xl {d:Option Tmp} {g:Option (Nat × Bool)} {f:FuncId} {xs:List Operand} {vs:List Value} {ats:Array TypeId} (hv:evs L xs=some vs) (hc:∀ W,St H w0 bs W->Calls P f vs.toArray W λe W'=>e=.returned v/\Ext W W') (hf:kM P f=true:=by kernel_rfl):Yl P L H w0 bs ⟨d,.call ⟨.value (.func f),xs.toArray,ats⟩,ty,pos,aft,g⟩ v:=.call hf hv hc
theorem alloc {l:List Value} {T:TypeId} (hz:nA P T=some l) (ht:Nat.blt t n=true) (h:∀ b,At dfs n ((t,.pointer (dI b))::L) H w0 (.box b l T::bs) K) :
 At dfs n L H w0 bs (one P ops Q ⟨some t,.alloc T,ty,pos,aft,none⟩ K):=by
 intro a W f s;refine nR rfl ?_;obtain ⟨z,h1,h2⟩:=vT (W:=W) hz
 have e:(execOp a.eval ⟨some t,.alloc T,ty,pos,aft,none⟩).run P W=.ok (.value (.pointer (some ⟨W.heap.size,0,none⟩))) (W.alloc (.cells z.cells T)):=by
  unfold execOp;simp [Instr.alloc,Sem.run_bind,Result.andThen,h1,newVar,newRow,newObj,Sem.run]
 unfold Oper.wp;rw [e];have e2:z.cells=l.toArray:=by rw [<-h2]
 rw [e2];exact (h _ _ _ (f.put ht _) (s.alloc l T))
theorem box {x:Operand} {v:Value} {l:List Value} {T:TypeId} (hx:ev L x=some v) (hl:v.cells.toList=l) (ht:Nat.blt t n=true) (h:∀ b,At dfs n ((t,.pointer (dI b))::L) H w0 (.box b l T::bs) K) :
 At dfs n L H w0 bs (one P ops Q ⟨some t,.box T x,ty,pos,aft,none⟩ K):=by
 intro a W f s;refine nR rfl ?_
 have e:(execOp a.eval ⟨some t,.box T x,ty,pos,aft,none⟩).run P W=.ok (.value (.pointer (some ⟨W.heap.size,0,none⟩))) (W.alloc (.cells v.cells T)):=by
  unfold execOp;simp [Instr.box,f.ev hx,Result.andThen,newVar,newRow,newObj,Sem.run]
 unfold Oper.wp;rw [e];have e2:v.cells=l.toArray:=by rw [<-hl]
 rw [e2];exact (h _ _ _ (f.put ht _) (s.alloc l T))
theorem aB5 {x y:Operand} {b off:Nat} {l vs:List Value} {T t':TypeId} {v:Value} {bs':List Res} (hp:ev L x=some (.pointer (some ⟨b,off,none⟩))) (hv:ev L y=some v) (hT:gQ P T=some vs.length) (hc:v.cells=vs.toArray) (h1:∀ u∈vs,u.oneCell'=true)
 (hm:Upd bs (.box b l t') (.box b (pE l off vs) t') bs') (ho:off+vs.length<=l.length) (h:At dfs n L H w0 bs' K) :
 At dfs n L H w0 bs (one P ops Q ⟨none,.store T x y,ty,pos,aft,none⟩ K):=by
 intro a W f s;refine nR rfl ?_
 have hcell:∀ j,j<vs.length->W.cell? ⟨b,off+j,none⟩=some l[off+j]! /\ W.frozen? ⟨b,off+j,none⟩=false:=λj hj=>s.cell hm.mem (by
  have:off+j<l.length:=aD
  simp [this])
 have hs:=run_storeCells_cells (P:=P) b off vs 0 W (λj hj=>by rw [jH,(hcell j hj).1];rfl) (λj hj=>by rw [jH];exact (hcell j hj).2) h1;rw [jH] at hs
 have e:(execOp a.eval ⟨none,.store T x y,ty,pos,aft,none⟩).run P W=.ok .skip (W.setCells b off vs):=by
  unfold execOp;simp only [f.ev hp,f.ev hv,Instr.storeAt,Instr.sureAddr,storeVar,Sem.run_bind,Sem.run_pure,Result.andThen,nB hT,hc,List.size_toArray,ne_eq,not_true,cZ,hs]
 unfold Oper.wp;rw [e];exact (h _ _ (f.putNone _) (s.sets vs off l W bs bs' hm))
theorem store {x y:Operand} {b off:Nat} {l l':List Value} {T t':TypeId} {v:Value} {bs':List Res} (hp:ev L x=some (.pointer (some ⟨b,off,none⟩))) (hv:ev L y=some v) (hT:gQ P T=some 1) (h1:v.oneCell'=true)
 (hm:Upd bs (.box b l t') (.box b l' t') bs') (ho:off<l.length) (hl:l.set off v=l') (h:At dfs n L H w0 bs' K) :
 At dfs n L H w0 bs (one P ops Q ⟨none,.store T x y,ty,pos,aft,none⟩ K) :=
 aB5 (vs:=[v]) hp hv hT (by cases v <;> first | rfl | cases h1) (by simpa using h1) (by simpa only [pE,hl] using hm) ho h
theorem NR {x y:Operand} {b:Nat} {l vs:List Value} {T t':TypeId} {bs':List Res} (hp:ev L x=some (.pointer (dI b))) (hv:ev L y=some (.agg vs.toArray)) (hT:gQ P T=some vs.length) (h1:∀ u∈vs,u.oneCell'=true)
 (hm:Upd bs (.box b l t') (.box b vs t') bs') (ho:l.length=vs.length) (h:At dfs n L H w0 bs' K) :
 At dfs n L H w0 bs (one P ops Q ⟨none,.store T x y,ty,pos,aft,none⟩ K) :=
 aB5 (vs:=vs) hp hv hT rfl h1 (by
  have:=JK vs [] l ho;simp only [dE,aH] at this;rw [this];exact hm) aD h

/-! ### Results -/
def rvF (tmps:Array Value):ResultVar->Sem Value
 | .tmp t=>pure (tmps.getD t undef)
 | .cell a t=>do loadVar t (<-asAddr (tmps.getD a undef))
theorem NU (fn:Func) (tmps:Array Value):results fn tmps=(do let vs <-fn.results.mapM (rvF tmps);pure (if h:vs.size=1 then vs[0] else .tuple vs)):=by
 unfold results
 have:(λ| .tmp t=>(pure (tmps.getD t undef):Sem Value) | .cell a t=>do loadVar t (<-asAddr (tmps.getD a undef)):ResultVar->Sem Value)=rvF tmps:=by
  funext r
  cases r <;> rfl
 exact congrArg (λF:ResultVar->Sem Value=>(do let vs <-fn.results.mapM F;pure (if h:vs.size=1 then vs[0] else .tuple vs):Sem Value)) this
inductive Rv (P:Program) (L:Sl) (bs:List Res):ResultVar->Value->Prop where
 | tmp {t:Tmp} {v:Value}:look L t=some v->Rv P L bs (.tmp t) v
 | cell {s b m:Nat} {T t':TypeId} {l:List Value}:look L s=some (.pointer (some ⟨b,0,none⟩))->jI P T=some (some m)->Res.box b l t'∈bs->l.length=m->Rv P L bs (.cell s T) (.agg l.toArray)
 | one {s b:Nat} {T t':TypeId} {v:Value}:look L s=some (.pointer (some ⟨b,0,none⟩))->jI P T=some none->Res.box b [v] t'∈bs->Rv P L bs (.cell s T) v
theorem Rv.run {r:ResultVar} {v:Value} {a:Act} {W:World} (h:Rv P L bs r v) (f:Fr dfs n L a) (s:St H w0 bs W) :
 (rvF a.tmps r).run P W=.ok v W:=by
 cases h with
 | tmp e=>simp only [rvF,f.slot _ _ e,Sem.run_pure]
 | @cell sl b m T t' l e hT hm hl =>
  subst hl;obtain ⟨h1,h2⟩:=vU (W:=W) hT;have hW:W.heap[b]? = some (.cells l.toArray t' (0,0)):=(s.own _ hm).1.2;have h3:=FJ (P:=P) (off:=0) (vs:=l) hW (λj u e=>by rw [dO];exact e);simp only [rvF,f.slot _ _ e,asAddr,loadVar,Sem.run_bind,Sem.run_pure,Result.andThen,h1,h2,dC,h3]
 | @one sl b T t' v e hT hm =>
  have h3:=(s.cell (off:=0) (v:=v) hm rfl).1;simp only [rvF,f.slot _ _ e,asAddr,loadVar,Sem.run_bind,Sem.run_pure,Result.andThen,uJ hT,aM,cZ];simp [Go.load,Sem.run,h3]
inductive Rvs (P:Program) (L:Sl) (bs:List Res):List ResultVar->List Value->Prop where
 | nil:Rvs P L bs [] []
 | cons {r:ResultVar} {v:Value} {rs:List ResultVar} {vs:List Value}:Rv P L bs r v->Rvs P L bs rs vs->Rvs P L bs (r::rs) (v::vs)
theorem Rvs.run {rs:List ResultVar} {vs:List Value} {a:Act} {W:World} (h:Rvs P L bs rs vs) (f:Fr dfs n L a) (s:St H w0 bs W) :
 (rs.mapM (rvF a.tmps)).run P W=.ok vs W:=by
 induction h with
 | nil=>simp
 | cons h1 _ ih =>
  have h2:=h1.run f s;rw [zO];simp only [Sem.run_bind,Sem.run_pure,Result.andThen] at *;rw [h2];simp only [ih]
theorem cF3 {fn:Func} {R:Ending->World->Prop} {r:ResultVar} {e:Exit} (he:e=.ret\/e=.normal) (hr:fn.results=#[r]) (hv:Rv P L bs r v) (h:∀ W,St H w0 bs W->R (.returned v) W):At [] n L H w0 bs (bodyPost P fn R e):=by
 intro a W f s;have h2:=(Rvs.cons hv .nil).run f s
 have h3:(results fn a.tmps).run P W=.ok v W:=by
  rw [NU,hr];simp only [rZ,sN,Sem.run_bind,h2,Sem.run_pure,Result.andThen]
  rfl
 rcases he with rfl | rfl <;> exact ⟨f.defers,v,h3,h W s⟩
theorem jM {fn:Func} {R:Ending->World->Prop} {rs:List ResultVar} {vs:List Value} {e:Exit} (he:e=.ret\/e=.normal) (hr:fn.results=rs.toArray) (hv:Rvs P L bs rs vs) (h1:Nat.beq vs.length 1=false) (h:∀ W,St H w0 bs W->R (.returned (.tuple vs.toArray)) W):At [] n L H w0 bs (bodyPost P fn R e):=by
 intro a W f s;have h2:=hv.run f s;have h4:¬ vs.length=1:=λe=>by rw [e] at h1;cases h1
 have h3:(results fn a.tmps).run P W=.ok (.tuple vs.toArray) W:=by
  rw [NU,hr];simp only [rZ,sN,Sem.run_bind,h2,Sem.run_pure,Result.andThen];simp [h4]
 rcases he with rfl | rfl <;> exact ⟨f.defers,_,h3,h W s⟩
end
section
variable {dfs:List Deferred} {P:Program} {n:Nat} {L:Sl} {H:Hp} {w0:World} {bs:List Res} {Q:Exit->Act->World->Prop} {ops:Array Oper}
variable {d:Option Tmp} {ty:TypeId} {pos:String} {aft:Array Edge} {g:Option (Nat × Bool)} {v:Value} {t:Tmp} {op:Op}

/-! ### Every order -/
theorem cL9 {listed:Array Bool} (hr:Region.ready .any ops listed=[]) (h:At dfs n L H w0 bs (Q .normal)):At dfs n L H w0 bs (wpAny P .any ops Q 0 listed) :=
 λa W f s=>⟨hr,h a W f s⟩

/-! ### The head in whatever order, the tail behind it -/
variable {nn k:Nat} {fl:List Nat} {rest:List Oper}
theorem WF {a:Act} {j:Nat} {b:Bool} {u:Tmp} (f:Fr dfs n L a) (hd:(ops[j]?).bind (·.dst)=some u) (hs:look L u=some (.bool b)):yielded ops a.tmps j=some b:=by
 have:=f.slot u _ hs;unfold yielded;rw [hd];simp only [iR];rw [Al_Array_getD_eq_getD_getElem?] at this;cases e:a.tmps[u]? with
 | none=>rw [e] at this;simp [undef] at this
 | some x=>rw [e] at this;simp at this;subst this;rfl
theorem St.drop {x:Res} {W:World} (h:St H w0 (x::bs) W):St H w0 bs W :=
 ⟨h.ext,h.agr,λy hy=>h.own y (.tail _ hy),(jQ.1 h.apart).2,h.lo⟩
theorem cT8 {X:Type} {x y:Code} (L':X->Sl) (H':X->Hp) (bs':X->List Res) (C:X->Prop) (h:At dfs n L H w0 bs (x.wp P (Exit.then (λa W=>∃ z,C z/\Fr dfs n (L' z) a/\St (H' z) w0 (bs' z) W) Q)))
 (k:∀ z,C z->At dfs n (L' z) (H' z) w0 (bs' z) (y.wp P Q)):At dfs n L H w0 bs ((Code.seq x y).wp P Q) :=
 cut _ h λa W ⟨z,hz,f,s⟩=>k z hz a W f s
end
def tQ (P:Program) (T:TypeId):Option (TypeId × Nat × Nat) :=
 match P.underlying T with
 | some (.slice e)=>(P.info? e).bind λi=>i.zero.bind λz=>if z.cells.size=i.size/\0<i.size then some (e,i.size,i.bytes) else none
 | _=>none
def cU5 (P:Program) (t:TypeId):Bool:=match P.underlying t with | some (.struct _)=>true | some (.array _ _)=>true | _=>false
section
variable {dfs:List Deferred} {P:Program} {n:Nat} {L:Sl} {H:Hp} {w0:World} {bs:List Res} {Q:Exit->Act->World->Prop} {ops:Array Oper} {K:Act->World->Prop}
variable {d:Option Tmp} {ty:TypeId} {pos:String} {aft:Array Edge} {g:Option (Nat × Bool)} {v:Value} {t:Tmp} {op:Op} {x y:Operand} {T T':TypeId}
theorem AG {e:TypeId} {size bytes:Nat} (h:tQ P T=some (e,size,bytes)):P.underlying T=some (.slice e)/\∃ i z,P.info? e=some i/\i.zero=some z/\i.size=size/\i.bytes=bytes/\z.cells.size=size/\0<size:=by
 unfold tQ at h;cases hu:P.underlying T with
 | none=>rw [hu] at h;cases h
 | some q =>
  rw [hu] at h;cases q <;> simp only [reduceCtorEq] at h;obtain ⟨i,hi,h2⟩:=dS.1 h;obtain ⟨z,hz,h3⟩:=dS.1 h2
  split at h3
  ·rename_i hc;obtain ⟨rfl,h4⟩:=rY (bL h3);obtain ⟨rfl,rfl⟩:=rY h4;exact ⟨Z,i,z,hi,hz,Z,Z,hc.1,hc.2⟩
  ·cases h3
inductive Src (H:Hp) (bs:List Res) (b off:Nat) (news:List Value):Prop where
 | box {l:List Value} {t:TypeId}:Res.box b l t∈bs->(∀ j u,news[j]? = some u->l[off+j]? = some u)->Src H bs b off news
 | mem {cs:Array Value} {t:TypeId} {m:Nat × Nat}:H b=some (.cells cs t m)->(∀ j u,news[j]? = some u->cs[off+j]? = some u)->Src H bs b off news
 | row {e:TypeId} {cap n:Nat} {xs:List Value}:Res.row e 1 (.slice (some ⟨b,0,none⟩) n cap) n xs∈bs->(∀ j u,news[j]? = some u->xs[off+j]? = some u)->Src H bs b off news
theorem Src.cell {b off:Nat} {news:List Value} {W:World} (h:Src H bs b off news) (s:St H w0 bs W):∀ j u,news[j]? = some u->W.cell? ((⟨b,off,none⟩:Addr).add j)=some u:=by
 intro j u e;rw [Addr.add_lit];cases h with
 | box hm hv=>exact (s.cell hm (hv j u e)).1
 | mem hm hv=>exact s.agr.cell hm (hv j u e)
 | row hm hv =>
  have h1:=(s.own _ hm).1;have h2:=World.ownsRow.cells h1 (g:=b) rfl (off+j) u (hv j u e)
  rwa [Addr.add_lit,dO] at h2
theorem row0 {G:Act->World->Prop} (e:TypeId) (size:Nat) (h:At dfs n L H w0 (.row e size (cL) 0 []::bs) G):At dfs n L H w0 bs G:=λa W f s =>
 h a W f ⟨s.ext,s.agr,λz hz=>by
  rcases bM.1 hz with rfl | hz
  ·exact ⟨World.ownsRow_nil _ _ _ _,λb e=>by cases e⟩
  ·exact s.own z hz,.cons (λz _ b e=>by cases e) s.apart,s.lo⟩
theorem append {e:TypeId} {size bytes m c k b off:Nat} {r:Value} {xs news:List Value} {bs':Value->List Res} (hT:tQ P T=some (e,size,bytes)) (hx:ev L x=some r) (hm:∀ r',Upd bs (.row e size r k xs) (.row e size r' (k+m) (xs++news)) (bs' r'))
 (hy:ev L y=some (.slice (some ⟨b,off,none⟩) m c)) (hs:Src H bs b off news) (hl:news.length=m * size) (h1:∀ u∈news,u.oneCell'=true) (h63:k+m<=maxLen) (hb:(k+m) * bytes<=140737488355328) (ht:Nat.blt t n=true)
 (h:∀ r',(r'=.slice none 0 0↔r=.slice none 0 0/\m=0)->At dfs n ((t,r')::L) H w0 (bs' r') K):At dfs n L H w0 bs (one P ops Q ⟨some t,.call ⟨.builtin .append,#[x,y],#[T,T]⟩,ty,pos,aft,none⟩ K):=by
 obtain ⟨hu,i,z,hi,hz,hsz,hby,hzs,h0⟩:=AG hT;intro a W f s;have hown:W.ownsRow w0.heap.size e size r k xs:=(s.own _ (hm r).mem).1;obtain ⟨v',W',hr,ho,hg,hnil⟩:=run_append_own (P:=P) W w0.heap.size T ty e i z size bytes hu hi hz hsz hby hzs h0 r k xs hown ⟨b,off,none⟩ m c news hl (hs.cell s) h1 h63 hb s.ext.size
 have hblk:∀ q,v'.ownBlock=some q->r.ownBlock=some q\/W.heap.size<=q:=by
  subst hsz hby;have h64:k+m<=9223372036854775807:=by simp only [maxLen] at h63;omega
  rcases hown.2 with ⟨rfl,rfl⟩ | ⟨g,cap,cur,rfl,hbg,hgc,hnc,hcm,hcs,htake⟩
  ·intro q hq
   by_cases hm0:m=0
   ·rw [hnil.2 ⟨Z,hm0⟩] at hq;cases hq
   ·have h2:=run_append_nil (P:=P) W T ty e i z hu hi hz ⟨b,off,none⟩ m c news hl (hs.cell s) aD aD (by rw [dO] at hb;omega);rw [h2] at hr;injection hr with e1 e2
    rw [<-e1] at hq
    right
    have:=bL hq;simp at this;omega
  ·intro q hq
   by_cases hroom:k+m<=cap
   ·have hfit:k * i.size+news.length<=cur.size:=by rw [hl,hcs,<-vB];exact mD _ hroom
    have h2:=run_append_room (P:=P) W T ty e i hu hi g k cap cur hgc ⟨b,off,none⟩ m c news hl (hs.cell s) h1 hroom hfit;rw [h2] at hr;injection hr with e1 e2
    rw [<-e1] at hq;exact .inl hq
   ·have h2:=run_append_grow (P:=P) W T ty e i z hu hi hz ⟨g,0,none⟩ k cap xs hown.1 (World.ownsRow.cells hown (g:=g) rfl) ⟨b,off,none⟩ m c news hl (hs.cell s) aD aD (growslice_fits aD hb);rw [h2] at hr;injection hr with e1 e2
    rw [<-e1] at hq
    right
    have:=bL hq;simp at this;omega
 refine nR rfl ?_;unfold Oper.wp execOp;simp only [resolve,invoke,builtin,Sem.run_bind,Sem.run_pure,Result.andThen_ok,kS,eP,tL,f.ev hx,f.ev hy,hr];refine h v' hnil _ _ (f.put ht _) ?_;have hlt:∀ q,r.ownBlock=some q->w0.heap.size<=q:=λq hq=>(World.ownsRow.lt hown q hq).1;refine s.upd (hm v') ?_ hg.size (λq hq hn=>hg.block q hq (λe=>hn e.symm)) ho hblk;refine Ext.of_below ⟨hg.os.trans s.ext.below.os,hg.tape.trans s.ext.below.tape,hg.output.trans s.ext.below.output,aZ s.ext.below.size hg.size,λq hq=>?_⟩;rw [hg.block q (eK hq s.ext.size) (λe=>by have:=hlt q e.symm;omega)];exact s.ext.below.block q hq
theorem aG3 {e:TypeId} {size bytes k:Nat} {r:Value} {xs:List Value} (hT:tQ P T=some (e,size,bytes)) (hx:ev L x=some r) (hm:Res.row e size r k xs∈bs) (hy:ev L y=some (cL)) (ht:Nat.blt t n=true)
 (h:At dfs n ((t,r)::L) H w0 bs K):At dfs n L H w0 bs (one P ops Q ⟨some t,.call ⟨.builtin .append,#[x,y],#[T,T]⟩,ty,pos,aft,none⟩ K):=by
 obtain ⟨hu,i,z,hi,hz,hsz,hby,hzs,h0⟩:=AG hT;intro a W f s;have hrun:=run_append_owned_none (P:=P) (w:=W) w0.heap.size T ty e i size hu hi r k xs (s.own _ hm).1;refine nR rfl ?_;unfold Oper.wp;simp [execOp,resolve,invoke,builtin,f.ev hx,f.ev hy,hrun,Result.andThen,Oper.upon];exact h _ _ (f.put ht _) s

/-! ### Cuts -/
theorem aT8 {len z:Nat} (h:QQ P T=some (len,z)):∃ el,P.underlying T=some (.array len el)/\gQ P el=some z:=by
 unfold QQ at h;cases hu:P.underlying T with
 | none=>rw [hu] at h;cases h
 | some q =>
  rw [hu] at h;cases q <;> simp only [reduceCtorEq] at h;obtain ⟨z',hz,h3⟩:=fE.1 h;obtain ⟨rfl,rfl⟩:=rY h3;exact ⟨_,Z,hz⟩
theorem NS {z:Nat} (h:slN P T=some z):∃ el,P.underlying T=some (.slice el)/\gQ P el=some z:=by
 unfold slN at h;cases hu:P.underlying T with
 | none=>rw [hu] at h;cases h
 | some q=>rw [hu] at h;cases q <;> simp only [reduceCtorEq] at h;exact ⟨_,Z,h⟩
theorem Yl.cutHi {p:Option Addr} {len c z h:Nat} {k:IntKind} {i:Int} (hT:slN P T=some z) (hx:ev L x=some (.slice p len c)) (hy:ev L y=some (.int k i)) (e:i=(h:Int)) (hh:h<=c) (hp:∀ q,p=some q->q.spot=none) :
 Yl P L H w0 bs ⟨d,.slice T x none (some y) none,ty,pos,aft,g⟩ (.slice p h c):=.of_run λa W f _=>by
 subst e;obtain ⟨el,hu,hz⟩:=NS hT
 have hadd:p.map (λq=>q.add (0 * z))=p:=by
  cases p with
  | none=>rfl
  | some q =>
   obtain ⟨qb,qo,qs⟩:=q;have:=hp _ rfl;simp only at this;subst this;simp [Addr.add_lit]
 unfold execOp;simp only [nU] at hadd;simp [f x _ hx,f y _ hy,Instr.sliceAt,Instr.slice,underlying,program,Sem.run,Result.andThen,hu,Instr.sliceBounds,Instr.sliceBound,asIntOf,hh,nB hz,hadd]
theorem Yl.cutLo {b off len c z lo:Nat} {k:IntKind} {i:Int} (hT:slN P T=some z) (hx:ev L x=some (.slice (some ⟨b,off,none⟩) len c)) (hy:ev L y=some (.int k i)) (e:i=(lo:Int)) (hl:lo<=len) (_hc:len<=c) :
 Yl P L H w0 bs ⟨d,.slice T x (some y) none none,ty,pos,aft,g⟩ (.slice (some (if c=lo then ⟨b,off,none⟩ else ⟨b,off+lo * z,none⟩)) (len - lo) (c - lo)):=.of_run λa W f _=>by
 subst e;obtain ⟨el,hu,hz⟩:=NS hT;unfold execOp;simp [f x _ hx,f y _ hy,Instr.sliceAt,Instr.slice,underlying,program,Sem.run,Result.andThen,hu,Instr.sliceBounds,Instr.sliceBound,asIntOf,hl,nB hz,Addr.add_lit]
 split <;> rfl

/-! ### Strings and truths -/
theorem Yl.eqlS {p q:ByteArray} (hx:ev L x=some (.string p)) (hy:ev L y=some (.string q)):Yl P L H w0 bs ⟨d,.binOp .eql T x y T',ty,pos,aft,g⟩ (.bool (decide (p=q))):=.of_run λa W f _=>by
 have:(p.toList == q.toList)=decide (p=q):=by
  rw [aQ];simp only [eJ,aB]
  constructor
  ·intro h;have h2:p.data.toList=q.data.toList:=by simpa [ByteArray.toList_eq] using h
   exact sG (sO.1 h2)
  ·intro h;rw [h]
 unfold execOp;simp [f x _ hx,f y _ hy,eqGuard,binOp,Op.stringOp,this]
theorem Yl.addS {p q r:ByteArray} (hx:ev L x=some (.string p)) (hy:ev L y=some (.string q)) (hs:p.size+q.size<=9223372036854775807) (hr:p++q=r):Yl P L H w0 bs ⟨d,.binOp .add T x y T',ty,pos,aft,g⟩ (.string r):=.of_run λa W f _=>by
 subst hr
 have h1:¬ (((p.size+q.size:Nat):Int) > IntKind.i64.max):=by
  simp [IntKind.max,IntKind.signed,IntKind.bits];omega
 unfold execOp;simp only [f x _ hx,f y _ hy,eqGuard,binOp,Op.stringOp];rw [aA h1];simp

/-! ### Values made of parts -/
def MJ (P:Program):List Field->Option (List (Nat × Nat))
 | []=>some []
 | f::r=>(gQ P f.type).bind λz=>(MJ P r).map ((f.offset,z)::·)
def eX (P:Program) (T:TypeId) (pv:List (Nat × Value)):Option (List Value) :=
 match P.underlying T with
 | some (.struct fs)=>(nA P T).bind λz=>(MJ P fs.toList).bind λpl=>(Instr.fill (pl.toArray[·]?) z.toArray pv).map Array.toList
 | some (.array _ e)=>(nA P T).bind λz=>(gQ P e).bind λq=>(Instr.fill (λi=>some (i * q,q)) z.toArray pv).map Array.toList
 | _=>none
theorem NT {W:World}:∀ {l:List Field} {pl:List (Nat × Nat)},MJ P l=some pl->(l.mapM λ(f:Field)=>do pure (f.offset,<-Go.sizeOf f.type)).run P W=.ok pl W
 | [],pl,h=>by cases h;simp
 | f::r,pl,h=>by
  unfold MJ at h;obtain ⟨z,hz,h2⟩:=dS.1 h;obtain ⟨pr,hp,rfl⟩:=fE.1 h2;have ih:=NT (W:=W) hp;rw [zO];simp only [Sem.run_bind,nB hz,Sem.run_pure,Result.andThen,ih]
def evp (L:Sl):List (Nat × Operand)->Option (List (Nat × Value))
 | []=>some []
 | (i,x)::r=>(ev L x).bind λv=>(evp L r).map ((i,v)::·)
theorem VJ {a:Act} (f:∀ x u,ev L x=some u->a.eval x=u):∀ {xs:List (Nat × Operand)} {vs:List (Nat × Value)},evp L xs=some vs->xs.map (λ(i,x)=>(i,a.eval x))=vs
 | [],vs,e=>by cases e;rfl
 | (i,x)::r,vs,e=>by
  unfold evp at e;obtain ⟨v,hv,h2⟩:=dS.1 e;obtain ⟨us,hu,rfl⟩:=fE.1 h2;rw [eP,VJ f hu];show (i,a.eval x)::us=_;rw [f x v hv]
theorem Yl.build {ps:List (Nat × Operand)} {pv:List (Nat × Value)} {l:List Value} (hv:evp L ps=some pv) (hb:eX P T pv=some l):Yl P L H w0 bs ⟨d,.build T ps.toArray,ty,pos,aft,g⟩ (.agg l.toArray):=.of_run λa W f _=>by
 have hm:=VJ f hv;unfold eX at hb;unfold execOp;simp only [kS,hm,Instr.build,Sem.run_bind];cases hu:P.underlying T with
 | none=>rw [hu] at hb;cases hb
 | some q =>
  rw [hu] at hb;have hus:(underlying T).run P W=.ok q W:=by simp [underlying,program,Sem.run,hu]
  cases q <;> simp only [reduceCtorEq] at hb
  case array len el =>
   obtain ⟨z,hz,h2⟩:=dS.1 hb;obtain ⟨s,hs,h3⟩:=dS.1 h2;obtain ⟨cs,hc,rfl⟩:=fE.1 h3;obtain ⟨zv,h4,h5⟩:=vT (W:=W) hz;have h6:zv.cells=z.toArray:=by rw [<-h5]
   simp [h4,hus,Result.andThen,nB hs,h6,hc]
  case struct fs =>
   obtain ⟨z,hz,h2⟩:=dS.1 hb;obtain ⟨s,hs,h3⟩:=dS.1 h2;obtain ⟨cs,hc,rfl⟩:=fE.1 h3;obtain ⟨zv,h4,h5⟩:=vT (W:=W) hz;have h6:zv.cells=z.toArray:=by rw [<-h5]
   have h7:=NT (W:=W) hs
   have h8:(fs.mapM λ(f:Field)=>do pure (f.offset,<-Go.sizeOf f.type)).run P W=.ok s.toArray W:=by
    have:fs=fs.toList.toArray:=rfl;rw [this,rZ];simp only [sN,Sem.run_bind,h7,Result.andThen,Sem.run_pure]
   simp only [h4,hus,Result.andThen,Sem.run_bind,h8,h6,hc,Sem.run_pure]
def pG (P:Program) (T:TypeId) (len:Nat) (pv:List (Nat × Value)):Option (TypeId × List Value) :=
 match P.underlying T with
 | some (.slice e)=>(gQ P e).bind λz=>if len * z > 2 ^ 24 then none else (nA P e).bind λq =>
  (Instr.fill (λi=>some (i * z,z)) ((Array.range (len * z)).map ((if len * z=0 then #[] else q.toArray)[· % (if len * z=0 then #[] else q.toArray).size]!)) pv).map λc=>(e,c.toList)
 | _=>none
theorem buildSlice {ps:List (Nat × Operand)} {pv:List (Nat × Value)} {len:Nat} {e:TypeId} {l:List Value} (hv:evp L ps=some pv) (hb:pG P T len pv=some (e,l)) (ht:Nat.blt t n=true)
 (h:∀ b,At dfs n ((t,.slice (dI b) len len)::L) H w0 (.box b l e::bs) K):At dfs n L H w0 bs (one P ops Q ⟨some t,.buildSlice T len ps.toArray,ty,pos,aft,none⟩ K):=by
 intro a W f s;refine nR rfl ?_;have hm:=VJ (λx u e=>f.ev e) hv;unfold pG at hb;cases hu:P.underlying T with
 | none=>rw [hu] at hb;cases hb
 | some q =>
  rw [hu] at hb;have hus:(underlying T).run P W=.ok q W:=by simp [underlying,program,Sem.run,hu]
  cases q <;> simp only [reduceCtorEq] at hb;rename_i el;obtain ⟨z,hz,h2⟩:=dS.1 hb
  split at h2
  ·cases h2
  ·rename_i hbig;obtain ⟨zl,hzl,h3⟩:=dS.1 h2;obtain ⟨cs,hc,h4⟩:=fE.1 h3;obtain ⟨rfl,rfl⟩:=rY h4;obtain ⟨zv,h5,h6⟩:=vT (W:=W) hzl;have h7:zv.cells=zl.toArray:=by rw [<-h6]
   have e1:(execOp a.eval ⟨some t,.buildSlice T len ps.toArray,ty,pos,aft,none⟩).run P W=.ok (.value (.slice (some ⟨W.heap.size,0,none⟩) len len)) (W.alloc (.cells cs el)):=by
    unfold execOp;simp only [kS,hm,Instr.buildSlice,Sem.run_bind,hus,Result.andThen,nB hz];rw [aA hbig]
    by_cases h0:len * z=0
    ·simp only [h0,dC] at hc|-;simp only [Sem.run_bind,Sem.run_pure,Result.andThen,hc]
     rfl
    ·simp only [h0,cZ] at hc|-;simp only [Sem.run_bind,Sem.run_pure,Result.andThen,h5,h7,hc]
     rfl
   unfold Oper.wp;rw [e1];have e2:cs=cs.toList.toArray:=rfl;rw [e2];exact h _ _ _ (f.put ht _) (s.alloc cs.toList _)
end
section
variable {dfs:List Deferred} {P:Program} {n:Nat} {L:Sl} {H:Hp} {w0:World} {bs:List Res} {Q:Exit->Act->World->Prop} {ops:Array Oper} {K:Act->World->Prop}
variable {d:Option Tmp} {ty:TypeId} {pos:String} {aft:Array Edge} {g:Option (Nat × Bool)} {v:Value} {t:Tmp} {op:Op} {x y z:Operand} {T T':TypeId}
theorem aN1 {X:Type} {f:FuncId} {xs:List Operand} {vs:List Value} {ats:Array TypeId} {C:X->Prop} {val:X->Value} {H':X->Hp} {bs':X->List Res} (hf:kM P f=true) (hv:evs L xs=some vs)
 (hc:∀ W,St H w0 bs W->Calls P f vs.toArray W λe W'=>∃ x,C x/\e=.returned (val x)/\St (H' x) w0 (bs' x) W') (ht:Nat.blt t n=true)
 (h:∀ x,C x->At dfs n ((t,val x)::L) (H' x) w0 (bs' x) K) :
 At dfs n L H w0 bs (one P ops Q ⟨some t,.call ⟨.value (.func f),xs.toArray,ats⟩,ty,pos,aft,none⟩ K):=by
 intro a W f0 s;refine nR rfl ?_;unfold Oper.wp;rw [JW hf (λx u e=>f0.ev e) hv];refine (hc W s).mono ?_;rintro e W' ⟨x,hx,rfl,hs⟩;exact h x hx _ _ (f0.put ht _) hs
def VM (P:Program) (T:TypeId):Bool:=match P.underlying T with | some (.slice e)=>(match P.underlying e with | some (.int .u8)=>true | _=>false) | _=>false
theorem YY (h:VM P T=true):∃ e,P.underlying T=some (.slice e)/\P.underlying e=some (.int .u8):=by
 unfold VM at h;cases hu:P.underlying T with
 | none=>rw [hu] at h;cases h
 | some q =>
  rw [hu] at h;cases q <;> simp only [aM] at h;rename_i e;refine ⟨e,Z,?_⟩;cases he:P.underlying e with
  | none=>rw [he] at h;cases h
  | some r =>
   rw [he] at h;cases r <;> first | (cases h;done) | skip
   rename_i k;cases k <;> first | rfl | cases h
theorem yK (h:AM P T=true):P.underlying T=some .string:=by
 unfold AM at h;cases hu:P.underlying T with
 | none=>rw [hu] at h;cases h
 | some q=>rw [hu] at h;cases q <;> simp_all
def CH (b:UInt8):Value:=.int .u8 (b.toNat:Int)
theorem Yl.bytesStr {b off c m:Nat} {l:List UInt8} (hT:VM P T=true) (hT':AM P T'=true) (hx:ev L x=some (.slice (some ⟨b,off,none⟩) m c)) (hm:l.length=m) (hs:Src H bs b off (l.map CH)) :
 Yl P L H w0 bs ⟨d,.convert T T' x,ty,pos,aft,g⟩ (.string ⟨l.toArray⟩):=.of_run λa W f s=>by
 subst hm;obtain ⟨e,h1,h2⟩:=YY hT;have h3:=run_convert_bytes_back (P:=P) W T T' e ⟨b,off,none⟩ c l h1 h2 (yK hT') (λj hj=>hs.cell s j _ (by simp [hj,CH]));unfold execOp;simp only [f x _ hx,Sem.run_bind,h3,Result.andThen,Sem.run_pure]
theorem Yl.cutStr {s:ByteArray} {k k':IntKind} {i j:Int} {lo hi:Nat} (hT:AM P T=true) (hx:ev L x=some (.string s)) (hy:ev L y=some (.int k i)) (hz:ev L z=some (.int k' j)) (e1:i=(lo:Int)) (e2:j=(hi:Int)) (h1:lo<=hi) (h2:hi<=s.size) :
 Yl P L H w0 bs ⟨d,.slice T x (some y) (some z) none,ty,pos,aft,g⟩ (.string (s.extract lo hi)):=.of_run λa W f _=>by
 subst e1 e2;have hu:=yK hT;unfold execOp;simp [f x _ hx,f y _ hy,f z _ hz,Instr.sliceAt,Instr.slice,underlying,program,Sem.run,Result.andThen,hu,Instr.sliceBounds,Instr.sliceBound,asIntOf,h1,h2]
theorem Yl.cutStrHi {s:ByteArray} {k':IntKind} {j:Int} {hi:Nat} (hT:AM P T=true) (hx:ev L x=some (.string s)) (hz:ev L z=some (.int k' j)) (e2:j=(hi:Int)) (h2:hi<=s.size) :
 Yl P L H w0 bs ⟨d,.slice T x none (some z) none,ty,pos,aft,g⟩ (.string (s.extract 0 hi)):=.of_run λa W f _=>by
 subst e2;have hu:=yK hT;unfold execOp;simp [f x _ hx,f z _ hz,Instr.sliceAt,Instr.slice,underlying,program,Sem.run,Result.andThen,hu,Instr.sliceBounds,Instr.sliceBound,asIntOf,h2]
theorem Yl.neqS {p q:ByteArray} (hx:ev L x=some (.string p)) (hy:ev L y=some (.string q)):Yl P L H w0 bs ⟨d,.binOp .neq T x y T',ty,pos,aft,g⟩ (.bool (decide (¬ p=q))):=.of_run λa W f _=>by
 have:(!(p.toList == q.toList))=decide (¬ p=q):=by
  rw [aQ];simp only [eT,beq_eq_false_iff_ne,aB,ne_eq]
  constructor
  ·intro h h';exact h (by rw [h'])
  ·intro h h';have h2:p.data.toList=q.data.toList:=by simpa [ByteArray.toList_eq] using h'
   exact h (sG (sO.1 h2))
 unfold execOp;simp only [f x _ hx,f y _ hy,eqGuard,binOp,Op.stringOp,this];simp
end
section
variable {dfs:List Deferred} {P:Program} {n:Nat} {L:Sl} {H:Hp} {w0:World} {bs:List Res} {Q:Exit->Act->World->Prop} {ops:Array Oper} {K:Act->World->Prop}
variable {d:Option Tmp} {ty:TypeId} {pos:String} {aft:Array Edge} {g:Option (Nat × Bool)} {v:Value} {t:Tmp} {op:Op} {x y z:Operand} {T T':TypeId}
theorem iB {f:FuncId} {fn:Func} {c:Code} {args:List Value} {W:World} {R:Ending->World->Prop} (hf:P.funcs[f]? = some fn) (hb:fn.body=some c) (hn:fn.ntmps=n) (hl:Nat.ble args.length n=true) (s:St H w0 bs W)
 (h:At [] n (KS 0 args) H w0 bs (c.wp P (bodyPost P fn R))):Calls P f args.toArray W R:=by
 refine calls_of_wp hf hb (h _ _ ⟨?_,Z,?_⟩ s)
 ·have:args.length<=n:=lO hl;simp [hn];omega
 ·intro t v e;obtain ⟨_,h2⟩:=HO args 0 t v e;rw [wY] at h2;have hlt:t<args.length:=(List.getElem?_eq_some_iff.1 h2).1;rw [Al_Array_getD_eq_getD_getElem?];rw [Array.getElem?_append_left (by simpa using hlt)];simp [h2]
section ints
variable {k k':IntKind} {i j c:Int}
theorem Yl.quo (hx:ev L x=some (.int k i)) (hy:ev L y=some (.int k j)) (h0:j≠0) (hw:k.wrap (i.tdiv j)=c):Yl P L H w0 bs ⟨d,.binOp .quo T x y T',ty,pos,aft,g⟩ (.int k c):=.of_run λa W f _=>by
 unfold execOp;simp [f x _ hx,f y _ hy,eqGuard,binOp,Op.intDiv,hw,h0]
theorem Yl.rem (hx:ev L x=some (.int k i)) (hy:ev L y=some (.int k j)) (h0:j≠0) (hw:i.tmod j=c):Yl P L H w0 bs ⟨d,.binOp .rem T x y T',ty,pos,aft,g⟩ (.int k c):=.of_run λa W f _=>by
 unfold execOp;simp [f x _ hx,f y _ hy,eqGuard,binOp,Op.intDiv,hw,h0]
theorem Yl.shr {m:Nat} (hx:ev L x=some (.int k i)) (hy:ev L y=some (.int k' j)) (hj:j=(m:Int)) (hm:m<=k.bits) (hw:i.fdiv (2 ^ m)=c):Yl P L H w0 bs ⟨d,.binOp .shr T x y T',ty,pos,aft,g⟩ (.int k c):=.of_run λa W f _=>by
 subst hj;have h0:¬ ((m:Int)<0):=aD
 unfold execOp;simp [f x _ hx,f y _ hy,eqGuard,binOp,Op.shift,h0,iK hm,hw]
end ints
theorem reSt {H':Hp} {bs':List Res} {G:Act->World->Prop} (hB:∀ W,St H w0 bs W->St H' w0 bs' W) (h:At dfs n L H' w0 bs' G):At dfs n L H w0 bs G:=λa W f s=>h a W f (hB W s)
theorem rowCase {e:TypeId} {size k:Nat} {r:Value} {xs:List Value} {G:Act->World->Prop} (hm:Res.row e size r k xs∈bs) (hk:0<k) (h:∀ b c,r=.slice (dI b) k c->k<=c->At dfs n L H w0 bs G):At dfs n L H w0 bs G:=λa W f s=>by
 have ho:W.ownsRow w0.heap.size e size r k xs:=(s.own _ hm).1;rcases ho.2 with ⟨_,h0⟩ | ⟨g,cap,cur,hr,_,_,hn,_⟩
 ·omega
 ·exact h g cap hr hn a W f s
theorem KQ {a:Act} {j:Nat} {u:Tmp} (f:Fr dfs n L a) (hd:(ops[j]?).bind (·.dst)=some u) (hs:look L u=some undef):yielded ops a.tmps j=none:=by
 have:=f.slot u _ hs;unfold yielded;rw [hd];simp only [iR];rw [Al_Array_getD_eq_getD_getElem?] at this;cases e:a.tmps[u]? with
 | none=>rfl
 | some x=>rw [e] at this;simp at this;subst this;rfl
theorem cI6 {j:Nat} {b:Bool} {u:Tmp} (hd:(ops[j]?).bind (·.dst)=some u) (hs:look L u=some undef) (ht:Nat.blt t n=true) (h:At dfs n ((t,undef)::L) H w0 bs K) :
 At dfs n L H w0 bs (one P ops Q ⟨some t,op,ty,pos,aft,some (j,b)⟩ K):=by
 intro a W f s;unfold one;rw [aA (by simp [Region.wanted,KQ f hd hs])];exact h _ _ (f.put ht _) s
end
section
variable {dfs:List Deferred} {P:Program} {n:Nat} {L:Sl} {H:Hp} {w0:World} {bs:List Res} {Q:Exit->Act->World->Prop} {ops:Array Oper} {K:Act->World->Prop}
variable {d:Option Tmp} {ty:TypeId} {pos:String} {aft:Array Edge} {g:Option (Nat × Bool)} {v:Value} {t:Tmp} {op:Op} {x y z:Operand} {T T':TypeId}
theorem VT {e:TypeId} {size bytes m c k:Nat} {A:Addr} {r:Value} {xs news:List Value} {bs':Value->List Res} (hT:tQ P T=some (e,size,bytes)) (hx:ev L x=some r) (hm:∀ r',Upd bs (.row e size r k xs) (.row e size r' (k+m) (xs++news)) (bs' r'))
 (hy:ev L y=some (.slice (some A) m c)) (hs:∀ W,St H w0 bs W->∀ j u,news[j]? = some u->W.cell? (A.add j)=some u) (hl:news.length=m * size) (h1:∀ u∈news,u.oneCell'=true) (h63:k+m<=maxLen) (hb:(k+m) * bytes<=140737488355328) (ht:Nat.blt t n=true)
 (h:∀ r',(r'=.slice none 0 0↔r=.slice none 0 0/\m=0)->At dfs n ((t,r')::L) H w0 (bs' r') K):At dfs n L H w0 bs (one P ops Q ⟨some t,.call ⟨.builtin .append,#[x,y],#[T,T]⟩,ty,pos,aft,none⟩ K):=by
 obtain ⟨hu,i,z,hi,hz,hsz,hby,hzs,h0⟩:=AG hT;intro a W f s;have hown:W.ownsRow w0.heap.size e size r k xs:=(s.own _ (hm r).mem).1;obtain ⟨v',W',hr,ho,hg,hnil⟩:=run_append_own (P:=P) W w0.heap.size T ty e i z size bytes hu hi hz hsz hby hzs h0 r k xs hown A m c news hl (hs W s) h1 h63 hb s.ext.size
 have hblk:∀ q,v'.ownBlock=some q->r.ownBlock=some q\/W.heap.size<=q:=by
  subst hsz hby;have h64:k+m<=9223372036854775807:=by simp only [maxLen] at h63;omega
  rcases hown.2 with ⟨rfl,rfl⟩ | ⟨g,cap,cur,rfl,hbg,hgc,hnc,hcm,hcs,htake⟩
  ·intro q hq
   by_cases hm0:m=0
   ·rw [hnil.2 ⟨Z,hm0⟩] at hq;cases hq
   ·have h2:=run_append_nil (P:=P) W T ty e i z hu hi hz A m c news hl (hs W s) aD aD (by rw [dO] at hb;omega);rw [h2] at hr;injection hr with e1 e2
    rw [<-e1] at hq
    right
    have:=bL hq;simp at this;omega
  ·intro q hq
   by_cases hroom:k+m<=cap
   ·have hfit:k * i.size+news.length<=cur.size:=by rw [hl,hcs,<-vB];exact mD _ hroom
    have h2:=run_append_room (P:=P) W T ty e i hu hi g k cap cur hgc A m c news hl (hs W s) h1 hroom hfit;rw [h2] at hr;injection hr with e1 e2
    rw [<-e1] at hq;exact .inl hq
   ·have h2:=run_append_grow (P:=P) W T ty e i z hu hi hz ⟨g,0,none⟩ k cap xs hown.1 (World.ownsRow.cells hown (g:=g) rfl) A m c news hl (hs W s) aD aD (growslice_fits aD hb);rw [h2] at hr;injection hr with e1 e2
    rw [<-e1] at hq
    right
    have:=bL hq;simp at this;omega
 refine nR rfl ?_;unfold Oper.wp execOp;simp only [resolve,invoke,builtin,Sem.run_bind,Sem.run_pure,Result.andThen_ok,kS,eP,tL,f.ev hx,f.ev hy,hr];refine h v' hnil _ _ (f.put ht _) ?_;have hlt:∀ q,r.ownBlock=some q->w0.heap.size<=q:=λq hq=>(World.ownsRow.lt hown q hq).1;refine s.upd (hm v') ?_ hg.size (λq hq hn=>hg.block q hq (λe=>hn e.symm)) ho hblk;refine Ext.of_below ⟨hg.os.trans s.ext.below.os,hg.tape.trans s.ext.below.tape,hg.output.trans s.ext.below.output,aZ s.ext.below.size hg.size,λq hq=>?_⟩;rw [hg.block q (eK hq s.ext.size) (λe=>by have:=hlt q e.symm;omega)];exact s.ext.below.block q hq
end
section
variable {dfs:List Deferred} {P:Program} {n:Nat} {L:Sl} {H:Hp} {w0:World} {bs:List Res} {Q:Exit->Act->World->Prop} {ops:Array Oper} {K:Act->World->Prop}
theorem Upd.same {bs bs':List Res} {x y:Res} (h:Upd bs x y bs'):x=y->bs'=bs:=by
 induction h with
 | head=>intro e;rw [e]
 | tail _ ih=>intro e;rw [ih e]
end
end Go.Sx
/- Data in memory: values, structs and slices, as a described tree over unchanging memory. -/
namespace Go.Sx
open Go.RowKit Go.Par
inductive D where
 | val (v:Value)
 | any (v:Value)
 | str (ds:List D)
 | seq (z:Nat) (ds:List D)
 | ps (vs:List Value)
def okV:Value->Prop
 | .string s=>s.size<=1000000
 | _=>True
def lW (H:Hp) (b off:Nat) (cs:List Value):Prop:=∃ arr t m,H b=some (.cells arr t m)/\∀ (j:Nat) u,cs[j]? = some u->arr[off+j]? = some u
structure EA (H:Hp) (b off:Nat) (cs:List Value):Prop where
 mem:lW H b off cs
 lo:H.lo<=b
instance {H:Hp} {b off:Nat} {cs:List Value}:Coe (EA H b off cs) (lW H b off cs):=⟨EA.mem⟩
mutual
def D.txt:D->Bool
 | .val (.string _)=>true
 | .val _=>false
 | .any _=>false
 | .str ds=>D.txtL ds
 | .seq _ ds=>D.txtL ds
 | .ps _=>true
def D.txtL:List D->Bool
 | []=>false
 | d::r=>D.txt d || D.txtL r
end
theorem D.txtL_any:∀ {ds:List D},D.txtL ds=ds.any D.txt
 | []=>rfl
 | d::r=>by rw [D.txtL,List.any_cons,D.txtL_any]
theorem D.txtL_sub {ds es:List D} (h:∀ x∈ds,x∈es) (k:D.txtL ds=true):D.txtL es=true:=by
 rw [D.txtL_any] at k|-;obtain ⟨x,hx,e⟩:=gA.1 k;exact gA.2 ⟨x,h x hx,e⟩
mutual
def Rep (H:Hp):D->List Value->Prop
 | .val v,l=>l=[v]/\v.oneCell'=true/\okV v
 | .any v,l=>l=[v]/\v.oneCell'=true
 | .str ds,l=>sZ H ds l
 | .seq z ds,l=>∃ p c,l=[.slice p ds.length c]/\ds.length<=c/\c<=maxLen/\(ds=[]\/∃ b off cs,p=some (⟨b,off,none⟩:Addr)/\lW H b off cs/\dT H z ds cs/\(D.txtL ds=true->H.lo<=b/\off % z=0))
 | .ps vs,l=>∃ p c,l=[.slice p vs.length c]/\vs.length<=c/\c<=maxLen/\((p=none/\c=0)\/∃ b arr t,p=some (⟨b,0,none⟩:Addr)/\H b=some (.cells arr t (0,0))/\H.lo<=b/\arr.size=c/\(∀ u∈arr.toList,∃ s:ByteArray,u=.string s/\s.size<=1000000)/\arr.toList.take vs.length=vs)
def sZ (H:Hp):List D->List Value->Prop
 | [],l=>l=[]
 | d::r,l=>∃ x y,l=x++y/\Rep H d x/\sZ H r y
def dT (H:Hp) (z:Nat):List D->List Value->Prop
 | [],l=>l=[]
 | d::r,l=>∃ x y,l=x++y/\x.length=z/\Rep H d x/\dT H z r y
end
theorem Up.refl (H:Hp):Up H H:=⟨λ_ _ e=>e,Z⟩
variable {H H':Hp}
theorem Up.trans {H'':Hp} (h:Up H H') (k:Up H' H''):Up H H'':=⟨λb o e=>k b o (h b o e),k.lo.trans h.lo⟩
variable {b:Nat} {cs:List Value}
theorem lW.up {off:Nat} (h:lW H b off cs) (u:Up H H'):lW H' b off cs:=by
 obtain ⟨arr,t,m,h1,h2⟩:=h;exact ⟨arr,t,m,u _ _ h1,h2⟩
theorem EA.up {off:Nat} (h:EA H b off cs) (u:Up H H'):EA H' b off cs:=⟨h.mem.up u,u.lo ▸ h.lo⟩
mutual
theorem Rep.up {H H':Hp} (u:Up H H'):∀ {d:D} {l:List Value},Rep H d l->Rep H' d l
 | .val v,l,h=>by unfold Rep at h|-;exact h
 | .any v,l,h=>by unfold Rep at h|-;exact h
 | .str ds,l,h=>by unfold Rep at h|-;exact sZ.up u h
 | .seq z ds,l,h=>by
  unfold Rep at h|-;obtain ⟨p,c,h1,h2,h3,h4⟩:=h;refine ⟨p,c,h1,h2,h3,h4.imp id ?_⟩;rintro ⟨b,off,cs,h5,h6,h7,h8⟩;exact ⟨b,off,cs,h5,h6.up u,dT.up u h7,λe=>u.lo ▸ h8 e⟩
 | .ps vs,l,h=>by
  unfold Rep at h|-;obtain ⟨p,c,h1,h2,h3,h4⟩:=h;refine ⟨p,c,h1,h2,h3,h4.imp id ?_⟩;rintro ⟨b,arr,t,h5,h6,h7,h8⟩;exact ⟨b,arr,t,h5,u _ _ h6,u.lo ▸ h7,h8⟩
theorem sZ.up {H H':Hp} (u:Up H H'):∀ {ds:List D} {l:List Value},sZ H ds l->sZ H' ds l
 | [],l,h=>by unfold sZ at h|-;exact h
 | d::r,l,h=>by
  unfold sZ at h|-;obtain ⟨x,y,h1,h2,h3⟩:=h;exact ⟨x,y,h1,Rep.up u h2,sZ.up u h3⟩
theorem dT.up {H H':Hp} (u:Up H H') {z:Nat}:∀ {ds:List D} {l:List Value},dT H z ds l->dT H' z ds l
 | [],l,h=>by unfold dT at h|-;exact h
 | d::r,l,h=>by
  unfold dT at h|-;obtain ⟨x,y,h1,h2,h3,h4⟩:=h;exact ⟨x,y,h1,h2,Rep.up u h3,dT.up u h4⟩
end
mutual
theorem Rep.one {H:Hp}:∀ {d:D} {l:List Value},Rep H d l->∀ v∈l,v.oneCell'=true
 | .val v,l,h=>by unfold Rep at h;obtain ⟨rfl,h,_⟩:=h;simpa using h
 | .any v,l,h=>by unfold Rep at h;obtain ⟨rfl,h⟩:=h;simpa using h
 | .str ds,l,h=>by unfold Rep at h;exact sZ.one h
 | .seq z ds,l,h=>by
  unfold Rep at h;obtain ⟨p,c,rfl,_⟩:=h;simp [Value.oneCell']
 | .ps vs,l,h=>by
  unfold Rep at h;obtain ⟨p,c,rfl,_⟩:=h;simp [Value.oneCell']
theorem sZ.one {H:Hp}:∀ {ds:List D} {l:List Value},sZ H ds l->∀ v∈l,v.oneCell'=true
 | [],l,h=>by unfold sZ at h;subst h;simp
 | d::r,l,h=>by
  unfold sZ at h;obtain ⟨x,y,rfl,h2,h3⟩:=h;intro v hv;rcases cJ.1 hv with hv | hv
  ·exact Rep.one h2 v hv
  ·exact sZ.one h3 v hv
end
theorem dT.one {H:Hp} {z:Nat}:∀ {ds:List D} {l:List Value},dT H z ds l->∀ v∈l,v.oneCell'=true
 | [],l,h=>by unfold dT at h;subst h;simp
 | d::r,l,h=>by
  unfold dT at h;obtain ⟨x,y,rfl,_,h2,h3⟩:=h;intro v hv;rcases cJ.1 hv with hv | hv
  ·exact Rep.one h2 v hv
  ·exact dT.one h3 v hv
theorem dT.len {H:Hp} {z:Nat}:∀ {ds:List D} {l:List Value},dT H z ds l->l.length=ds.length * z
 | [],l,h=>by unfold dT at h;subst h;simp
 | d::r,l,h=>by
  unfold dT at h;obtain ⟨x,y,rfl,h1,h2,h3⟩:=h;have:=dT.len h3;rw [aC,this,h1,aF,vB];omega
variable {z:Nat}
theorem dT.app:∀ {ds es:List D} {l m:List Value},dT H z ds l->dT H z es m->dT H z (ds++es) (l++m)
 | [],es,l,m,h,k=>by unfold dT at h;subst h;exact k
 | d::r,es,l,m,h,k=>by
  unfold dT at h;obtain ⟨x,y,rfl,h1,h2,h3⟩:=h;show dT H z (d::(r++es)) _;unfold dT;exact ⟨x,y++m,by rw [aV],h1,h2,h3.app k⟩
variable {l:List Value}
theorem dT.single {d:D} (h:Rep H d l) (hl:l.length=z):dT H z [d] l:=by
 unfold dT;exact ⟨l,[],by simp,hl,h,by unfold dT;rfl⟩
theorem dT.nil:dT H z [] []:=by unfold dT;rfl
theorem dT.snoc {ds:List D} {m:List Value} {d:D} (h:dT H z ds l) (k:Rep H d m) (hl:m.length=z):dT H z (ds++[d]) (l++m):=h.app (.single k hl)
theorem dT.at {H:Hp} {z:Nat}:∀ {ds:List D} {l:List Value} {i:Nat} {d:D},dT H z ds l->ds[i]? = some d->∃ cs,Rep H d cs/\cs.length=z/\∀ (j:Nat) u,cs[j]? = some u->l[i * z+j]? = some u
 | [],l,i,d,h,e=>by simp at e
 | d0::r,l,i,d,h,e=>by
  unfold dT at h;obtain ⟨x,y,rfl,h1,h2,h3⟩:=h;cases i with
  | zero =>
   simp at e;subst e;refine ⟨x,h2,h1,λj u hu=>?_⟩;rw [nU,dO,List.getElem?_append_left (List.getElem?_eq_some_iff.1 hu).1];exact hu
  | succ i =>
   obtain ⟨cs,a,b,c⟩:=h3.at (i:=i) (d:=d) (by simpa using e);refine ⟨cs,a,b,λj u hu=>?_⟩;rw [List.getElem?_append_right (by rw [h1,hU];omega),h1,show (i+1) * z+j - z=i * z+j by rw [hU];omega];exact c j u hu
theorem dT.take:∀ {ds:List D} {l:List Value} (n:Nat),dT H z ds l->dT H z (ds.take n) (l.take (n * z))
 | [],l,n,h=>by unfold dT at h;subst h;simp;exact dT.nil
 | d::r,l,0,h=>by simp;exact dT.nil
 | d::r,l,n+1,h=>by
  unfold dT at h;obtain ⟨x,y,rfl,h1,h2,h3⟩:=h;rw [List.take_succ_cons];unfold dT;refine ⟨x,y.take (n * z),?_,h1,h2,h3.take n⟩;have hx:x.take ((n+1) * z)=x:=fX (by rw [h1,hU];omega);have hz:(n+1) * z - z=n * z:=by rw [hU];omega
  rw [List.take_append,hx,h1,hz]
theorem dT.drop:∀ {ds:List D} {l:List Value} (n:Nat),dT H z ds l->dT H z (ds.drop n) (l.drop (n * z))
 | [],l,n,h=>by unfold dT at h;subst h;simp;exact dT.nil
 | d::r,l,0,h=>by simpa using h
 | d::r,l,n+1,h=>by
  unfold dT at h;obtain ⟨x,y,rfl,h1,h2,h3⟩:=h;rw [qI];have:=h3.drop n;have hx:x.drop ((n+1) * z)=[]:=fY (by rw [h1,hU];omega);have hz:(n+1) * z - z=n * z:=by rw [hU];omega
  rw [List.drop_append,hx,h1,hz,dE];exact this
theorem lW.drop {off:Nat} (h:lW H b off cs) (k:Nat):lW H b (off+k) (cs.drop k):=by
 obtain ⟨arr,t,m,h1,h2⟩:=h;exact ⟨arr,t,m,h1,λj u e=>by rw [List.getElem?_drop] at e;rw [fP];exact h2 _ _ e⟩
theorem lW.take {off:Nat} (h:lW H b off cs) (k:Nat):lW H b off (cs.take k):=by
 obtain ⟨arr,t,m,h1,h2⟩:=h;refine ⟨arr,t,m,h1,λj u e=>h2 _ _ ?_⟩
 have hj:j<k:=by
  have:=(List.getElem?_eq_some_iff.1 e).1;rw [dG] at this;omega
 rwa [List.getElem?_take_of_lt hj] at e
theorem Rep.sl {ds:List D} (h:Rep H (.seq z ds) l):∃ p c,l=[.slice p ds.length c]/\ds.length<=c/\c<=maxLen:=by
 unfold Rep at h;obtain ⟨p,c,h1,h2,h3,_⟩:=h;exact ⟨p,c,h1,h2,h3⟩
variable {n c i:Nat} {p:Option Addr}
theorem Rep.elem {ds:List D} {d:D} (h:Rep H (.seq z ds) [.slice p n c]) (hi:ds[i]? = some d):∃ b off cs,p=some ⟨b,off,none⟩/\Rep H d cs/\cs.length=z/\lW H b (off+i * z) cs:=by
 unfold Rep at h;obtain ⟨p',c',h1,h2,h3,h4⟩:=h;injection h1 with h1 _
 injection h1 with h5 h6 h7
 subst h5;rcases h4 with h4 | ⟨b,off,cs,h8,⟨arr,t,m,h9,h10⟩,h11,_⟩
 ·subst h4;simp at hi
 ·obtain ⟨cs',k1,k2,k3⟩:=h11.at hi;exact ⟨b,off,cs',h8,k1,k2,arr,t,m,h9,λj u e=>by rw [fP];exact h10 _ _ (k3 j u e)⟩
theorem Rep.len {ds:List D} (h:Rep H (.seq z ds) [.slice p n c]):n=ds.length/\n<=c/\c<=maxLen:=by
 obtain ⟨p',c',h1,h2,h3⟩:=h.sl;injection h1 with h1 _
 injection h1 with h5 h6 h7
 subst h6 h7;exact ⟨Z,h2,h3⟩
theorem Rep.cap {ds:List D} (h:Rep H (.seq z ds) [.slice p n c]):n<=9223372036854775807:=by
 have:=h.len;simp only [maxLen] at this;omega
theorem Rep.empty (hc:c<=maxLen):Rep H (.seq z []) [.slice p 0 c]:=by
 unfold Rep;exact ⟨p,c,Z,aN _,hc,.inl rfl⟩
theorem Rep.mkM {off:Nat} {ds:List D} (hm:lW H b off cs) (hz:dT H z ds cs) (hn:ds.length=n) (h1:n<=c) (h2:c<=maxLen) (h3:D.txtL ds=true->H.lo<=b/\off % z=0):Rep H (.seq z ds) [.slice (some ⟨b,off,none⟩) n c]:=by
 subst hn;unfold Rep;exact ⟨_,c,Z,h1,h2,.inr ⟨b,off,cs,Z,hm,hz,h3⟩⟩
theorem Rep.mk {off:Nat} {ds:List D} (hm:EA H b off cs) (hz:dT H z ds cs) (hn:ds.length=n) (h1:n<=c) (h2:c<=maxLen) (h3:off % z=0:=by first | rfl | exact Nat.zero_mod _):Rep H (.seq z ds) [.slice (some ⟨b,off,none⟩) n c]:=.mkM hm.mem hz hn h1 h2 λ_=>⟨hm.lo,h3⟩
theorem RU {H:Hp}:∀ {vs:List Value},(∀ u∈vs,∃ s:ByteArray,u=.string s/\s.size<=1000000)->dT H 1 (vs.map .val) vs
 | [],_=>dT.nil
 | u::r,h=>by
  obtain ⟨s,rfl,hs⟩:=h u Hm;rw [eP];unfold dT;exact ⟨[_],r,Z,Z,by unfold Rep;exact ⟨Z,Z,hs⟩,RU λx hx=>h x (.tail _ hx)⟩
theorem Rep.ps_seq {vs:List Value} (h:Rep H (.ps vs) l):Rep H (.seq 1 (vs.map .val)) l:=by
 unfold Rep at h;obtain ⟨p,c,rfl,h1,h2,h3⟩:=h;rcases h3 with ⟨rfl,rfl⟩ | ⟨b,arr,t,rfl,h4,h5,h6,h7,h8⟩
 ·obtain rfl:vs=[]:=bK aD;exact .empty (by simp [maxLen])
 ·have hv:∀ u∈vs,∃ s:ByteArray,u=.string s/\s.size<=1000000:=λu hu=>h7 u (by rw [<-h8] at hu;exact mJ hu);refine .mkM ⟨arr,t,_,h4,λj u e=>?_⟩ (RU hv) fG h1 h2 λ_=>⟨h5,Nat.zero_mod _⟩;have hj:j<vs.length:=(List.getElem?_eq_some_iff.1 e).1;rw [<-h8,List.getElem?_take_of_lt hj] at e;rw [dO];simpa using e

section
variable {dfs:List Deferred} {P:Program} {n:Nat} {L:Sl} {H:Hp} {w0:World} {bs:List Res} {Q:Exit->Act->World->Prop} {ops:Array Oper} {K:Act->World->Prop}
variable {d:Option Tmp} {ty:TypeId} {pos:String} {aft:Array Edge} {g:Option (Nat × Bool)} {v:Value} {t:Tmp} {op:Op} {x y z:Operand} {T T':TypeId}
theorem lW.cell {W:World} {b off:Nat} {cs:List Value} (h:lW H b off cs) (s:Agr H W) {j:Nat} {u:Value} (e:cs[j]? = some u):W.cell? ⟨b,off+j,none⟩=some u:=by
 obtain ⟨arr,t,m,h1,h2⟩:=h;exact s.cell h1 (h2 j u e)
theorem Yl.loadM {b off o k:Nat} {cs:List Value} (hp:ev L x=some (.pointer (some ⟨b,off,none⟩))) (hT:jI P T=some none) (hm:lW H b o cs) (ho:off=o+k) (hv:cs[k]? = some v):Yl P L H w0 bs ⟨d,.load T x,ty,pos,aft,g⟩ v:=.of_run λa W f s=>by
 subst ho;unfold execOp;simp only [f x _ hp,Instr.loadAt,Instr.sureAddr,loadVar,Sem.run_bind,Sem.run_pure,Result.andThen,uJ hT,aM,cZ];rw [show (Go.load ⟨b,o+k,none⟩).run P W=.ok v W from by simp [Go.load,Sem.run,hm.cell s.agr hv]]
theorem Yl.loadMS {b off o k m:Nat} {cs vs:List Value} (hp:ev L x=some (.pointer (some ⟨b,off,none⟩))) (hT:jI P T=some (some m)) (hm:lW H b o cs) (ho:off=o+k) (hl:vs.length=m) (hv:∀ (j:Nat) u,vs[j]? = some u->cs[k+j]? = some u):Yl P L H w0 bs ⟨d,.load T x,ty,pos,aft,g⟩ (.agg vs.toArray):=.of_run λa W f s=>by
 subst ho hl;obtain ⟨h1,h2⟩:=vU (W:=W) hT
 have h3:(loadCells ⟨b,o+k,none⟩ vs.length).run P W=.ok vs.toArray W:=run_loadCells_list W _ vs λj u e=>by
  rw [Addr.add_lit,fP];exact hm.cell s.agr (hv j u e)
 unfold execOp;simp only [f x _ hp,Instr.loadAt,Instr.sureAddr,loadVar,Sem.run_bind,Sem.run_pure,Result.andThen,h1,h2,dC,h3]
theorem Yl.loadMW {b o m:Nat} {cs:List Value} (hp:ev L x=some (.pointer (some ⟨b,o,none⟩))) (hT:jI P T=some (some m)) (hm:lW H b o cs) (hl:cs.length=m):Yl P L H w0 bs ⟨d,.load T x,ty,pos,aft,g⟩ (.agg cs.toArray) :=
 .loadMS (k:=0) hp hT hm rfl hl λj u e=>by rw [dO];exact e
structure HUp (w0:World) (H H':Hp):Prop where
 up:Up H H'
 new:∀ b,H b=none->b<w0.heap.size->H' b=none
 mark:∀ b o,H' b=some o->H b=none->∃ arr t,o=Obj.cells arr t (0,0)
theorem HUp.refl:HUp w0 H H:=⟨Up.refl H,λ_ e _=>e,λb o e k=>by rw [k] at e;cases e⟩
theorem HUp.trans {H' H'':Hp} (h:HUp w0 H H') (k:HUp w0 H' H''):HUp w0 H H'':=⟨h.up.trans k.up,λb e hb=>k.new b (h.new b e hb) hb,λb o e h0=>by
 cases e1:H' b with
 | none=>exact k.mark b o e e1
 | some q =>
  have:=k.up b q e1;rw [this] at e;exact h.mark b o (by rw [e1];exact e) h0⟩
theorem HUp.grow {W:World} {H':Hp} (h:HUp w0 H H') (s:St H' w0 bs W):wV H w0 H' W:=⟨s.ext,h.up,h.new,s.agr,h.mark⟩
theorem wV.hup {W W':World} {H':Hp} (g:wV H W H' W') (s:St H w0 bs W):HUp w0 H H':=⟨g.up,λb e hb=>g.new b e (eK hb s.ext.size),g.mark⟩
theorem bM4 {X:Type} {f:FuncId} {xs:List Operand} {vs:List Value} {ats:Array TypeId} {C:X->Hp->Prop} {val:X->Value} (hf:kM P f=true) (hv:evs L xs=some vs)
 (hc:∀ W,St H w0 bs W->Calls P f vs.toArray W λe W'=>∃ x H',C x H'/\e=.returned (val x)/\wV H W H' W') (ht:Nat.blt t n=true)
 (h:∀ x H',C x H'->HUp w0 H H'->At dfs n ((t,val x)::L) H' w0 bs K) :
 At dfs n L H w0 bs (one P ops Q ⟨some t,.call ⟨.value (.func f),xs.toArray,ats⟩,ty,pos,aft,none⟩ K):=by
 intro a W f0 s;refine nR rfl ?_;unfold Oper.wp;rw [JW hf (λx u e=>f0.ev e) hv];refine (hc W s).mono ?_;rintro e W' ⟨x,H',hx,rfl,hg⟩;exact h x H' hx (hg.hup s) _ _ (f0.put ht _) (s.grow hg)
def QH (H:Hp) (b:Nat) (o:Obj):Hp:=⟨λc=>if c=b then some o else H c,H.lo⟩
theorem EK {H:Hp} {b:Nat} {o:Obj}:QH H b o b=some o:=by simp [QH]
theorem vV {H:Hp} {b c:Nat} {o:Obj} (h:c≠b):QH H b o c=H c:=by simp [QH,h]
theorem St.freeze {r:Res} {W:World} {b:Nat} {o:Obj} (s:St H w0 (r::bs) W) (hb:r.blk=some b) (ho:W.heap[b]? = some o) (hm:∃ arr t,o=Obj.cells arr t (0,0)):St (QH H b o) w0 bs W/\HUp w0 H (QH H b o):=by
 have hr:=s.own r Hm;have hlt:=hr.1.lt hb;have hap:=jQ.1 s.apart;refine ⟨⟨s.ext,⟨λc q e=>?_,s.agr.lo⟩,λy hy=>⟨(s.own y (.tail _ hy)).1,λc e=>?_⟩,hap.2,s.lo⟩,⟨⟨λc q e=>?_,Z⟩,λc e hc=>?_,λc q e h0=>?_⟩⟩
 ·by_cases h:c=b
  ·subst h;rw [EK] at e;cases e;exact ho
  ·rw [vV h] at e;exact s.agr c q e
 ·have:c≠b:=λh=>hap.1 y hy b hb (h ▸ e);rw [vV this];exact (s.own y (.tail _ hy)).2 c e
 ·have:c≠b:=λh=>by subst h;rw [hr.2 c hb] at e;cases e
  rw [vV this];exact e
 ·have:c≠b:=λh=>by omega
  rw [vV this];exact e
 ·by_cases h:c=b
  ·subst h;rw [EK] at e;cases e;exact hm
  ·rw [vV h,h0] at e;cases e
theorem freezeBoxN {b:Nat} {l:List Value} {t':TypeId} {G:Act->World->Prop} (h:∀ H',HUp w0 H H'->EA H' b 0 l->At dfs n L H' w0 bs G):At dfs n L H w0 (.box b l t'::bs) G:=λa W f s=>by
 have hm:=(s.own _ Hm).1.2;obtain ⟨s',u⟩:=s.freeze rfl hm ⟨_,_,Z⟩;exact h _ u ⟨⟨l.toArray,t',(0,0),EK,λj q e=>by rw [dO];simpa using e⟩,aZ s.lo (s.own _ Hm).1.1⟩ a W f s'
theorem xP {b:Nat} {l:List Value} {t':TypeId} {G:Act->World->Prop} (h:∀ H',HUp w0 H H'->lW H' b 0 l->At dfs n L H' w0 bs G):At dfs n L H w0 (.box b l t'::bs) G :=
 freezeBoxN λH1 u m=>h H1 u m.mem
theorem SK {e:TypeId} {size k:Nat} {r:Value} {xs:List Value} {G:Act->World->Prop} (h:∀ H',HUp w0 H H'->((r=.slice none 0 0/\k=0)\/∃ b c,r=.slice (dI b) k c/\k<=c/\c<=maxLen/\EA H' b 0 xs)->At dfs n L H' w0 bs G):At dfs n L H w0 (.row e size r k xs::bs) G:=λa W f s=>by
 have ho:W.ownsRow w0.heap.size e size r k xs:=(s.own _ Hm).1;rcases ho.2 with ⟨rfl,rfl⟩ | ⟨g,cap,cur,rfl,hg,hc,h1,h2,h3,h4⟩
 ·exact h H .refl (.inl ⟨Z,Z⟩) a W f s.drop
 ·obtain ⟨s',u⟩:=s.freeze (b:=g) rfl hc ⟨_,_,Z⟩;refine h _ u (.inr ⟨g,cap,Z,h1,h2,⟨cur,e,(0,0),EK,λj q eq=>?_⟩,aZ s.lo hg⟩) a W f s';have hc2:=World.ownsRow.cells ho (g:=g) rfl j q eq;rw [Addr.add_lit,cell_of_row W g (0+j) cur e (0,0) hc] at hc2;exact hc2
theorem iI {e:TypeId} {size k:Nat} {r:Value} {xs:List Value} {ds:List D} {G:Act->World->Prop} (hk:ds.length=k) (hz:dT H size ds xs) (h:∀ H' p c,HUp w0 H H'->r=.slice p k c->Rep H' (.seq size ds) [r]->At dfs n L H' w0 bs G):At dfs n L H w0 (.row e size r k xs::bs) G :=
 SK λH' u hr=>by
  rcases hr with ⟨rfl,rfl⟩ | ⟨b,c,rfl,h1,h2,h3⟩
  ·obtain rfl:=bK hk;exact h H' none 0 u rfl (.empty (by simp [maxLen]))
  ·exact h H' _ c u rfl (.mk h3 (hz.up u.up) hk h1 h2)
end
end Go.Sx

namespace Go.Sx
open Go.RowKit Go.Par
section
variable {dfs:List Deferred} {P:Program} {L:Sl} {H H':Hp} {w0:World} {bs bs':List Res} {ty:TypeId} {pos:String} {aft:Array Edge} {t:Tmp} {op:Op} {ops:Array Oper} {N hn i n j:Nat} {pa:List (Nat × Oper × Value)} {E:Sl->Hp->List Res->Prop} {r:List (Nat × Nat × Oper)} {rest:List Oper} {Q:Exit->Act->World->Prop} {o:Oper} {v:Value} {b c:Bool} {u:Tmp}
theorem cU {α:Type} {a0 a1:α} {l:List α}:a1∈a0::a1::l:=.tail _<|.head _
theorem iG {α:Type} {a0 a1 a2:α} {l:List α}:a2∈a0::a1::a2::l:=.tail _<|.tail _<|.head _
theorem qL {α:Type} {a0 a1 a2 a3:α} {l:List α}:a3∈a0::a1::a2::a3::l:=.tail _<|.tail _<|.tail _<|.head _
theorem wI {α:Type} {a0 a1 a2 a3 a4:α} {l:List α}:a4∈a0::a1::a2::a3::a4::l:=.tail _<|.tail _<|.tail _<|.tail _<|.head _
theorem aR3 {α:Type} {a0 a1 a2 a3 a4 a5:α} {l:List α}:a5∈a0::a1::a2::a3::a4::a5::l:=.tail _<|.tail _<|.tail _<|.tail _<|.tail _<|.head _
theorem aR2 {α:Type} {a0 a1 a2 a3 a4 a5 a6:α} {l:List α}:a6∈a0::a1::a2::a3::a4::a5::a6::l:=.tail _<|.tail _<|.tail _<|.tail _<|.tail _<|.tail _<|.head _
theorem iJ {a0 a1 x:Res} {l:List Res}:Upd (a0::a1::l) a1 x (a0::x::l):=.tail<|.head
theorem iE {a0 a1 a2 x:Res} {l:List Res}:Upd (a0::a1::a2::l) a2 x (a0::a1::x::l):=.tail<|.tail<|.head
theorem lJ {a0 a1 a2 a3 x:Res} {l:List Res}:Upd (a0::a1::a2::a3::l) a3 x (a0::a1::a2::x::l):=.tail<|.tail<|.tail<|.head
theorem QD {a0 a1 a2 a3 a4 x:Res} {l:List Res}:Upd (a0::a1::a2::a3::a4::l) a4 x (a0::a1::a2::a3::x::l):=.tail<|.tail<|.tail<|.tail<|.head
theorem cD6 {a0 a1 a2 a3 a4 a5 x:Res} {l:List Res}:Upd (a0::a1::a2::a3::a4::a5::l) a5 x (a0::a1::a2::a3::a4::x::l):=.tail<|.tail<|.tail<|.tail<|.tail<|.head
theorem aO8 {a0 a1 a2 a3 a4 a5 a6 x:Res} {l:List Res}:Upd (a0::a1::a2::a3::a4::a5::a6::l) a6 x (a0::a1::a2::a3::a4::a5::x::l):=.tail<|.tail<|.tail<|.tail<|.tail<|.tail<|.head
end
section
variable {dfs:List Deferred} {P:Program} {ops:Array Oper} {w0:World} {n N:Nat}
def putL (d:Option Tmp) (v:Value) (L:Sl):Sl:=match d with | some t=>(t,v)::L | none=>L
def Yq (P:Program) (ops:Array Oper) (o:Oper) (v:Value) (a:Act) (W:World):Prop :=
 (Region.wanted o (yielded ops a.tmps)=true/\Oper.quietUpon P (Ext W) W v ((execOp a.eval o).run P W))\/(Region.wanted o (yielded ops a.tmps)=false/\v=undef)
def mW (ops:Array Oper):Nat->Nat->Nat->Bool
 | 0,_,_=>false
 | f+1,j,h=>Region.waitsFor .any ops j h || (List.range j).any λk=>Region.waitsFor .any ops j k && mW ops f k h
def iV (dfs:List Deferred) (P:Program) (ops:Array Oper) (n:Nat) (w0:World) (N:Nat) (L:Sl) (H':Hp) (bs':List Res) (i:Nat):List (Nat × Oper × Value)->Prop
 | []=>True
 | (j,o,v)::r=>(mW ops n i j=true\/∀ a W,Fr dfs N L a->St H' w0 bs' W->Yq P ops o v a W)/\iV dfs P ops n w0 N L H' bs' i r
def dW (dfs:List Deferred) (P:Program) (ops:Array Oper) (n:Nat) (w0:World) (N:Nat) (E:Sl->Hp->List Res->Prop):List (Nat × Nat × Oper)->List (Nat × Oper × Value)->Sl->Hp->List Res->Prop
 | [],_,L,H,bs=>E L H bs
 | (i,0,o)::r,pa,L,H,bs=>∃ v,(∀ a W,Fr dfs N L a->St H w0 bs W->Yq P ops o v a W)/\(∀ t,o.dst=some t->t<N)/\dW dfs P ops n w0 N E r ((i,o,v)::pa) (putL o.dst v L) H bs
 | (i,k+1,o)::r,pa,L,H,bs=>(∀ t,o.dst=some t->t<N)/\At dfs N L H w0 bs (one P ops (λ_ _ _=>False) o λa' W'=>∃ v H' bs',Fr dfs N (putL o.dst v L) a'/\St H' w0 bs' W'/\(k=1\/(∀ W,St H' w0 bs' W->St H w0 bs W)\/iV dfs P ops n w0 N L H' bs' i pa)/\dW dfs P ops n w0 N E r pa (putL o.dst v L) H' bs')
def XM (ops:Array Oper) (n:Nat):List (Nat × Nat)->Bool
 | []=>true
 | (i,k)::r=>decide (i<n) && !Region.waitsFor .any ops i i && r.all (λx=>!(x.1 == i) && !Region.waitsFor .any ops i x.1 && (k == 0 || mW ops n x.1 i)) && XM ops n r && (!(k == 2) || (List.range n).all λj=>j == i || r.any (λx=>x.1 == j) || mW ops n i j)
def SL (ops:Array Oper) (n:Nat) (ord:List (Nat × Nat)):Bool :=
 bD5 ops n [] && XM ops n ord && (List.range n).all λi=>ord.any λx=>x.1 == i
theorem pY {listed:Array Bool} (I:HeadInv .any ops n listed):∀ (f j h:Nat),mW ops f j h=true->(∀ oj,ops[j]? = some oj->∀ e∈oj.after,Region.binds .any e=true->listed.getD e.on false=true)->listed.getD h false=true
 | 0,_,_,e,_=>by cases e
 | f+1,j,h,e,hj=>by
  unfold mW at e;rcases Bool.or_eq_true_iff.1 e with e | e
  ·obtain ⟨oj,hoj,x,hx,hb,rfl⟩:=Region.waitsFor_spec e;exact hj oj hoj x hx hb
  ·obtain ⟨k,_,hk⟩:=gA.1 e;obtain ⟨h1,h2⟩:=Bool.and_eq_true_iff.1 hk;obtain ⟨oj,hoj,x,hx,hb,rfl⟩:=Region.waitsFor_spec h1;have hl:=hj oj hoj x hx hb;exact pY I f x.on h h2 λok hok y hy hby=>I.closed x.on ok hok hl y hy hby
theorem sB (F:Fit ops n []) {a0:Act} {v1 v2:Nat->Value} {S1 S2:Nat->Bool} {i:Nat} {o:Oper} (hi:i<n) (ho:ops[i]? = some o)
 (h:∀ j,j<n->Region.waitsFor .any ops i j=true->S1 j=true/\S2 j=true/\v1 j=v2 j) (t:Tmp) (ht:t∈o.looksAt ops) :
 (frm ops v1 S1 n a0).eval (.tmp t)=(frm ops v2 S2 n a0).eval (.tmp t):=by
 by_cases hw:∃ j,j<n/\kL ops j=some t
 ·obtain ⟨j,hj,hd⟩:=hw;obtain ⟨h1,h2,h3⟩:=h j hj (F.look i o hi ho t ht j hj hd);rw [OX _ S1 a0 t j h1 hd n hj (λk hk hne e=>F.apart k j hk hj hne t e hd),OX _ S2 a0 t j h2 hd n hj (λk hk hne e=>F.apart k j hk hj hne t e hd),h3]
 ·rw [EO _ S1 a0 t n (λk hk _ hd=>hw ⟨k,hk,hd⟩),EO _ S2 a0 t n (λk hk _ hd=>hw ⟨k,hk,hd⟩)]
theorem Yq.same {o:Oper} {v:Value} {a a':Act} {W:World} (hs:∀ cs b,o.op≠.select cs b) (h:∀ t∈o.looksAt ops,a.eval (.tmp t)=a'.eval (.tmp t)) (hy:Yq P ops o v a' W):Yq P ops o v a W:=by
 unfold Yq at *;rw [RT o hs h,KU o h];exact hy
theorem Yq.wpOp {i:Nat} {o:Oper} {v:Value} {a:Act} {w:World} {K:Act->World->Prop} {Q:Exit->Act->World->Prop} (hi:ops[i]? = some o) (hy:Yq P ops o v a w)
 (h:∀ w',Ext w w'->K (a.put o.dst v) w'):Go.wpOp P ops Q i K a w:=by
 unfold Go.wpOp;simp only [hi];rcases hy with ⟨hw,hv⟩ | ⟨hw,rfl⟩
 ·simp only [hw,dC];refine .inl ?_;unfold Oper.wp;generalize (execOp a.eval o).run P w=r at *;cases r with
  | ok x w' =>
   cases x <;> simp only [Oper.quietUpon] at hv <;> simp only [Oper.upon]
   case value u =>
    obtain ⟨e1,e2⟩:=hv;rw [e1,e2];exact h _ (Ext.refl _)
   case skip =>
    obtain ⟨e1,e2⟩:=hv;rw [e1,<-e2];exact h _ (Ext.refl _)
   case enter f args =>
    obtain ⟨e1,hc⟩:=hv;rw [e1];exact hc.mono λe w'' ⟨he,hw''⟩=>by subst he;exact h _ hw''
  | halt x w'=>simp only [Oper.quietUpon] at hv
 ·simp only [hw,aM,cZ];exact h _ (Ext.refl _)
theorem OB {i:Nat} {o:Oper} {a a':Act} {W:World} {K K':Act->World->Prop} {Q:Exit->Act->World->Prop} (hi:ops[i]? = some o) (hs:∀ cs b,o.op≠.select cs b) (he:∀ t∈o.looksAt ops,a.eval (.tmp t)=a'.eval (.tmp t))
 (hd:∀ b W',K b W'->b.defers=dfs) (ha:a'.defers=dfs) (hk:∀ v W',K (a'.put o.dst v) W'->K' (a.put o.dst v) W') (h:one P ops (λ_ _ _=>False) o K a' W):Go.wpOp P ops Q i K' a W:=by
 unfold Go.wpOp;simp only [hi];unfold one at h;rw [KU o he];cases hw:Region.wanted o (yielded ops a'.tmps) with
 | false =>
  rw [hw] at h;simp only [aM,cZ] at h|-;exact hk _ _ h
 | true =>
  rw [hw] at h;simp only [dC] at h|-;refine .inl ?_;rcases h with h | ⟨_,_,_,h⟩
  ·unfold Oper.wp at h|-;rw [RT o hs he];generalize (execOp a'.eval o).run P W=r at *;cases r with
   | ok x w' =>
    cases x <;> simp only [Oper.upon] at h|-
    case value u=>exact hk _ _ h
    case skip=>exact hk _ _ h
    case defer d =>
     have:=hd _ _ h;cases hdst:o.dst <;> rw [hdst] at this <;> simp [Act.put,ha] at this
    case enter f args =>
     refine h.mono λe w'' q=>?_;cases e with
     | returned v=>exact hk _ _ q
     | panicked c=>exact q.elim
     | outgrown=>obtain ⟨_,_,q⟩:=q;exact q.elim
    case row rw args=>exact h.mono λv w'' q=>hk _ _ q
   | halt x w' =>
    cases x <;> simp only [Oper.upon] at h
  ·exact h.elim
def upd {α:Type} (f:Nat->α) (i:Nat) (v:α):Nat->α:=λk=>if k=i then v else f k
theorem gY {α:Type} (f:Nat->α) (i:Nat) (v:α):upd f i v i=v:=aK rfl
theorem eO {α:Type} (f:Nat->α) {i k:Nat} (v:α) (h:k≠i):upd f i v k=f k:=aA h
def VD (x:Nat × Nat × Oper):Nat × Nat:=(x.1,x.2.1)
structure GS (dfs:List Deferred) (P:Program) (ops:Array Oper) (w0:World) (n N:Nat) (a0:Act) (E:Sl->Hp->List Res->Prop) (listed:Array Bool) (a:Act) (W:World) (val:Nat->Value) (dec:Nat->Bool) (L:Sl) (H:Hp) (bs:List Res) (pa:List (Nat × Oper × Value)) (rest:List (Nat × Nat × Oper)):Prop where
 head:HeadInv .any ops n listed
 frame:a=frm ops val (st listed) n a0
 full:Fr dfs N L (frm ops val dec n a0)
 sub:∀ i,i<n->st listed i=true->dec i=true
 world:St H w0 bs W
 light:∀ i o,i<n->ops[i]? = some o->dec i=true->st listed i=false->∀ W,St H w0 bs W->Yq P ops o (val i) (frm ops val dec n a0) W
 plan:dW dfs P ops n w0 N E rest pa L H bs
 past:∀ i o,i<n->ops[i]? = some o->dec i=true->st listed i=false->(i,o,val i)∈pa
 undec:∀ x∈rest,dec x.1=false/\ops[x.1]? = some x.2.2
 cover:∀ i,i<n->dec i=true\/∃ x∈rest,x.1=i
 order:XM ops n (rest.map VD)=true
 deps:∀ i j,i<n->j<n->dec i=true->Region.waitsFor .any ops i j=true->dec j=true
theorem iV.at {L:Sl} {H':Hp} {bs':List Res} {i j:Nat} {o:Oper} {v:Value}:∀ {pa:List (Nat × Oper × Value)},iV dfs P ops n w0 N L H' bs' i pa->(j,o,v)∈pa->mW ops n i j=true\/∀ a W,Fr dfs N L a->St H' w0 bs' W->Yq P ops o v a W
 | _::_,h,hm=>by
  rcases bM.1 hm with rfl | hm
  ·exact h.1
  ·exact iV.at h.2 hm
theorem AI {i k:Nat} {o:Oper} {r:List (Nat × Nat × Oper)} (h:XM ops n (((i,k,o)::r).map VD)=true) :
 i<n/\Region.waitsFor .any ops i i=false/\(∀ x∈r,x.1≠i/\Region.waitsFor .any ops i x.1=false/\(k≠0->mW ops n x.1 i=true))/\XM ops n (r.map VD)=true /\
  (k=2->∀ j,j<n->j≠i->(∀ x∈r,x.1≠j)->mW ops n i j=true):=by
 simp only [eP,VD,XM,aE,aB,eT] at h;obtain ⟨⟨⟨⟨h1,h2⟩,h3⟩,h4⟩,h5⟩:=h;refine ⟨h1,h2,λx hx=>?_,h4,λhk j hj hji hr=>?_⟩
 ·have:=bD.1 h3 (VD x) (jX.2 ⟨x,hx,Z⟩);simp only [VD,aE,eT,beq_eq_false_iff_ne,aW] at this;obtain ⟨⟨k1,k2⟩,k3⟩:=this;refine ⟨k1,k2,λe=>?_⟩;rcases k3 with k3 | k3
  ·exact absurd (by simpa using k3) e
  ·exact k3
 ·subst hk;have h6:(List.range n).all (λj=>j == i || (r.map VD).any (λx=>x.1 == j) || mW ops n i j)=true:=by simpa using h5
  have:=bD.1 h6 j (bZ.2 hj);simp only [aW,eJ] at this;rcases this with (h7 | h7) | h7
  ·exact absurd h7 hji
  ·obtain ⟨y,hy,e⟩:=gA.1 h7;obtain ⟨x,hx,rfl⟩:=jX.1 hy;exact absurd (by simpa [VD] using e) (hr x hx)
  ·exact h7
variable {a0:Act} {E:Sl->Hp->List Res->Prop} {Q:Exit->Act->World->Prop} {listed:Array Bool} {a:Act} {W:World} {val:Nat->Value} {dec:Nat->Bool} {L:Sl} {H:Hp} {bs:List Res} {pa:List (Nat × Oper × Value)}
theorem MQ (F:Fit ops n []) {i:Nat} {o:Oper} {v:Value} (hi:i<n) (ho:ops[i]? = some o) (hd:dec i=false) :
 frm ops (upd val i v) (upd dec i true) n a0=(frm ops val dec n a0).put o.dst v:=by
 have e1:kL ops i=o.dst:=by simp [kL,ho]
 rw [uP (upd val i v) dec (upd dec i true) a0 i (gY _ _ _) hd (λk hk=>eO _ _ hk) n hi F.apart,gY,e1]
 congr 1
 refine kP _ _ _ _ a0 n λk _=>⟨Z,λhk=>eO _ _ λe=>?_⟩;subst e;rw [hd] at hk;cases hk
theorem Fr.putL {d:Option Tmp} (h:Fr dfs N L a) (v:Value) (hd:∀ t,d=some t->t<N):Fr dfs N (Sx.putL d v L) (a.put d v):=by
 cases d with
 | none=>exact h
 | some t=>exact h.put (by simpa [rD] using hd t rfl) v
theorem GS.decide (F:Fit ops n []) {i:Nat} {o:Oper} {r:List (Nat × Nat × Oper)} (I:GS dfs P ops w0 n N a0 E listed a W val dec L H bs pa ((i,0,o)::r)) :
 ∃ val' L' pa',GS dfs P ops w0 n N a0 E listed a W val' (upd dec i true) L' H bs pa' r:=by
 obtain ⟨hi,hii,hr,ho',_⟩:=AI I.order;obtain ⟨hdi,ho⟩:=I.undec _ Hm;obtain ⟨v,hy,hN,hp⟩:=I.plan
 have hli:st listed i=false:=by
  cases h:st listed i with
  | false=>rfl
  | true=>have:=I.sub i hi h;rw [hdi] at this;cases this
 have hput:=MQ (a0:=a0) (val:=val) (v:=v) F hi ho hdi
 have hdeps:∀ j,j<n->Region.waitsFor .any ops i j=true->dec j=true:=λj hj hw=>by
  rcases I.cover j hj with h | ⟨x,hx,rfl⟩
  ·exact h
  ·rcases bM.1 hx with rfl | hx
   ·rw [hii] at hw;cases hw
   ·rw [(hr x hx).2.1] at hw;cases hw
 refine ⟨upd val i v,Sx.putL o.dst v L,_,I.head,?_,?_,?_,I.world,?_,hp,?_,?_,?_,ho',?_⟩
 ·rw [I.frame];refine kP _ _ _ _ a0 n λk _=>⟨Z,λhk=>(eO _ _ λe=>?_).symm⟩;subst e;rw [hli] at hk;cases hk
 ·rw [hput];exact I.full.putL v hN
 ·intro j hj hs
  by_cases e:j=i
  ·subst e;exact gY _ _ _
  ·rw [eO _ _ e];exact I.sub j hj hs
 ·intro j oj hj hoj hd hs W hW
  by_cases e:j=i
  ·subst e;obtain rfl:oj=o:=bL (hoj.symm.trans ho);rw [gY];refine Yq.same (λcs b=>F.sel j oj cs b ho) (λt ht=>?_) (hy _ W I.full hW);refine sB F hj ho (λk hk hw=>?_) t ht;have hkd:=hdeps k hk hw;have hki:k≠j:=λe=>by subst e;rw [hii] at hw;cases hw
   exact ⟨by rw [eO _ _ hki];exact hkd,hkd,eO _ _ hki⟩
  ·rw [eO _ _ e] at hd|-;refine Yq.same (λcs b=>F.sel j oj cs b hoj) (λt ht=>?_) (I.light j oj hj hoj hd hs W hW);refine sB F hj hoj (λk hk hw=>?_) t ht;have hkd:=I.deps j k hj hk hd hw;have hki:k≠i:=λe=>by subst e;rw [hdi] at hkd;cases hkd
   exact ⟨by rw [eO _ _ hki];exact hkd,hkd,eO _ _ hki⟩
 ·intro j oj hj hoj hd hs
  by_cases e:j=i
  ·subst e;obtain rfl:oj=o:=bL (hoj.symm.trans ho);rw [gY];exact .head _
  ·rw [eO _ _ e] at hd|-;exact .tail _ (I.past j oj hj hoj hd hs)
 ·intro x hx;obtain ⟨h1,h2⟩:=I.undec x (.tail _ hx);exact ⟨by rw [eO _ _ (hr x hx).1];exact h1,h2⟩
 ·intro j hj
  by_cases e:j=i
  ·subst e;exact .inl (gY _ _ _)
  ·rcases I.cover j hj with h | ⟨x,hx,rfl⟩
   ·exact .inl (by rw [eO _ _ e];exact h)
   ·rcases bM.1 hx with rfl | hx
    ·exact absurd rfl e
    ·exact .inr ⟨x,hx,Z⟩
 ·intro j k hj hk hd hw
  by_cases e:j=i
  ·subst e;have hki:k≠j:=λe=>by subst e;rw [hii] at hw;cases hw
   rw [eO _ _ hki];exact hdeps k hk hw
  ·rw [eO _ _ e] at hd;have:=I.deps j k hj hk hd hw
   by_cases e2:k=i
   ·subst e2;exact gY _ _ _
   ·rw [eO _ _ e2];exact this
theorem GS.step (F:Fit ops n []) {i:Nat} {o:Oper} {rest:List (Nat × Nat × Oper)} {W':World} (I:GS dfs P ops w0 n N a0 E listed a W val dec L H bs pa rest) (hi:i<n) (ho:ops[i]? = some o) (hr:i∈Region.ready .any ops listed) (hd:dec i=true) (hx:Ext W W') :
 GS dfs P ops w0 n N a0 E (listed.setIfInBounds i true) (a.put o.dst (val i)) W' val dec L H bs pa rest:=by
 have hun:st listed i=false:=(mem_ready.1 hr).1;have e1:kL ops i=o.dst:=by simp [kL,ho]
 refine ⟨I.head.set hr hi,?_,I.full,?_,I.world.more hx,?_,I.plan,?_,I.undec,I.cover,I.order,I.deps⟩
 ·rw [I.frame,uP val (st listed) (st (listed.setIfInBounds i true)) a0 i fW hun (λk hk=>kU hk) n hi F.apart,e1]
 ·intro j hj hs
  by_cases e:j=i
  ·subst e;exact hd
  ·rw [kU e] at hs;exact I.sub j hj hs
 ·intro j oj hj hoj hdj hs;have e:j≠i:=λe=>by subst e;rw [fW] at hs;cases hs
  rw [kU e] at hs;exact I.light j oj hj hoj hdj hs
 ·intro j oj hj hoj hdj hs;have e:j≠i:=λe=>by subst e;rw [fW] at hs;cases hs
  rw [kU e] at hs;exact I.past j oj hj hoj hdj hs
theorem GS.heavy (F:Fit ops n []) {i k:Nat} {o:Oper} {v:Value} {r:List (Nat × Nat × Oper)} {W':World} {H':Hp} {bs':List Res} (I:GS dfs P ops w0 n N a0 E listed a W val dec L H bs pa ((i,k+1,o)::r)) (hr:i∈Region.ready .any ops listed)
 (hs:St H' w0 bs' W') (hws:k=1\/(∀ W,St H' w0 bs' W->St H w0 bs W)\/iV dfs P ops n w0 N L H' bs' i pa) (hp:dW dfs P ops n w0 N E r pa (putL o.dst v L) H' bs') :
 GS dfs P ops w0 n N a0 E (listed.setIfInBounds i true) (a.put o.dst v) W' (upd val i v) (upd dec i true) (putL o.dst v L) H' bs' pa r:=by
 obtain ⟨hi,hii,hrr,ho',hex⟩:=AI I.order;obtain ⟨hdi,ho⟩:=I.undec _ Hm;have hN:=I.plan.1;have hun:st listed i=false:=(mem_ready.1 hr).1;have e1:kL ops i=o.dst:=by simp [kL,ho]
 have hput:=MQ (a0:=a0) (val:=val) (v:=v) F hi ho hdi
 have hdeps:∀ j,j<n->Region.waitsFor .any ops i j=true->dec j=true:=λj hj hw=>by
  rcases I.cover j hj with h | ⟨x,hx,rfl⟩
  ·exact h
  ·rcases bM.1 hx with rfl | hx
   ·rw [hii] at hw;cases hw
   ·rw [(hrr x hx).2.1] at hw;cases hw
 refine ⟨I.head.set hr hi,?_,?_,?_,hs,?_,hp,?_,?_,?_,ho',?_⟩
 ·rw [I.frame,uP (upd val i v) (st listed) (st (listed.setIfInBounds i true)) a0 i fW hun (λk hk=>kU hk) n hi F.apart,e1,gY]
  congr 1
  refine kP _ _ _ _ a0 n λk _=>⟨Z,λhk=>(eO _ _ λe=>?_).symm⟩;subst e;rw [hun] at hk;cases hk
 ·rw [hput];exact I.full.putL v hN
 ·intro j hj hs
  by_cases e:j=i
  ·subst e;exact gY _ _ _
  ·rw [eO _ _ e];rw [kU e] at hs;exact I.sub j hj hs
 ·intro j oj hj hoj hd hs W hW;have e:j≠i:=λe=>by subst e;rw [fW] at hs;cases hs
  rw [kU e] at hs;rw [eO _ _ e] at hd|-
  have hdone:mW ops n i j=true->False:=λh1=>by
   obtain ⟨_,oi,hoi,hall⟩:=mem_ready.1 hr
   have h2:=pY I.head n i j h1 (λok hok x hx hb=>by
    obtain rfl:ok=oi:=bL (hok.symm.trans hoi);exact hall x hx hb)
   rw [getD_both hs] at h2;cases h2
  have hy:Yq P ops oj (val j) (frm ops val dec n a0) W:=by
   rcases hws with hk | hw | hw
   ·exact (hdone (hex aD j hj e (λx hx e2=>by
     have:=(I.undec x (.tail _ hx)).1;rw [e2,hd] at this;cases this))).elim
   ·exact I.light j oj hj hoj hd hs W (hw W hW)
   ·rcases hw.at (I.past j oj hj hoj hd hs) with h1 | h1
    ·exact (hdone h1).elim
    ·exact h1 _ W I.full hW
  refine Yq.same (λcs b=>F.sel j oj cs b hoj) (λt ht=>?_) hy;refine sB F hj hoj (λk hk hw=>?_) t ht;have hkd:=I.deps j k hj hk hd hw;have hki:k≠i:=λe=>by subst e;rw [hdi] at hkd;cases hkd
  exact ⟨by rw [eO _ _ hki];exact hkd,hkd,eO _ _ hki⟩
 ·intro j oj hj hoj hd hs;have e:j≠i:=λe=>by subst e;rw [fW] at hs;cases hs
  rw [kU e] at hs;rw [eO _ _ e] at hd|-;exact I.past j oj hj hoj hd hs
 ·intro x hx;obtain ⟨h1,h2⟩:=I.undec x (.tail _ hx);exact ⟨by rw [eO _ _ (hrr x hx).1];exact h1,h2⟩
 ·intro j hj
  by_cases e:j=i
  ·subst e;exact .inl (gY _ _ _)
  ·rcases I.cover j hj with h | ⟨x,hx,rfl⟩
   ·exact .inl (by rw [eO _ _ e];exact h)
   ·rcases bM.1 hx with rfl | hx
    ·exact absurd rfl e
    ·exact .inr ⟨x,hx,Z⟩
 ·intro j k hj hk hd hw
  by_cases e:j=i
  ·subst e;have hki:k≠j:=λe=>by subst e;rw [hii] at hw;cases hw
   rw [eO _ _ hki];exact hdeps k hk hw
  ·rw [eO _ _ e] at hd;have:=I.deps j k hj hk hd hw
   by_cases e2:k=i
   ·subst e2;exact gY _ _ _
   ·rw [eO _ _ e2];exact this
theorem aS3 (F:Fit ops n []) (hend:∀ L H bs,E L H bs->At dfs N L H w0 bs (wpList P ops Q (ops.toList.drop n))) :
 ∀ (m:Nat) (rest:List (Nat × Nat × Oper)) (listed:Array Bool) (a:Act) (W:World) (val:Nat->Value) (dec:Nat->Bool) (L:Sl) (H:Hp) (bs:List Res) (pa:List (Nat × Oper × Value)),cnt (st listed) n=m ->
  GS dfs P ops w0 n N a0 E listed a W val dec L H bs pa rest->wpAny P .any ops Q (m+(ops.size - n)) listed a W:=by
 intro m;induction m with
 | zero =>
  intro rest;induction rest with
  | nil =>
   intro listed a W val dec L H bs pa hm I;have hall:=sT _ n hm
   have hcan:listed=((List.range ops.size).map λk=>decide (k<n)).toArray:=by
    apply IZ
    ·simp [I.head.size]
    ·intro k h1 h2;have hk:k<ops.size:=by rw [<-I.head.size];exact h1
     simp only [uC,pI,vI]
     by_cases hkn:k<n
     ·have:=hall k hkn;simp [st,h1] at this;simp [this,hkn]
     ·have:=I.head.tail k aD hk;simp [h1] at this;simp [this,hkn]
   rw [dO];have hlen:(ops.toList.drop n).length=ops.size - n:=by simp
   rw [<-hlen];refine wpAny_of_seq (ops.toList.drop n) n listed a W (λj=>by simp [List.getElem?_drop]) (by rw [hlen,hcan];exact F.seq) ?_
   have hfr:a=frm ops val dec n a0:=by
    rw [I.frame];exact kP _ _ _ _ a0 n (λk hk=>⟨by rw [hall k hk,I.sub k hk (hall k hk)],λ_=>rfl⟩)
   rw [hfr];exact hend L H bs I.plan _ W I.full I.world
  | cons x r ih =>
   intro listed a W val dec L H bs pa hm I;obtain ⟨i,hv,o⟩:=x;have hall:=sT _ n hm;obtain ⟨hi,_⟩:=AI I.order;have:=I.sub i hi (hall i hi);rw [(I.undec _ Hm).1] at this;cases this
 | succ m ih =>
  intro rest;induction rest with
  | cons x r ihr =>
   intro listed a W val dec L H bs pa hm I;obtain ⟨i,kd,o⟩:=x;cases kd with
   | zero =>
    obtain ⟨val',L',pa',I'⟩:=I.decide F;exact ihr listed a W val' _ L' H bs pa' hm I'
   | succ kd =>
    obtain ⟨k0,hk0,hun0,hbelow⟩:=IH (st listed) n aD;have hk0s:k0<ops.size:=by have:=F.lt;omega
    have hready0:k0∈Region.ready .any ops listed:=by
     refine mem_ready.2 ⟨hun0,ops[k0],Array.getElem?_eq_getElem hk0s,λe he hb=>?_⟩;have hlt:=F.back k0 _ (Array.getElem?_eq_getElem hk0s) e he hb;have:=hbelow e.on hlt;have hsz:e.on<listed.size:=by rw [I.head.size];omega
     simpa [st,hsz] using this
    rw [show m+1+(ops.size - n)=(m+(ops.size - n))+1 by omega];refine ⟨λh0=>(by rw [h0] at hready0;cases hready0),λj hj=>?_⟩
    have hjn:j<n:=by
     rcases jG j n with h | h
     ·exact h
     ·exact absurd hj (CS F.sink F.chain I.head _ k0 rfl hk0 rfl hun0 j h)
    obtain ⟨hun,oj,hoj,hall⟩:=mem_ready.1 hj
    have hcnt:cnt (st (listed.setIfInBounds j true)) n=m:=by
     have:=DM (st listed) (st (listed.setIfInBounds j true)) j fW hun (λk hk=>kU hk) n hjn;omega
    have hS:∀ k,k<n->Region.waitsFor .any ops j k=true->st listed k=true:=by
     intro k hk hw;obtain ⟨oi,hoi,e,he,hb,hon⟩:=Region.waitsFor_spec hw;obtain rfl:oi=oj:=bL (hoi.symm.trans hoj);have h1:=hall e he hb;rw [hon] at h1;have hsz:k<listed.size:=by rw [I.head.size];have:=F.lt;omega
     simp [hsz] at h1;simp [st,hsz,h1]
    have hev:∀ t∈oj.looksAt ops,a.eval (.tmp t)=(frm ops val dec n a0).eval (.tmp t):=λt ht=>by
     rw [I.frame];exact sB F hjn hoj (λk hk hw=>⟨hS k hk hw,I.sub k hk (hS k hk hw),Z⟩) t ht
    rcases I.cover j hjn with hd | ⟨x,hx,rfl⟩
    ·have hy:Yq P ops oj (val j) a W:=Yq.same (λcs b=>F.sel j oj cs b hoj) hev (I.light j oj hjn hoj hd hun W I.world);exact hy.wpOp hoj λW' hx=>ih _ _ _ _ _ _ _ _ _ _ hcnt (I.step F hjn hoj hj hd hx)
    ·rcases bM.1 hx with rfl | hx
     ·dsimp only at *;obtain rfl:o=oj:=bL ((I.undec _ Hm).2.symm.trans hoj);refine OB hoj (λcs b=>F.sel i o cs b hoj) hev (λb W' ⟨v,H',bs',hf,_⟩=>hf.defers) I.full.defers ?_ (I.plan.2 _ W I.full I.world);rintro v W' ⟨v',H',bs',hf,hs,hw,hp⟩
      have hvv:putL o.dst v' L=putL o.dst v L:=by
       cases hdst:o.dst with
       | none=>rfl
       | some t =>
        rw [hdst] at hf;have h1:=hf.slot t v' (by unfold putL look;rw [mL,lN]);have h2:t<N:=I.plan.1 t hdst;have h3:=(I.full.put (by simpa [rD] using h2) v).slot t v (by unfold look;rw [mL,lN]);rw [h3] at h1;rw [h1]
      rw [hvv] at hp;exact ih _ _ _ _ _ _ _ _ _ _ hcnt (I.heavy F hj hs hw hp)
     ·have hre:=(AI I.order).2.2.1 x hx
      have h1:=pY I.head n x.1 i (hre.2.2 aD) (λok hok e he hb=>by
       obtain rfl:ok=oj:=bL (hok.symm.trans hoj);exact hall e he hb)
      have h2:st listed i=false:=by
       cases h:st listed i with
       | false=>rfl
       | true =>
        have:=I.sub i (AI I.order).1 h;rw [(I.undec _ Hm).1] at this;cases this
      rw [getD_both h2] at h1;cases h1
  | nil =>
   intro listed a W val dec L H bs pa hm I;obtain ⟨k0,hk0,hun0,hbelow⟩:=IH (st listed) n aD;have hk0s:k0<ops.size:=by have:=F.lt;omega
   have hready0:k0∈Region.ready .any ops listed:=by
    refine mem_ready.2 ⟨hun0,ops[k0],Array.getElem?_eq_getElem hk0s,λe he hb=>?_⟩;have hlt:=F.back k0 _ (Array.getElem?_eq_getElem hk0s) e he hb;have:=hbelow e.on hlt;have hsz:e.on<listed.size:=by rw [I.head.size];omega
    simpa [st,hsz] using this
   rw [show m+1+(ops.size - n)=(m+(ops.size - n))+1 by omega];refine ⟨λh0=>(by rw [h0] at hready0;cases hready0),λj hj=>?_⟩
   have hjn:j<n:=by
    rcases jG j n with h | h
    ·exact h
    ·exact absurd hj (CS F.sink F.chain I.head _ k0 rfl hk0 rfl hun0 j h)
   obtain ⟨hun,oj,hoj,hall⟩:=mem_ready.1 hj
   have hcnt:cnt (st (listed.setIfInBounds j true)) n=m:=by
    have:=DM (st listed) (st (listed.setIfInBounds j true)) j fW hun (λk hk=>kU hk) n hjn;omega
   have hS:∀ k,k<n->Region.waitsFor .any ops j k=true->st listed k=true:=by
    intro k hk hw;obtain ⟨oi,hoi,e,he,hb,hon⟩:=Region.waitsFor_spec hw;obtain rfl:oi=oj:=bL (hoi.symm.trans hoj);have h1:=hall e he hb;rw [hon] at h1;have hsz:k<listed.size:=by rw [I.head.size];have:=F.lt;omega
    simp [hsz] at h1;simp [st,hsz,h1]
   have hev:∀ t∈oj.looksAt ops,a.eval (.tmp t)=(frm ops val dec n a0).eval (.tmp t):=λt ht=>by
    rw [I.frame];exact sB F hjn hoj (λk hk hw=>⟨hS k hk hw,I.sub k hk (hS k hk hw),Z⟩) t ht
   rcases I.cover j hjn with hd | ⟨x,hx,rfl⟩
   ·have hy:Yq P ops oj (val j) a W:=Yq.same (λcs b=>F.sel j oj cs b hoj) hev (I.light j oj hjn hoj hd hun W I.world);exact hy.wpOp hoj λW' hx=>ih _ _ _ _ _ _ _ _ _ _ hcnt (I.step F hjn hoj hj hd hx)
   ·cases hx
theorem aL7 {l:List Oper} {trip:List (Nat × Nat × Oper)} (n:Nat) (ord:List (Nat × Nat)) (hB:SL l.toArray n ord=true) (ht:ord.map (λx=>(x.1,x.2,l[x.1]!))=trip)
 (h:dW dfs P l.toArray n w0 N (λL H bs=>At dfs N L H w0 bs (wpList P l.toArray Q (l.drop n))) trip [] L H bs):∀ a W,Fr dfs N L a->St H w0 bs W->wpAny P .any l.toArray Q l.toArray.size (Array.replicate l.toArray.size false) a { W with drawn:=W.drawn+1 }:=by
 simp only [SL,aE] at hB;obtain ⟨⟨h1,h2⟩,h3⟩:=hB;have F:=Fit.of h1;have hlt:n<l.length:=by simpa using F.lt
 intro a W f s;have hsz:l.toArray.size=l.length:=by simp
 have hc0:∀ m,m<=n->cnt (st (Array.replicate l.toArray.size false)) m=m:=by
  intro m;induction m with
  | zero=>intro _;rfl
  | succ m ih =>
   intro hm;unfold cnt;rw [ih aD]
   have:st (Array.replicate l.toArray.size false) m=false:=by
    have:m<l.length:=aD
    simp [st,this]
   rw [this];simp
 have hmap:trip.map VD=ord:=by
  subst ht;rw [tM]
  conv=>rhs;rw [<-List.map_id ord]
  exact List.map_congr_left λx _=>rfl
 have hfrm:∀ (val:Nat->Value) (m:Nat),frm l.toArray val (λ_=>false) m a=a:=λval m=>by
  induction m with
  | zero=>rfl
  | succ m ih=>unfold frm;simp [ih]
 have hall:∀ m,m<=n->∀ k,k<m->st (Array.replicate l.toArray.size false) k=false:=λm hm k hk=>by
  have:k<l.length:=aD
  simp [st,this]
 have hh:HeadInv .any l.toArray n (Array.replicate l.toArray.size false):=by
  refine ⟨by simp,λj oj hj hl=>?_,λt ht ht'=>?_⟩
  ·exfalso
   rcases jG j l.length with h | h
   ·simp [h] at hl
   ·simp [h] at hl
  ·have:t<l.length:=by simpa using ht'
   simp [this]
 have key:=aS3 (Q:=Q) (a0:=a) F (λL H bs h=>by simpa using h) n trip (Array.replicate l.toArray.size false) a _ (λ_=>undef) (λ_=>false) L H bs [] (hc0 n (aY _))
  ⟨hh,?_,by rw [hfrm];exact f,?_,s.more ((Ext.refl W).drew),λ_ _ _ _ h=>(by cases h),h,λ_ _ _ _ h=>(by cases h),?_,?_,by rw [hmap];exact h2,λ_ _ _ _ h=>(by cases h)⟩
 ·have:n+(l.toArray.size - n)=l.toArray.size:=by rw [hsz];omega
  rw [this] at key;exact key
 ·rw [kP (λ_=>undef) (λ_=>undef) _ (λ_=>false) a n (λk hk=>⟨hall n (aY _) k hk,λ_=>rfl⟩),hfrm]
 ·intro i hi hs;rw [hall n (aY _) i hi] at hs;cases hs
 ·intro x hx;refine ⟨Z,?_⟩;subst ht;obtain ⟨y,hy,rfl⟩:=jX.1 hx
  have hyn:y.1<n:=by
   have:∀ (ord:List (Nat × Nat)),XM l.toArray n ord=true->∀ y∈ord,y.1<n:=by
    intro ord;induction ord with
    | nil=>intro _ y hy;cases hy
    | cons z r ih =>
     intro ho y hy;simp only [XM,aE,aB] at ho;rcases bM.1 hy with rfl | hy
     ·exact ho.1.1.1.1
     ·exact ih ho.1.2 y hy
   exact this ord h2 y hy
  have:y.1<l.length:=aD
  simp [this]
 ·intro i hi
  right
  obtain ⟨y,hy,e⟩:=gA.1 (bD.1 h3 i (bZ.2 hi));subst ht;exact ⟨_,jX.2 ⟨y,hy,Z⟩,by simpa using e⟩
theorem cT3 {id:Nat} {l:List Oper} {trip:List (Nat × Nat × Oper)} (n:Nat) (ord:List (Nat × Nat)) (hm:P.follows .mixedOrders=true) (hB:SL l.toArray n ord=true) (ht:ord.map (λx=>(x.1,x.2,l[x.1]!))=trip)
 (h:dW dfs P l.toArray n w0 N (λL H bs=>At dfs N L H w0 bs (wpList P l.toArray Q (l.drop n))) trip [] L H bs):At dfs N L H w0 bs ((Code.region id l.toArray true).wp P Q) :=
 λa W f s=>wp_region_any hm (aL7 n ord hB ht h a W f s)
end
end Go.Sx
/- The rules of the walk under short names, and further operations. -/
namespace Go.Sx
open Go.RowKit Go.Par
section
variable {dfs:List Deferred} {P:Program} {n:Nat} {L:Sl} {H:Hp} {w0:World} {bs:List Res} {Q:Exit->Act->World->Prop} {ops:Array Oper} {rest:List Oper} {K:Act->World->Prop}
variable {d:Option Tmp} {ty:TypeId} {pos:String} {aft:Array Edge} {g:Option (Nat × Bool)} {v:Value} {t:Tmp} {op:Op} {x y z:Operand} {T T':TypeId}
/-! ### Further operations -/
theorem Yl.nilCheck {a:Addr} (hx:ev L x=some (.pointer (some a))):Yl P L H w0 bs ⟨d,.nilCheck x,ty,pos,aft,g⟩ (.pointer (some a)):=.of_run λac W f _=>by
 unfold execOp;simp [f x _ hx]
theorem Yl.max2 {k k':IntKind} {i j c:Int} {ts:Array TypeId} (hx:ev L x=some (.int k i)) (hy:ev L y=some (.int k' j)) (hc:max i j=c):Yl P L H w0 bs ⟨d,.call ⟨.builtin .max,#[x,y],ts⟩,ty,pos,aft,g⟩ (.int k c):=.of_run λa W f _=>by
 subst hc;have e:(if j > i then j else i)=max i j:=by rw [Int.max_def];split <;> split <;> omega
 unfold execOp;simp [f x _ hx,f y _ hy,resolve,invoke,builtin,Builtin.max_,Builtin.max2,e]
theorem aE9 {f:FuncId} {xs:List Operand} {vs fi ca:List Value} {ats:Array TypeId} {a:Act} {W:World} (hc:kM P f=true) (f0:∀ x u,ev L x=some u->a.eval x=u) (hx:ev L x=some (.func (.func f) fi.toArray ca.toArray)) (hv:evs L xs=some vs) :
 (execOp a.eval ⟨d,.call ⟨.value x,xs.toArray,ats⟩,ty,pos,aft,g⟩).run P W=.ok (.enter f (fi++vs++ca).toArray) W:=by
 unfold execOp;have hm:=EQ f0 hv;simp only [resolve,f0 x _ hx,Deferred.ofValue,Sem.run_bind,Sem.run_pure,Result.andThen,invoke,kS,hm];simp only [List.append_toArray];exact BH hc
theorem Yl.callV {f:FuncId} {xs:List Operand} {vs fi ca:List Value} {ats:Array TypeId} (hx:ev L x=some (.func (.func f) fi.toArray ca.toArray)) (hf:kM P f=true) (hv:evs L xs=some vs) (hc:∀ W,St H w0 bs W->Calls P f (fi++vs++ca).toArray W λe W'=>e=.returned v/\Ext W W') :
 Yl P L H w0 bs ⟨d,.call ⟨.value x,xs.toArray,ats⟩,ty,pos,aft,g⟩ v:=λa W f0 s=>by
 rw [aE9 hf f0 hx hv];exact ⟨Z,hc W s⟩
theorem Yl.cast {o:Oper} {v':Value} (h:Yl P L H w0 bs o v) (e:v=v'):Yl P L H w0 bs o v':=e ▸ h
/-! ### Code -/
theorem At.sq {x y:Code} (h:At dfs n L H w0 bs (x.wp P (Exit.then (y.wp P Q) Q))):At dfs n L H w0 bs ((Code.seq x y).wp P Q):=seq h
theorem At.bk {id:Nat} {c:Code} (h:At dfs n L H w0 bs (c.wp P (Exit.inBlock id Q))):At dfs n L H w0 bs ((Code.block id c).wp P Q):=blk h
theorem At.sk (h:At dfs n L H w0 bs (Q .normal)):At dfs n L H w0 bs (Code.skip.wp P Q):=skip h
theorem At.rt (h:At dfs n L H w0 bs (Q .ret)):At dfs n L H w0 bs (Code.ret.wp P Q):=ret h
theorem At.ex {id:Nat} (h:At dfs n L H w0 bs (Q (.exit id))):At dfs n L H w0 bs ((Code.exit id).wp P Q):=exit h
theorem At.cd {c:Operand} {x y:Code} {t:Bool} (hc:ev L c=some (.bool t)) (h1:t=true->At dfs n L H w0 bs (x.wp P Q)) (h2:t=false->At dfs n L H w0 bs (y.wp P Q)):At dfs n L H w0 bs ((Code.cond c x y).wp P Q):=cond hc h1 h2
theorem At.cT {c:Operand} {x y:Code} (hc:ev L c=some (.bool true)) (h:At dfs n L H w0 bs (x.wp P Q)):At dfs n L H w0 bs ((Code.cond c x y).wp P Q):=cQ4 hc h
theorem At.cF {c:Operand} {x y:Code} (hc:ev L c=some (.bool false)) (h:At dfs n L H w0 bs (y.wp P Q)):At dfs n L H w0 bs ((Code.cond c x y).wp P Q):=cQ5 hc h
theorem At.rg {id:Nat} {l:List Oper} (h:At dfs n L H w0 bs (wpList P l.toArray Q l)):At dfs n L H w0 bs ((Code.region id l.toArray false).wp P Q):=region h
theorem At.nl (h:At dfs n L H w0 bs (Q .normal)):At dfs n L H w0 bs (wpList P ops Q []):=nil h
theorem At.tN (h:At dfs n L H w0 bs K):At dfs n L H w0 bs (Exit.then K Q .normal):=h
theorem At.tR (h:At dfs n L H w0 bs (Q .ret)):At dfs n L H w0 bs (Exit.then K Q .ret):=h
theorem At.tE {id:Nat} (h:At dfs n L H w0 bs (Q (.exit id))):At dfs n L H w0 bs (Exit.then K Q (.exit id)):=h
theorem At.bN {id:Nat} (h:At dfs n L H w0 bs (Q .normal)):At dfs n L H w0 bs (Exit.inBlock id Q .normal):=h
theorem At.bR {id:Nat} (h:At dfs n L H w0 bs (Q .ret)):At dfs n L H w0 bs (Exit.inBlock id Q .ret):=h
theorem At.bE {id:Nat} (h:At dfs n L H w0 bs (Q .normal)):At dfs n L H w0 bs (Exit.inBlock id Q (.exit id)):=cT9 h
/-! ### Operations, one behind the other -/
theorem At.yv (hy:Yl P L H w0 bs ⟨some t,op,ty,pos,aft,none⟩ v) (ht:Nat.blt t n=true) (h:At dfs n ((t,v)::L) H w0 bs (wpList P ops Q rest)):At dfs n L H w0 bs (wpList P ops Q (⟨some t,op,ty,pos,aft,none⟩::rest)):=cons (yl hy ht h)
theorem At.m (hx:ev L x=some v) (ht:Nat.blt t n=true) (h:At dfs n ((t,v)::L) H w0 bs (wpList P ops Q rest)):At dfs n L H w0 bs (wpList P ops Q (⟨some t,.move x,ty,pos,aft,none⟩::rest)):=cons (yl (.move hx) ht h)
theorem At.a (hx:ev L x=some v) (ht:Nat.blt t n=true) (h:At dfs n ((t,v)::L) H w0 bs (wpList P ops Q rest)):At dfs n L H w0 bs (wpList P ops Q (⟨some t,.assign x,ty,pos,aft,none⟩::rest)):=cons (yl (.assign hx) ht h)
theorem At.gd {j:Nat} {b:Bool} {u:Tmp} (hd:(ops[j]?).bind (·.dst)=some u) (hs:look L u=some (.bool b)) (h:At dfs n L H w0 bs (wpList P ops Q (⟨d,op,ty,pos,aft,none⟩::rest))):At dfs n L H w0 bs (wpList P ops Q (⟨d,op,ty,pos,aft,some (j,b)⟩::rest)):=cons (cI7 hd hs h)
theorem At.gF {j:Nat} {b c:Bool} {u:Tmp} (hd:(ops[j]?).bind (·.dst)=some u) (hs:look L u=some (.bool c)) (hne:(c == b)=false) (ht:Nat.blt t n=true) (h:At dfs n ((t,undef)::L) H w0 bs (wpList P ops Q rest)):At dfs n L H w0 bs (wpList P ops Q (⟨some t,op,ty,pos,aft,some (j,b)⟩::rest)):=cons (cI8 hd hs hne ht h)
theorem At.gU {j:Nat} {b:Bool} {u:Tmp} (hd:(ops[j]?).bind (·.dst)=some u) (hs:look L u=some undef) (ht:Nat.blt t n=true) (h:At dfs n ((t,undef)::L) H w0 bs (wpList P ops Q rest)):At dfs n L H w0 bs (wpList P ops Q (⟨some t,op,ty,pos,aft,some (j,b)⟩::rest)):=cons (cI6 hd hs ht h)
theorem At.b2 {p:Bool} {G:Act->World->Prop} (h1:p=true->At dfs n ((t,.bool true)::L) H w0 bs G) (h2:p=false->At dfs n ((t,.bool false)::L) H w0 bs G):At dfs n ((t,.bool p)::L) H w0 bs G:=bool h1 h2
theorem At.al {l:List Value} (hz:nA P T=some l) (ht:Nat.blt t n=true) (h:∀ b,At dfs n ((t,.pointer (dI b))::L) H w0 (.box b l T::bs) (wpList P ops Q rest)):At dfs n L H w0 bs (wpList P ops Q (⟨some t,.alloc T,ty,pos,aft,none⟩::rest)):=cons (alloc hz ht h)
theorem At.bx {l:List Value} (hx:ev L x=some v) (hl:v.cells.toList=l) (ht:Nat.blt t n=true) (h:∀ b,At dfs n ((t,.pointer (dI b))::L) H w0 (.box b l T::bs) (wpList P ops Q rest)):At dfs n L H w0 bs (wpList P ops Q (⟨some t,.box T x,ty,pos,aft,none⟩::rest)):=cons (box hx hl ht h)
theorem At.st {b off:Nat} {l l':List Value} {t':TypeId} {bs':List Res} (hm:Upd bs (.box b l t') (.box b l' t') bs') (hp:ev L x=some (.pointer (some ⟨b,off,none⟩))) (hv:ev L y=some v) (hT:gQ P T=some 1) (h1:v.oneCell'=true) (ho:off<l.length) (hl:l.set off v=l') (h:At dfs n L H w0 bs' (wpList P ops Q rest)) :
 At dfs n L H w0 bs (wpList P ops Q (⟨none,.store T x y,ty,pos,aft,none⟩::rest)):=cons (store hp hv hT h1 hm ho hl h)
theorem At.sW {b:Nat} {l vs:List Value} {t':TypeId} {bs':List Res} (hm:Upd bs (.box b l t') (.box b vs t') bs') (hp:ev L x=some (.pointer (dI b))) (hv:ev L y=some (.agg vs.toArray)) (hT:gQ P T=some vs.length) (h1:∀ u∈vs,u.oneCell'=true) (ho:l.length=vs.length) (h:At dfs n L H w0 bs' (wpList P ops Q rest)) :
 At dfs n L H w0 bs (wpList P ops Q (⟨none,.store T x y,ty,pos,aft,none⟩::rest)):=cons (NR hp hv hT h1 hm ho h)
theorem At.sV {b m:Nat} {l vs:List Value} {t':TypeId} {bs':List Res} (hm:Upd bs (.box b l t') (.box b vs t') bs') (hp:ev L x=some (.pointer (dI b))) (hv:ev L y=some (.agg vs.toArray)) (hT:gQ P T=some m) (hl:vs.length=m) (h1:∀ u∈vs,u.oneCell'=true) (ho:l.length=m) (h:At dfs n L H w0 bs' (wpList P ops Q rest)) :
 At dfs n L H w0 bs (wpList P ops Q (⟨none,.store T x y,ty,pos,aft,none⟩::rest)):=cons (NR hp hv (hl ▸ hT) h1 hm (ho.trans hl.symm) h)
theorem At.bl {ps:List (Nat × Operand)} {pv:List (Nat × Value)} {len:Nat} {e:TypeId} {l:List Value} (hv:evp L ps=some pv) (hb:pG P T len pv=some (e,l)) (ht:Nat.blt t n=true)
 (h:∀ b,At dfs n ((t,.slice (dI b) len len)::L) H w0 (.box b l e::bs) (wpList P ops Q rest)):At dfs n L H w0 bs (wpList P ops Q (⟨some t,.buildSlice T len ps.toArray,ty,pos,aft,none⟩::rest)):=cons (buildSlice hv hb ht h)
theorem At.xt {X:Type} {f:FuncId} {xs:List Operand} {vs:List Value} {ats:Array TypeId} {C:X->Hp->Prop} {val:X->Value} (hv:evs L xs=some vs)
 (hc:∀ W,St H w0 bs W->Calls P f vs.toArray W λe W'=>∃ x H',C x H'/\e=.returned (val x)/\wV H W H' W') 
 (h:∀ x H',C x H'->HUp w0 H H'->At dfs n ((t,val x)::L) H' w0 bs (wpList P ops Q rest)) (hf:kM P f=true:=by kernel_rfl) (ht:Nat.blt t n=true:=by rfl):At dfs n L H w0 bs (wpList P ops Q (⟨some t,.call ⟨.value (.func f),xs.toArray,ats⟩,ty,pos,aft,none⟩::rest)):=cons (bM4 hf hv hc ht h)
theorem At.xs {X:Type} {f:FuncId} {xs:List Operand} {vs:List Value} {ats:Array TypeId} {C:X->Prop} {val:X->Value} {H':X->Hp} {bs':X->List Res} (hv:evs L xs=some vs)
 (hc:∀ W,St H w0 bs W->Calls P f vs.toArray W λe W'=>∃ x,C x/\e=.returned (val x)/\St (H' x) w0 (bs' x) W') 
 (h:∀ x,C x->At dfs n ((t,val x)::L) (H' x) w0 (bs' x) (wpList P ops Q rest)) (hf:kM P f=true:=by kernel_rfl) (ht:Nat.blt t n=true:=by rfl):At dfs n L H w0 bs (wpList P ops Q (⟨some t,.call ⟨.value (.func f),xs.toArray,ats⟩,ty,pos,aft,none⟩::rest)):=cons (aN1 hf hv hc ht h)
theorem At.ap {e:TypeId} {size bytes m c k b off:Nat} {r:Value} {xs news:List Value} {bs':Value->List Res} (hT:tQ P T=some (e,size,bytes)) (hx:ev L x=some r) (hm:∀ r',Upd bs (.row e size r k xs) (.row e size r' (k+m) (xs++news)) (bs' r'))
 (hy:ev L y=some (.slice (some ⟨b,off,none⟩) m c)) (hs:Src H bs b off news) (hl:news.length=m * size) (h1:∀ u∈news,u.oneCell'=true) (h63:k+m<=maxLen) (hb:(k+m) * bytes<=140737488355328) (ht:Nat.blt t n=true)
 (h:∀ r',(r'=.slice none 0 0↔r=.slice none 0 0/\m=0)->At dfs n ((t,r')::L) H w0 (bs' r') (wpList P ops Q rest)):At dfs n L H w0 bs (wpList P ops Q (⟨some t,.call ⟨.builtin .append,#[x,y],#[T,T]⟩,ty,pos,aft,none⟩::rest)):=cons (append hT hx hm hy hs hl h1 h63 hb ht h)
/-! ### Operations in a drawn region -/
theorem St.weakH {H':Hp} {W:World} (u:Up H H') (s:St H' w0 bs W):St H w0 bs W :=
 ⟨s.ext,⟨λb o e=>s.agr b o (u b o e),u.lo ▸ s.agr.lo⟩,λx hx=>⟨(s.own x hx).1,λb e=>by
  cases h:H b with
  | none=>rfl
  | some o=>have:=(s.own x hx).2 b e;rw [u b o h] at this;cases this⟩,s.apart,u.lo ▸ s.lo⟩
variable {N hn:Nat} {pa:List (Nat × Oper × Value)} {E:Sl->Hp->List Res->Prop} {r:List (Nat × Nat × Oper)} {i k:Nat}
theorem oV {t N:Nat} (h:Nat.blt t N=true):∀ s,some t=some s->s<N:=λs e=>by cases e;simpa [rD] using h
theorem dW.yv (hy:Yl P L H w0 bs ⟨some t,op,ty,pos,aft,none⟩ v) (ht:Nat.blt t N=true) (h:dW dfs P ops hn w0 N E r ((i,⟨some t,op,ty,pos,aft,none⟩,v)::pa) ((t,v)::L) H bs):dW dfs P ops hn w0 N E ((i,0,⟨some t,op,ty,pos,aft,none⟩)::r) pa L H bs :=
 ⟨v,λa W f s=>.inl ⟨by simp [Region.wanted],hy a W (λx u e=>f.ev e) s⟩,oV ht,h⟩
theorem dW.m (hx:ev L x=some v) (ht:Nat.blt t N=true) (h:dW dfs P ops hn w0 N E r ((i,⟨some t,.move x,ty,pos,aft,none⟩,v)::pa) ((t,v)::L) H bs):dW dfs P ops hn w0 N E ((i,0,⟨some t,.move x,ty,pos,aft,none⟩)::r) pa L H bs:=.yv (.move hx) ht h
theorem dW.a (hx:ev L x=some v) (ht:Nat.blt t N=true) (h:dW dfs P ops hn w0 N E r ((i,⟨some t,.assign x,ty,pos,aft,none⟩,v)::pa) ((t,v)::L) H bs):dW dfs P ops hn w0 N E ((i,0,⟨some t,.assign x,ty,pos,aft,none⟩)::r) pa L H bs:=.yv (.assign hx) ht h
theorem dW.yg {j:Nat} {b:Bool} {u:Tmp} (hd:(ops[j]?).bind (·.dst)=some u) (hs:look L u=some (.bool b)) (hy:Yl P L H w0 bs ⟨some t,op,ty,pos,aft,some (j,b)⟩ v) (ht:Nat.blt t N=true) (h:dW dfs P ops hn w0 N E r ((i,⟨some t,op,ty,pos,aft,some (j,b)⟩,v)::pa) ((t,v)::L) H bs) :
 dW dfs P ops hn w0 N E ((i,0,⟨some t,op,ty,pos,aft,some (j,b)⟩)::r) pa L H bs :=
 ⟨v,λa W f s=>.inl ⟨by simp [Region.wanted,WF f hd hs],hy a W (λx u e=>f.ev e) s⟩,oV ht,h⟩
theorem dW.gF {j:Nat} {b c:Bool} {u:Tmp} (hd:(ops[j]?).bind (·.dst)=some u) (hs:look L u=some (.bool c)) (hne:(c == b)=false) (ht:Nat.blt t N=true) (h:dW dfs P ops hn w0 N E r ((i,⟨some t,op,ty,pos,aft,some (j,b)⟩,undef)::pa) ((t,undef)::L) H bs) :
 dW dfs P ops hn w0 N E ((i,0,⟨some t,op,ty,pos,aft,some (j,b)⟩)::r) pa L H bs :=
 ⟨undef,λa W f s=>.inr ⟨by simp only [Region.wanted,WF f hd hs];simp;intro e;subst e;simp at hne,Z⟩,oV ht,h⟩
theorem dW.gU {j:Nat} {b:Bool} {u:Tmp} (hd:(ops[j]?).bind (·.dst)=some u) (hs:look L u=some undef) (ht:Nat.blt t N=true) (h:dW dfs P ops hn w0 N E r ((i,⟨some t,op,ty,pos,aft,some (j,b)⟩,undef)::pa) ((t,undef)::L) H bs) :
 dW dfs P ops hn w0 N E ((i,0,⟨some t,op,ty,pos,aft,some (j,b)⟩)::r) pa L H bs :=
 ⟨undef,λa W f s=>.inr ⟨by simp [Region.wanted,KQ f hd hs],Z⟩,oV ht,h⟩
theorem dW.b2 {p:Bool} (h1:p=true->dW dfs P ops hn w0 N E r pa ((t,.bool true)::L) H bs) (h2:p=false->dW dfs P ops hn w0 N E r pa ((t,.bool false)::L) H bs):dW dfs P ops hn w0 N E r pa ((t,.bool p)::L) H bs:=by
 cases p
 ·exact h2 rfl
 ·exact h1 rfl
theorem dW.into {H':Hp} {bs':List Res} (hw:k=1\/(∀ W,St H' w0 bs' W->St H w0 bs W)\/iV dfs P ops hn w0 N L H' bs' i pa) (h:dW dfs P ops hn w0 N E r pa ((t,v)::L) H' bs') :
 At dfs N ((t,v)::L) H' w0 bs' (λa' W'=>∃ v H' bs',Fr dfs N (putL (some t) v L) a'/\St H' w0 bs' W'/\(k=1\/(∀ W,St H' w0 bs' W->St H w0 bs W)\/iV dfs P ops hn w0 N L H' bs' i pa)/\dW dfs P ops hn w0 N E r pa (putL (some t) v L) H' bs'):=λ_ _ f s=>⟨v,H',bs',f,s,hw,h⟩
theorem dW.bx {l:List Value} (hx:ev L x=some v) (hl:v.cells.toList=l) (ht:Nat.blt t N=true) (h:∀ b,dW dfs P ops hn w0 N E r pa ((t,.pointer (dI b))::L) H (.box b l T::bs)):dW dfs P ops hn w0 N E ((i,k+1,⟨some t,.box T x,ty,pos,aft,none⟩)::r) pa L H bs :=
 ⟨oV ht,box hx hl ht λb=>dW.into (.inr<|.inl λ_ s=>s.drop) (h b)⟩
theorem dW.bl {ps:List (Nat × Operand)} {pv:List (Nat × Value)} {len:Nat} {e:TypeId} {l:List Value} (hv:evp L ps=some pv) (hb:pG P T len pv=some (e,l)) (ht:Nat.blt t N=true)
 (h:∀ b,dW dfs P ops hn w0 N E r pa ((t,.slice (dI b) len len)::L) H (.box b l e::bs)):dW dfs P ops hn w0 N E ((i,k+1,⟨some t,.buildSlice T len ps.toArray,ty,pos,aft,none⟩)::r) pa L H bs :=
 ⟨oV ht,buildSlice hv hb ht λb=>dW.into (.inr<|.inl λ_ s=>s.drop) (h b)⟩
theorem dW.xt {X:Type} {f:FuncId} {xs:List Operand} {vs:List Value} {ats:Array TypeId} {C:X->Hp->Prop} {val:X->Value} (hv:evs L xs=some vs)
 (hc:∀ W,St H w0 bs W->Calls P f vs.toArray W λe W'=>∃ x H',C x H'/\e=.returned (val x)/\wV H W H' W') 
 (h:∀ x H',C x H'->HUp w0 H H'->dW dfs P ops hn w0 N E r pa ((t,val x)::L) H' bs) (hf:kM P f=true:=by kernel_rfl) (ht:Nat.blt t N=true:=by rfl):dW dfs P ops hn w0 N E ((i,k+1,⟨some t,.call ⟨.value (.func f),xs.toArray,ats⟩,ty,pos,aft,none⟩)::r) pa L H bs :=
 ⟨oV ht,bM4 hf hv hc ht λx H' hx u=>dW.into (.inr<|.inl λ_ s=>s.weakH u.up) (h x H' hx u)⟩
theorem dW.xs {X:Type} {f:FuncId} {xs:List Operand} {vs:List Value} {ats:Array TypeId} {C:X->Prop} {val:X->Value} {H':X->Hp} {bs':X->List Res} (hv:evs L xs=some vs)
 (hc:∀ W,St H w0 bs W->Calls P f vs.toArray W λe W'=>∃ x,C x/\e=.returned (val x)/\St (H' x) w0 (bs' x) W') 
 (h:∀ x,C x->dW dfs P ops hn w0 N E r pa ((t,val x)::L) (H' x) (bs' x)) (hf:kM P f=true:=by kernel_rfl) (ht:Nat.blt t N=true:=by rfl):dW dfs P ops hn w0 N E ((i,2,⟨some t,.call ⟨.value (.func f),xs.toArray,ats⟩,ty,pos,aft,none⟩)::r) pa L H bs :=
 ⟨oV ht,aN1 hf hv hc ht λx hx=>dW.into (.inl Z) (h x hx)⟩
theorem dW.x3 {X:Type} {f:FuncId} {xs:List Operand} {vs:List Value} {ats:Array TypeId} {C:X->Prop} {val:X->Value} {H':X->Hp} {bs':X->List Res} (hv:evs L xs=some vs)
 (hc:∀ W,St H w0 bs W->Calls P f vs.toArray W λe W'=>∃ x,C x/\e=.returned (val x)/\St (H' x) w0 (bs' x) W') 
 (hr:∀ x,C x->iV dfs P ops hn w0 N L (H' x) (bs' x) i pa) (h:∀ x,C x->dW dfs P ops hn w0 N E r pa ((t,val x)::L) (H' x) (bs' x)) (hf:kM P f=true:=by kernel_rfl) (ht:Nat.blt t N=true:=by rfl):dW dfs P ops hn w0 N E ((i,3,⟨some t,.call ⟨.value (.func f),xs.toArray,ats⟩,ty,pos,aft,none⟩)::r) pa L H bs :=
 ⟨oV ht,aN1 hf hv hc ht λx hx=>dW.into (.inr<|.inr<|hr x hx) (h x hx)⟩
theorem iV.done {H':Hp} {bs':List Res} {j:Nat} {o:Oper} (hr:mW ops hn i j=true) (h:iV dfs P ops hn w0 N L H' bs' i pa):iV dfs P ops hn w0 N L H' bs' i ((j,o,v)::pa):=⟨.inl hr,h⟩
theorem iV.yv {H':Hp} {bs':List Res} {j:Nat} (hy:Yl P L H' w0 bs' ⟨some t,op,ty,pos,aft,none⟩ v) (h:iV dfs P ops hn w0 N L H' bs' i pa):iV dfs P ops hn w0 N L H' bs' i ((j,⟨some t,op,ty,pos,aft,none⟩,v)::pa) :=
 ⟨.inr λa W f s=>.inl ⟨by simp [Region.wanted],hy a W (λx u e=>f.ev e) s⟩,h⟩
theorem iV.nl {H':Hp} {bs':List Res}:iV dfs P ops hn w0 N L H' bs' i []:=trivial
theorem dW.fn {l tl:List Oper} {nn:Nat} (ht:l.drop nn=tl) (h:At dfs N L H w0 bs (wpList P ops Q tl)):dW dfs P ops hn w0 N (λL H bs=>At dfs N L H w0 bs (wpList P ops Q (l.drop nn))) [] pa L H bs:=by
 subst ht;exact h
theorem At.fl {id:Nat} {l:List Oper} {trip:List (Nat × Nat × Oper)} (nn:Nat) (ord:List (Nat × Nat)) (hm:P.follows .mixedOrders=true) (hB:SL l.toArray nn ord=true) (ht:ord.map (λx=>(x.1,x.2,l[x.1]!))=trip)
 (h:dW dfs P l.toArray nn w0 n (λL H bs=>At dfs n L H w0 bs (wpList P l.toArray Q (l.drop nn))) trip [] L H bs):At dfs n L H w0 bs ((Code.region id l.toArray true).wp P Q):=cT3 nn ord hm hB ht h
end
end Go.Sx

namespace Go.Sx
open Go.RowKit Go.Par
section
variable {dfs:List Deferred} {P:Program} {L:Sl} {H H':Hp} {w0:World} {bs bs':List Res} {ty:TypeId} {pos:String} {aft:Array Edge} {t:Tmp} {op:Op} {ops:Array Oper} {N hn i n j:Nat} {pa:List (Nat × Oper × Value)} {E:Sl->Hp->List Res->Prop} {r:List (Nat × Nat × Oper)} {rest:List Oper} {Q:Exit->Act->World->Prop} {o:Oper} {v:Value} {b c:Bool} {u:Tmp}
theorem At.fL {id:Nat} {l:List Oper} (nn:Nat) (ord:List (Nat × Nat)) (h:dW dfs P l.toArray nn w0 n (λL H bs=>At dfs n L H w0 bs (wpList P l.toArray Q (l.drop nn))) (ord.map (λx=>(x.1,x.2,l[x.1]!))) [] L H bs) (hm:P.follows .mixedOrders=true:=by kernel_rfl) (hB:SL l.toArray nn ord=true:=by kernel_rfl):At dfs n L H w0 bs ((Code.region id l.toArray true).wp P Q):=.fl nn ord hm hB rfl h
theorem At.yw (hy:Yl P L H w0 bs ⟨some t,op,ty,pos,aft,none⟩ v) (h:At dfs n ((t,v)::L) H w0 bs (wpList P ops Q rest)) (ht:Nat.blt t n=true:=by rfl):At dfs n L H w0 bs (wpList P ops Q (⟨some t,op,ty,pos,aft,none⟩::rest)):=.yv hy ht h
theorem At.mv {x:Operand} (hx:ev L x=some v) (h:At dfs n ((t,v)::L) H w0 bs (wpList P ops Q rest)) (ht:Nat.blt t n=true:=by rfl):At dfs n L H w0 bs (wpList P ops Q (⟨some t,.move x,ty,pos,aft,none⟩::rest)):=.m hx ht h
theorem dW.yw (hy:Yl P L H w0 bs ⟨some t,op,ty,pos,aft,none⟩ v) (h:dW dfs P ops hn w0 N E r ((i,⟨some t,op,ty,pos,aft,none⟩,v)::pa) ((t,v)::L) H bs) (ht:Nat.blt t N=true:=by rfl):dW dfs P ops hn w0 N E ((i,0,⟨some t,op,ty,pos,aft,none⟩)::r) pa L H bs:=.yv hy ht h
theorem dW.mv {x:Operand} (hx:ev L x=some v) (h:dW dfs P ops hn w0 N E r ((i,⟨some t,.move x,ty,pos,aft,none⟩,v)::pa) ((t,v)::L) H bs) (ht:Nat.blt t N=true:=by rfl):dW dfs P ops hn w0 N E ((i,0,⟨some t,.move x,ty,pos,aft,none⟩)::r) pa L H bs:=.m hx ht h
theorem iV.dn (h:iV dfs P ops hn w0 N L H' bs' i pa) (hr:mW ops hn i j=true:=by kernel_rfl):iV dfs P ops hn w0 N L H' bs' i ((j,o,v)::pa):=.done hr h
theorem At.gG (h:At dfs n ((t,undef)::L) H w0 bs (wpList P ops Q rest)) (hd:(ops[j]?).bind (·.dst)=some u:=by rfl) (hs:look L u=some (.bool c):=by rfl) (hne:(c == b)=false:=by rfl) (ht:Nat.blt t n=true:=by rfl):At dfs n L H w0 bs (wpList P ops Q (⟨some t,op,ty,pos,aft,some (j,b)⟩::rest)):=.gF hd hs hne ht h
theorem At.gV (h:At dfs n ((t,undef)::L) H w0 bs (wpList P ops Q rest)) (hd:(ops[j]?).bind (·.dst)=some u:=by rfl) (hs:look L u=some undef:=by rfl) (ht:Nat.blt t n=true:=by rfl):At dfs n L H w0 bs (wpList P ops Q (⟨some t,op,ty,pos,aft,some (j,b)⟩::rest)):=.gU hd hs ht h
theorem dW.gG (h:dW dfs P ops hn w0 N E r ((i,⟨some t,op,ty,pos,aft,some (j,b)⟩,undef)::pa) ((t,undef)::L) H bs) (hd:(ops[j]?).bind (·.dst)=some u:=by rfl) (hs:look L u=some (.bool c):=by rfl) (hne:(c == b)=false:=by rfl) (ht:Nat.blt t N=true:=by rfl):dW dfs P ops hn w0 N E ((i,0,⟨some t,op,ty,pos,aft,some (j,b)⟩)::r) pa L H bs:=.gF hd hs hne ht h
theorem dW.gV (h:dW dfs P ops hn w0 N E r ((i,⟨some t,op,ty,pos,aft,some (j,b)⟩,undef)::pa) ((t,undef)::L) H bs) (hd:(ops[j]?).bind (·.dst)=some u:=by rfl) (hs:look L u=some undef:=by rfl) (ht:Nat.blt t N=true:=by rfl):dW dfs P ops hn w0 N E ((i,0,⟨some t,op,ty,pos,aft,some (j,b)⟩)::r) pa L H bs:=.gU hd hs ht h
end
section
variable {dfs:List Deferred} {P:Program} {L:Sl} {H H':Hp} {w0:World} {bs bs':List Res} {ty:TypeId} {pos:String} {aft:Array Edge} {t:Tmp} {op:Op} {ops:Array Oper} {N hn i n j:Nat} {pa:List (Nat × Oper × Value)} {E:Sl->Hp->List Res->Prop} {r:List (Nat × Nat × Oper)} {rest:List Oper} {Q:Exit->Act->World->Prop} {o:Oper} {v:Value} {b c:Bool} {u:Tmp}
theorem At.ce {c:Operand} {x y:Code} {p:Prop} {I:Decidable p} (hc:ev L c=some (.bool (@decide p I))) (h1:p->At dfs n L H w0 bs (x.wp P Q)) (h2:¬ p->At dfs n L H w0 bs (y.wp P Q)):At dfs n L H w0 bs ((Code.cond c x y).wp P Q):=.cd hc (λe=>h1 (aI e)) (λe=>h2 (aJ e))
theorem At.e2 {p:Prop} {I:Decidable p} {G:Act->World->Prop} (h1:p->At dfs n ((t,.bool true)::L) H w0 bs G) (h2:¬ p->At dfs n ((t,.bool false)::L) H w0 bs G):At dfs n ((t,.bool (@decide p I))::L) H w0 bs G:=.b2 (λe=>h1 (aI e)) (λe=>h2 (aJ e))
theorem dW.e2 {p:Prop} {I:Decidable p} (h1:p->dW dfs P ops hn w0 N E r pa ((t,.bool true)::L) H bs) (h2:¬ p->dW dfs P ops hn w0 N E r pa ((t,.bool false)::L) H bs):dW dfs P ops hn w0 N E r pa ((t,.bool (@decide p I))::L) H bs:=.b2 (λe=>h1 (aI e)) (λe=>h2 (aJ e))
theorem y9 {n:Nat} {fn:Func} {R:Ending->World->Prop} (hr:fn.results=#[.tmp t]) (hv:look L t=some v) (h:∀ W,St H w0 bs W->R (.returned v) W):At [] n L H w0 bs (bodyPost P fn R .ret):=cF3 (.inl Z) hr (.tmp hv) h
theorem y8 {n:Nat} {fn:Func} {R:Ending->World->Prop} {x:ResultVar} (hr:fn.results=#[x]) (hv:Rv P L bs x v) (h:∀ W,St H w0 bs W->R (.returned v) W):At [] n L H w0 bs (bodyPost P fn R .ret):=cF3 (.inl Z) hr hv h
theorem y7 {n:Nat} {fn:Func} {R:Ending->World->Prop} {rs:List ResultVar} {vs:List Value} (hr:fn.results=rs.toArray) (hv:Rvs P L bs rs vs) (h1:Nat.beq vs.length 1=false) (h:∀ W,St H w0 bs W->R (.returned (.tuple vs.toArray)) W):At [] n L H w0 bs (bodyPost P fn R .ret):=jM (.inl Z) hr hv h1 h
theorem At.fA {x:Operand} {T:TypeId} {k a off o':Nat} (hp:ev L x=some (.pointer (some ⟨a,off,none⟩))) (hF:dU P T k=some o') (h:At dfs n ((t,(.pointer (some ⟨a,off+o',none⟩)))::L) H w0 bs (wpList P ops Q rest)) (ht:Nat.blt t n=true:=by rfl):At dfs n L H w0 bs (wpList P ops Q (⟨some t,.fieldAddr T x k,ty,pos,aft,none⟩::rest)):=.yv (.fieldAddr hp hF) ht h
theorem dW.fA {x:Operand} {T:TypeId} {k a off o':Nat} (hp:ev L x=some (.pointer (some ⟨a,off,none⟩))) (hF:dU P T k=some o') (h:dW dfs P ops hn w0 N E r ((i,⟨some t,.fieldAddr T x k,ty,pos,aft,none⟩,(.pointer (some ⟨a,off+o',none⟩)))::pa) ((t,(.pointer (some ⟨a,off+o',none⟩)))::L) H bs) (ht:Nat.blt t N=true:=by rfl):dW dfs P ops hn w0 N E ((i,0,⟨some t,.fieldAddr T x k,ty,pos,aft,none⟩)::r) pa L H bs:=.yv (.fieldAddr hp hF) ht h
theorem At.lD {x:Operand} {T t':TypeId} {a off:Nat} {l:List Value} (hp:ev L x=some (.pointer (some ⟨a,off,none⟩))) (hT:jI P T=some none) (hm:Res.box a l t'∈bs) (hv:l[off]? = some v) (h:At dfs n ((t,v)::L) H w0 bs (wpList P ops Q rest)) (ht:Nat.blt t n=true:=by rfl):At dfs n L H w0 bs (wpList P ops Q (⟨some t,.load T x,ty,pos,aft,none⟩::rest)):=.yv (.load hp hT hm hv) ht h
theorem dW.lD {x:Operand} {T t':TypeId} {a off:Nat} {l:List Value} (hp:ev L x=some (.pointer (some ⟨a,off,none⟩))) (hT:jI P T=some none) (hm:Res.box a l t'∈bs) (hv:l[off]? = some v) (h:dW dfs P ops hn w0 N E r ((i,⟨some t,.load T x,ty,pos,aft,none⟩,v)::pa) ((t,v)::L) H bs) (ht:Nat.blt t N=true:=by rfl):dW dfs P ops hn w0 N E ((i,0,⟨some t,.load T x,ty,pos,aft,none⟩)::r) pa L H bs:=.yv (.load hp hT hm hv) ht h
theorem At.nC {x:Operand} {p:Addr} (hx:ev L x=some (.pointer (some p))) (h:At dfs n ((t,(.pointer (some p)))::L) H w0 bs (wpList P ops Q rest)) (ht:Nat.blt t n=true:=by rfl):At dfs n L H w0 bs (wpList P ops Q (⟨some t,.nilCheck x,ty,pos,aft,none⟩::rest)):=.yv (.nilCheck hx) ht h
theorem dW.nC {x:Operand} {p:Addr} (hx:ev L x=some (.pointer (some p))) (h:dW dfs P ops hn w0 N E r ((i,⟨some t,.nilCheck x,ty,pos,aft,none⟩,(.pointer (some p)))::pa) ((t,(.pointer (some p)))::L) H bs) (ht:Nat.blt t N=true:=by rfl):dW dfs P ops hn w0 N E ((i,0,⟨some t,.nilCheck x,ty,pos,aft,none⟩)::r) pa L H bs:=.yv (.nilCheck hx) ht h
theorem At.gy (hy:Yl P L H w0 bs ⟨some t,op,ty,pos,aft,none⟩ v) (h:At dfs n ((t,v)::L) H w0 bs (wpList P ops Q rest)) (hd:(ops[j]?).bind (·.dst)=some u:=by rfl) (hs:look L u=some (.bool b):=by rfl) (ht:Nat.blt t n=true:=by rfl):At dfs n L H w0 bs (wpList P ops Q (⟨some t,op,ty,pos,aft,some (j,b)⟩::rest)):=.gd hd hs (.yv hy ht h)
theorem At.sX {x y:Operand} {T t':TypeId} {a:Nat} {l vs:List Value} (hm:Upd bs (.box a l t') (.box a vs t') bs') (hp:ev L x=some (.pointer (dI a))) (hv:ev L y=some (.agg vs.toArray)) (hT:gQ P T=some vs.length) (ho:l.length=vs.length) (h:At dfs n L H w0 bs' (wpList P ops Q rest)) (h1:∀ u∈vs,u.oneCell'=true:=by simp [Value.oneCell',bJ]):At dfs n L H w0 bs (wpList P ops Q (⟨none,.store T x y,ty,pos,aft,none⟩::rest)):=.sW hm hp hv hT h1 ho h
theorem iV.d2 {j0 j1:Nat} {o0 o1:Oper} {v0 v1:Value} (h:iV dfs P ops hn w0 N L H' bs' i pa) (h0:mW ops hn i j0=true:=by kernel_rfl) (h1:mW ops hn i j1=true:=by kernel_rfl):iV dfs P ops hn w0 N L H' bs' i ((j0,o0,v0)::(j1,o1,v1)::pa):=.done h0<|.done h1<|h
theorem iV.d3 {j0 j1 j2:Nat} {o0 o1 o2:Oper} {v0 v1 v2:Value} (h:iV dfs P ops hn w0 N L H' bs' i pa) (h0:mW ops hn i j0=true:=by kernel_rfl) (h1:mW ops hn i j1=true:=by kernel_rfl) (h2:mW ops hn i j2=true:=by kernel_rfl):iV dfs P ops hn w0 N L H' bs' i ((j0,o0,v0)::(j1,o1,v1)::(j2,o2,v2)::pa):=.done h0<|.done h1<|.done h2<|h
theorem iV.d4 {j0 j1 j2 j3:Nat} {o0 o1 o2 o3:Oper} {v0 v1 v2 v3:Value} (h:iV dfs P ops hn w0 N L H' bs' i pa) (h0:mW ops hn i j0=true:=by kernel_rfl) (h1:mW ops hn i j1=true:=by kernel_rfl) (h2:mW ops hn i j2=true:=by kernel_rfl) (h3:mW ops hn i j3=true:=by kernel_rfl):iV dfs P ops hn w0 N L H' bs' i ((j0,o0,v0)::(j1,o1,v1)::(j2,o2,v2)::(j3,o3,v3)::pa):=.done h0<|.done h1<|.done h2<|.done h3<|h
theorem At.pT {c x y:Operand} (hx:ev L x=some v) (h:At dfs n ((t,v)::L) H w0 bs (wpList P ops Q rest)) (hc:ev L c=some (.bool true):=by rfl) (ht:Nat.blt t n=true:=by rfl):At dfs n L H w0 bs (wpList P ops Q (⟨some t,.pick c x y,ty,pos,aft,none⟩::rest)):=.yv (.pickT hc hx) ht h
theorem dW.pT {c x y:Operand} (hx:ev L x=some v) (h:dW dfs P ops hn w0 N E r ((i,⟨some t,.pick c x y,ty,pos,aft,none⟩,v)::pa) ((t,v)::L) H bs) (hc:ev L c=some (.bool true):=by rfl) (ht:Nat.blt t N=true:=by rfl):dW dfs P ops hn w0 N E ((i,0,⟨some t,.pick c x y,ty,pos,aft,none⟩)::r) pa L H bs:=.yv (.pickT hc hx) ht h
theorem At.pF {c x y:Operand} (hx:ev L y=some v) (h:At dfs n ((t,v)::L) H w0 bs (wpList P ops Q rest)) (hc:ev L c=some (.bool false):=by rfl) (ht:Nat.blt t n=true:=by rfl):At dfs n L H w0 bs (wpList P ops Q (⟨some t,.pick c x y,ty,pos,aft,none⟩::rest)):=.yv (.pickF hc hx) ht h
theorem dW.pF {c x y:Operand} (hx:ev L y=some v) (h:dW dfs P ops hn w0 N E r ((i,⟨some t,.pick c x y,ty,pos,aft,none⟩,v)::pa) ((t,v)::L) H bs) (hc:ev L c=some (.bool false):=by rfl) (ht:Nat.blt t N=true:=by rfl):dW dfs P ops hn w0 N E ((i,0,⟨some t,.pick c x y,ty,pos,aft,none⟩)::r) pa L H bs:=.yv (.pickF hc hx) ht h
theorem At.g2 {t0 t1:Tmp} {u0 u1:Tmp} {op0 op1:Op} {ty0 ty1:TypeId} {pos0 pos1:String} {aft0 aft1:Array Edge} {j0 j1:Nat} {b0 b1:Bool} {c0 c1:Bool} (h:At dfs n ((t1,undef)::(t0,undef)::L) H w0 bs (wpList P ops Q rest)) (hd0:(ops[j0]?).bind (·.dst)=some u0:=by rfl) (hs0:look (L) u0=some (.bool c0):=by rfl) (hne0:(c0 == b0)=false:=by rfl) (ht0:Nat.blt t0 n=true:=by rfl) (hd1:(ops[j1]?).bind (·.dst)=some u1:=by rfl) (hs1:look ((t0,undef)::L) u1=some (.bool c1):=by rfl) (hne1:(c1 == b1)=false:=by rfl) (ht1:Nat.blt t1 n=true:=by rfl):At dfs n L H w0 bs (wpList P ops Q (⟨some t0,op0,ty0,pos0,aft0,some (j0,b0)⟩::⟨some t1,op1,ty1,pos1,aft1,some (j1,b1)⟩::rest)):=.gF hd0 hs0 hne0 ht0<|.gF hd1 hs1 hne1 ht1<|h
theorem At.g3 {t0 t1 t2:Tmp} {u0 u1 u2:Tmp} {op0 op1 op2:Op} {ty0 ty1 ty2:TypeId} {pos0 pos1 pos2:String} {aft0 aft1 aft2:Array Edge} {j0 j1 j2:Nat} {b0 b1 b2:Bool} {c0 c1 c2:Bool} (h:At dfs n ((t2,undef)::(t1,undef)::(t0,undef)::L) H w0 bs (wpList P ops Q rest)) (hd0:(ops[j0]?).bind (·.dst)=some u0:=by rfl) (hs0:look (L) u0=some (.bool c0):=by rfl) (hne0:(c0 == b0)=false:=by rfl) (ht0:Nat.blt t0 n=true:=by rfl) (hd1:(ops[j1]?).bind (·.dst)=some u1:=by rfl) (hs1:look ((t0,undef)::L) u1=some (.bool c1):=by rfl) (hne1:(c1 == b1)=false:=by rfl) (ht1:Nat.blt t1 n=true:=by rfl) (hd2:(ops[j2]?).bind (·.dst)=some u2:=by rfl) (hs2:look ((t1,undef)::(t0,undef)::L) u2=some (.bool c2):=by rfl) (hne2:(c2 == b2)=false:=by rfl) (ht2:Nat.blt t2 n=true:=by rfl):At dfs n L H w0 bs (wpList P ops Q (⟨some t0,op0,ty0,pos0,aft0,some (j0,b0)⟩::⟨some t1,op1,ty1,pos1,aft1,some (j1,b1)⟩::⟨some t2,op2,ty2,pos2,aft2,some (j2,b2)⟩::rest)):=.gF hd0 hs0 hne0 ht0<|.gF hd1 hs1 hne1 ht1<|.gF hd2 hs2 hne2 ht2<|h
theorem At.g4 {t0 t1 t2 t3:Tmp} {u0 u1 u2 u3:Tmp} {op0 op1 op2 op3:Op} {ty0 ty1 ty2 ty3:TypeId} {pos0 pos1 pos2 pos3:String} {aft0 aft1 aft2 aft3:Array Edge} {j0 j1 j2 j3:Nat} {b0 b1 b2 b3:Bool} {c0 c1 c2 c3:Bool} (h:At dfs n ((t3,undef)::(t2,undef)::(t1,undef)::(t0,undef)::L) H w0 bs (wpList P ops Q rest)) (hd0:(ops[j0]?).bind (·.dst)=some u0:=by rfl) (hs0:look (L) u0=some (.bool c0):=by rfl) (hne0:(c0 == b0)=false:=by rfl) (ht0:Nat.blt t0 n=true:=by rfl) (hd1:(ops[j1]?).bind (·.dst)=some u1:=by rfl) (hs1:look ((t0,undef)::L) u1=some (.bool c1):=by rfl) (hne1:(c1 == b1)=false:=by rfl) (ht1:Nat.blt t1 n=true:=by rfl) (hd2:(ops[j2]?).bind (·.dst)=some u2:=by rfl) (hs2:look ((t1,undef)::(t0,undef)::L) u2=some (.bool c2):=by rfl) (hne2:(c2 == b2)=false:=by rfl) (ht2:Nat.blt t2 n=true:=by rfl) (hd3:(ops[j3]?).bind (·.dst)=some u3:=by rfl) (hs3:look ((t2,undef)::(t1,undef)::(t0,undef)::L) u3=some (.bool c3):=by rfl) (hne3:(c3 == b3)=false:=by rfl) (ht3:Nat.blt t3 n=true:=by rfl):At dfs n L H w0 bs (wpList P ops Q (⟨some t0,op0,ty0,pos0,aft0,some (j0,b0)⟩::⟨some t1,op1,ty1,pos1,aft1,some (j1,b1)⟩::⟨some t2,op2,ty2,pos2,aft2,some (j2,b2)⟩::⟨some t3,op3,ty3,pos3,aft3,some (j3,b3)⟩::rest)):=.gF hd0 hs0 hne0 ht0<|.gF hd1 hs1 hne1 ht1<|.gF hd2 hs2 hne2 ht2<|.gF hd3 hs3 hne3 ht3<|h
theorem dW.g2 {t0 t1:Tmp} {u0 u1:Tmp} {op0 op1:Op} {ty0 ty1:TypeId} {pos0 pos1:String} {aft0 aft1:Array Edge} {j0 j1:Nat} {b0 b1:Bool} {c0 c1:Bool} {i0 i1:Nat} (h:dW dfs P ops hn w0 N E r ((i1,⟨some t1,op1,ty1,pos1,aft1,some (j1,b1)⟩,undef)::(i0,⟨some t0,op0,ty0,pos0,aft0,some (j0,b0)⟩,undef)::pa) ((t1,undef)::(t0,undef)::L) H bs) (hd0:(ops[j0]?).bind (·.dst)=some u0:=by rfl) (hs0:look (L) u0=some (.bool c0):=by rfl) (hne0:(c0 == b0)=false:=by rfl) (ht0:Nat.blt t0 N=true:=by rfl) (hd1:(ops[j1]?).bind (·.dst)=some u1:=by rfl) (hs1:look ((t0,undef)::L) u1=some (.bool c1):=by rfl) (hne1:(c1 == b1)=false:=by rfl) (ht1:Nat.blt t1 N=true:=by rfl):dW dfs P ops hn w0 N E ((i0,0,⟨some t0,op0,ty0,pos0,aft0,some (j0,b0)⟩)::(i1,0,⟨some t1,op1,ty1,pos1,aft1,some (j1,b1)⟩)::r) pa L H bs:=.gF hd0 hs0 hne0 ht0<|.gF hd1 hs1 hne1 ht1<|h
theorem dW.g3 {t0 t1 t2:Tmp} {u0 u1 u2:Tmp} {op0 op1 op2:Op} {ty0 ty1 ty2:TypeId} {pos0 pos1 pos2:String} {aft0 aft1 aft2:Array Edge} {j0 j1 j2:Nat} {b0 b1 b2:Bool} {c0 c1 c2:Bool} {i0 i1 i2:Nat} (h:dW dfs P ops hn w0 N E r ((i2,⟨some t2,op2,ty2,pos2,aft2,some (j2,b2)⟩,undef)::(i1,⟨some t1,op1,ty1,pos1,aft1,some (j1,b1)⟩,undef)::(i0,⟨some t0,op0,ty0,pos0,aft0,some (j0,b0)⟩,undef)::pa) ((t2,undef)::(t1,undef)::(t0,undef)::L) H bs) (hd0:(ops[j0]?).bind (·.dst)=some u0:=by rfl) (hs0:look (L) u0=some (.bool c0):=by rfl) (hne0:(c0 == b0)=false:=by rfl) (ht0:Nat.blt t0 N=true:=by rfl) (hd1:(ops[j1]?).bind (·.dst)=some u1:=by rfl) (hs1:look ((t0,undef)::L) u1=some (.bool c1):=by rfl) (hne1:(c1 == b1)=false:=by rfl) (ht1:Nat.blt t1 N=true:=by rfl) (hd2:(ops[j2]?).bind (·.dst)=some u2:=by rfl) (hs2:look ((t1,undef)::(t0,undef)::L) u2=some (.bool c2):=by rfl) (hne2:(c2 == b2)=false:=by rfl) (ht2:Nat.blt t2 N=true:=by rfl):dW dfs P ops hn w0 N E ((i0,0,⟨some t0,op0,ty0,pos0,aft0,some (j0,b0)⟩)::(i1,0,⟨some t1,op1,ty1,pos1,aft1,some (j1,b1)⟩)::(i2,0,⟨some t2,op2,ty2,pos2,aft2,some (j2,b2)⟩)::r) pa L H bs:=.gF hd0 hs0 hne0 ht0<|.gF hd1 hs1 hne1 ht1<|.gF hd2 hs2 hne2 ht2<|h
theorem dW.g4 {t0 t1 t2 t3:Tmp} {u0 u1 u2 u3:Tmp} {op0 op1 op2 op3:Op} {ty0 ty1 ty2 ty3:TypeId} {pos0 pos1 pos2 pos3:String} {aft0 aft1 aft2 aft3:Array Edge} {j0 j1 j2 j3:Nat} {b0 b1 b2 b3:Bool} {c0 c1 c2 c3:Bool} {i0 i1 i2 i3:Nat} (h:dW dfs P ops hn w0 N E r ((i3,⟨some t3,op3,ty3,pos3,aft3,some (j3,b3)⟩,undef)::(i2,⟨some t2,op2,ty2,pos2,aft2,some (j2,b2)⟩,undef)::(i1,⟨some t1,op1,ty1,pos1,aft1,some (j1,b1)⟩,undef)::(i0,⟨some t0,op0,ty0,pos0,aft0,some (j0,b0)⟩,undef)::pa) ((t3,undef)::(t2,undef)::(t1,undef)::(t0,undef)::L) H bs) (hd0:(ops[j0]?).bind (·.dst)=some u0:=by rfl) (hs0:look (L) u0=some (.bool c0):=by rfl) (hne0:(c0 == b0)=false:=by rfl) (ht0:Nat.blt t0 N=true:=by rfl) (hd1:(ops[j1]?).bind (·.dst)=some u1:=by rfl) (hs1:look ((t0,undef)::L) u1=some (.bool c1):=by rfl) (hne1:(c1 == b1)=false:=by rfl) (ht1:Nat.blt t1 N=true:=by rfl) (hd2:(ops[j2]?).bind (·.dst)=some u2:=by rfl) (hs2:look ((t1,undef)::(t0,undef)::L) u2=some (.bool c2):=by rfl) (hne2:(c2 == b2)=false:=by rfl) (ht2:Nat.blt t2 N=true:=by rfl) (hd3:(ops[j3]?).bind (·.dst)=some u3:=by rfl) (hs3:look ((t2,undef)::(t1,undef)::(t0,undef)::L) u3=some (.bool c3):=by rfl) (hne3:(c3 == b3)=false:=by rfl) (ht3:Nat.blt t3 N=true:=by rfl):dW dfs P ops hn w0 N E ((i0,0,⟨some t0,op0,ty0,pos0,aft0,some (j0,b0)⟩)::(i1,0,⟨some t1,op1,ty1,pos1,aft1,some (j1,b1)⟩)::(i2,0,⟨some t2,op2,ty2,pos2,aft2,some (j2,b2)⟩)::(i3,0,⟨some t3,op3,ty3,pos3,aft3,some (j3,b3)⟩)::r) pa L H bs:=.gF hd0 hs0 hne0 ht0<|.gF hd1 hs1 hne1 ht1<|.gF hd2 hs2 hne2 ht2<|.gF hd3 hs3 hne3 ht3<|h
theorem yE {n:Nat} {fn:Func} {Q:Ending->Prop} (hr:fn.results=#[.tmp t]) (hv:look L t=some v) (h:Q (.returned v)):At [] n L H w0 bs (bodyPost P fn (λr w'=>Q r/\Ext w0 w') .ret):=cF3 (.inl Z) hr (.tmp hv) λ_ s=>⟨h,s.ext⟩
end
section
variable {dfs:List Deferred} {P:Program} {n:Nat} {L:Sl} {H:Hp} {w0:World} {bs:List Res} {Q:Exit->Act->World->Prop} {ops:Array Oper} {K:Act->World->Prop}
theorem Sub.app {L M N:Sl} (h:Sub L M) (k:Sub L N):Sub L (M++N):=by
 induction M with
 | nil=>exact k
 | cons x r ih=>exact ⟨h.1,ih h.2⟩
def bN4 (P:Program) (T:TypeId):Bool:=match P.underlying T with | some (.array _ e)=>(match jI P e with | some none=>true | _=>false) | _=>false
theorem At.lp {c:Code} {X:Type} (M:Sl) (hM:Sub L M) (R:List Res) (F:X->Sl) (H':X->Hp) (B:X->List Res) (C:X->Prop) (μ:X->Nat) (x0:X) (hB:∀ W,St H w0 bs W->St (H' x0) w0 (B x0++R) W) (h0:Sub L (F x0)) (hC:C x0)
 (round:∀ x,C x->At dfs n (F x++M) (H' x) w0 (B x++R) (c.wp P (Exit.then (λa W=>∃ y,(C y/\μ y<μ x)/\Fr dfs n (F y++M) a/\St (H' y) w0 (B y++R) W) Q))) :
 At dfs n L H w0 bs ((Code.loop c).wp P Q):=loop (λx=>F x++M) H' (λx=>B x++R) C μ x0 hC (h0.app hM) hB round
theorem At.ag {X:Type} {M:Sl} {R:List Res} {F:X->Sl} {H':X->Hp} {B:X->List Res} {C:X->Prop} {μ:X->Nat} {x:X} (y:X) (hL:Sub L (F y)) (hM:Sub L M) (hB:∀ W,St H w0 bs W->St (H' y) w0 (B y++R) W) (hC:C y) (hm:μ y<μ x) :
 At dfs n L H w0 bs (λa W=>∃ y,(C y/\μ y<μ x)/\Fr dfs n (F y++M) a/\St (H' y) w0 (B y++R) W):=λ_ W f s=>⟨y,⟨hC,hm⟩,f.sub (hL.app hM),hB W s⟩
theorem At.cu {X:Type} {x y:Code} (M:Sl) (hM:Sub L M) (F:X->Sl) (H':X->Hp) (B:X->List Res) (C:X->Prop) (h:At dfs n L H w0 bs (x.wp P (Exit.then (λa W=>∃ z,C z/\Fr dfs n (F z++M) a/\St (H' z) w0 (B z) W) Q)))
 (k:∀ z,C z->At dfs n (F z++M) (H' z) w0 (B z) (y.wp P Q)):At dfs n L H w0 bs ((Code.seq x y).wp P Q):=cT8 (λz=>F z++M) H' B C h k
theorem At.me {X:Type} {M:Sl} {F:X->Sl} {H':X->Hp} {B:X->List Res} {C:X->Prop} (z:X) (hL:Sub L (F z)) (hM:Sub L M) (hB:∀ W,St H w0 bs W->St (H' z) w0 (B z) W) (hC:C z) :
 At dfs n L H w0 bs (λa W=>∃ z,C z/\Fr dfs n (F z++M) a/\St (H' z) w0 (B z) W):=λ_ W f s=>⟨z,hC,f.sub (hL.app hM),hB W s⟩
def kV:List Nat->Bool
 | []=>true
 | i::r=>!r.contains i && kV r
theorem KX {l:List Res} (h:l.Pairwise Res.apart):∀ {i j:Nat} {x y:Res},l[i]? = some x->l[j]? = some y->i≠j->x.apart y:=by
 induction l with
 | nil=>intro i j x y hx;simp at hx
 | cons a r ih =>
  rw [jQ] at h;intro i j x y hx hy hne;cases i with
  | zero =>
   cases j with
   | zero=>exact absurd rfl hne
   | succ j=>simp at hx hy;subst hx;exact h.1 y (Al_List_mem_of_getElem? hy)
  | succ i =>
   cases j with
   | zero=>simp at hx hy;subst hy;exact (h.1 x (Al_List_mem_of_getElem? hx)).symm
   | succ j=>simp at hx hy;exact ih h.2 hx hy aD
theorem St.pick {W:World} (s:St H w0 bs W):∀ (ix:List Nat) (bs':List Res),kV ix=true->ix.map (λi=>bs[i]?)=bs'.map some->St H w0 bs' W:=by
 intro ix bs' hn hm
 have key:∀ (ix:List Nat) (bs':List Res),kV ix=true->ix.map (λi=>bs[i]?)=bs'.map some->(∀ x∈bs',∃ i∈ix,bs[i]? = some x)/\bs'.Pairwise Res.apart:=by
  intro ix;induction ix with
  | nil =>
   intro bs' _ hm;cases bs' with
   | nil=>exact ⟨λx hx=>(by cases hx),.nil⟩
   | cons a r=>simp at hm
  | cons i r ih =>
   intro bs' hn hm;cases bs' with
   | nil=>simp at hm
   | cons a q =>
    simp only [eP,bV] at hm;simp only [kV,aE,eT] at hn;obtain ⟨h1,h2⟩:=ih q hn.2 hm.2;refine ⟨λx hx=>?_,.cons (λy hy=>?_) h2⟩
    ·rcases bM.1 hx with rfl | hx
     ·exact ⟨i,.head _,hm.1⟩
     ·obtain ⟨j,hj,e⟩:=h1 x hx;exact ⟨j,.tail _ hj,e⟩
    ·obtain ⟨j,hj,e⟩:=h1 y hy;refine KX s.apart hm.1 e λh=>?_;subst h;have:=hn.1;simp [hj] at this
 obtain ⟨h1,h2⟩:=key ix bs' hn hm;exact ⟨s.ext,s.agr,λx hx=>by obtain ⟨i,_,e⟩:=h1 x hx;exact s.own x (Al_List_mem_of_getElem? e),h2,s.lo⟩
theorem At.pm {G:Act->World->Prop} (ix:List Nat) (bs':List Res) (hn:kV ix=true) (hm:ix.map (λi=>bs[i]?)=bs'.map some) (h:At dfs n L H w0 bs' G):At dfs n L H w0 bs G:=λa W f s=>h a W f (s.pick ix bs' hn hm)
theorem At.ra {e:TypeId} {size k:Nat} {r:Value} {xs:List Value} {G:Act->World->Prop} (hm:Res.row e size r k xs∈bs) (h:∀ p c,r=.slice p k c->At dfs n L H w0 bs G):At dfs n L H w0 bs G:=λa W f s=>by
 have ho:W.ownsRow w0.heap.size e size r k xs:=(s.own _ hm).1;rcases ho.2 with ⟨hr,h0⟩ | ⟨g,cap,cur,hr,_⟩
 ·exact h none 0 (by rw [hr,h0]) a W f s
 ·exact h _ cap hr a W f s
theorem w64 {i:Int} (h1:-9223372036854775808<=i) (h2:i<=9223372036854775807):IntKind.i64.wrap i=i:=by
 simp only [IntKind.wrap,IntKind.signed,IntKind.bits];simp;omega
variable {d:Option Tmp} {ty:TypeId} {pos:String} {aft:Array Edge} {g:Option (Nat × Bool)} {v:Value} {t:Tmp} {op:Op} {x y z:Operand} {T T':TypeId}
theorem cL6 (l:List UInt8) (j:Nat):(⟨l.toArray⟩:ByteArray)[j]? = l[j]? := by
 by_cases h:j<l.length
 ·have h1:j<(⟨l.toArray⟩:ByteArray).size:=by simpa [ByteArray.size] using h
  rw [getElem?_def,yY h1,List.getElem?_eq_getElem h]
  rfl
 ·have h1:¬ j<(⟨l.toArray⟩:ByteArray).size:=by simpa [ByteArray.size] using h
  rw [getElem?_def,qH h1];simp only [Nat.not_lt] at h;rw [List.getElem?_eq_none h]
theorem Yl.idxS {l:List UInt8} {k:IntKind} {i:Int} {j:Nat} {b:UInt8} (hT:AM P T=true) (hx:ev L x=some (.string ⟨l.toArray⟩)) (hy:ev L y=some (.int k i)) (e:i=(j:Int)) (h:l[j]? = some b) :
 Yl P L H w0 bs ⟨d,.index T x y,ty,pos,aft,g⟩ (CH b):=.of_run λa W f _=>by
 subst e;have hu:=yK hT;have h2:(⟨l.toArray⟩:ByteArray)[j]? = some b:=(cL6 l j).trans h;unfold execOp;simp [f x _ hx,f y _ hy,Instr.index,underlying,program,Sem.run,Result.andThen,hu,asIntOf,h2,CH]
theorem Yl.idxA {cs:List Value} {k:IntKind} {i:Int} {j len:Nat} (hT:QQ P T=some (len,1)) (hA:bN4 P T=true) (hx:ev L x=some (.agg cs.toArray)) (hy:ev L y=some (.int k i)) (e:i=(j:Int)) (hj:j<len) (h:cs[j]? = some v) :
 Yl P L H w0 bs ⟨d,.index T x y,ty,pos,aft,g⟩ v:=.of_run λa W f _=>by
 subst e;obtain ⟨el,hu,hz⟩:=aT8 hT
 have hE:jI P el=some none:=by
  unfold bN4 at hA;rw [hu] at hA;dsimp only at hA;cases hq:jI P el with
  | none=>rw [hq] at hA;cases hA
  | some q=>rw [hq] at hA;cases q <;> first | rfl | cases hA
 have h4:(Instr.index T (.agg cs.toArray) (.int k (j:Int))).run P W=.ok v W:=by
  simp [Instr.index,run_underlying hu,asIntOf,hj,go_sem,nB hz,uJ hE,h]
 unfold execOp;simp only [f x _ hx,f y _ hy,Sem.run_bind,h4,Result.andThen,Sem.run_pure]
theorem DL (l:List UInt8) (a b:Nat):(⟨l.toArray⟩:ByteArray).extract a b=⟨((l.take b).drop a).toArray⟩:=by
 apply sG;apply sO.1;rw [Lib.extract_data];simp [vE]
theorem Yl.takeS {l:List UInt8} {k':IntKind} {j:Int} {hi:Nat} (hT:AM P T=true) (hx:ev L x=some (.string ⟨l.toArray⟩)) (hz:ev L z=some (.int k' j)) (e2:j=(hi:Int)) (h2:hi<=l.length) :
 Yl P L H w0 bs ⟨d,.slice T x none (some z) none,ty,pos,aft,g⟩ (.string ⟨(l.take hi).toArray⟩) :=
 (Yl.cutStrHi hT hx hz e2 (by simpa [ByteArray.size] using h2)).cast (by rw [DL,oQ])
theorem Yl.dropS {l:List UInt8} {k:IntKind} {i:Int} {lo:Nat} (hT:AM P T=true) (hx:ev L x=some (.string ⟨l.toArray⟩)) (hy:ev L y=some (.int k i)) (e1:i=(lo:Int)) (h1:lo<=l.length) :
 Yl P L H w0 bs ⟨d,.slice T x (some y) none none,ty,pos,aft,g⟩ (.string ⟨(l.drop lo).toArray⟩):=.of_run λa W f _=>by
 subst e1;have hu:=yK hT;have h2:lo<=(⟨l.toArray⟩:ByteArray).size:=by simpa [ByteArray.size] using h1
 have h3:(⟨l.toArray⟩:ByteArray).extract lo (⟨l.toArray⟩:ByteArray).size=⟨(l.drop lo).toArray⟩:=by
  rw [DL]
  congr 2
  rw [fX (by simp [ByteArray.size])]
 unfold execOp;simp [f x _ hx,f y _ hy,Instr.sliceAt,Instr.slice,underlying,program,Sem.run,Result.andThen,hu,Instr.sliceBounds,Instr.sliceBound,asIntOf,h2,h3]
theorem Yl.midS {l:List UInt8} {k k':IntKind} {i j:Int} {lo hi:Nat} (hT:AM P T=true) (hx:ev L x=some (.string ⟨l.toArray⟩)) (hy:ev L y=some (.int k i)) (hz:ev L z=some (.int k' j)) (e1:i=(lo:Int)) (e2:j=(hi:Int)) (h1:lo<=hi) (h2:hi<=l.length) :
 Yl P L H w0 bs ⟨d,.slice T x (some y) (some z) none,ty,pos,aft,g⟩ (.string ⟨((l.take hi).drop lo).toArray⟩) :=
 (Yl.cutStr hT hx hy hz e1 e2 h1 (by simpa [ByteArray.size] using h2)).cast (by rw [DL])
theorem bR7 (a b:List UInt8):(⟨a.toArray⟩:ByteArray)++⟨b.toArray⟩=⟨(a++b).toArray⟩:=by
 apply sG;rw [ByteArray.data_append];simp
theorem NQ (a:List UInt8):(⟨a.toArray⟩:ByteArray).size=a.length:=by simp [ByteArray.size]
theorem aJ6 {a b:List UInt8}:((⟨a.toArray⟩:ByteArray)=⟨b.toArray⟩)↔a=b:=by
 constructor
 ·intro h;have:=congrArg (λs:ByteArray=>s.data.toList) h;simpa using this
 ·intro h;rw [h]
theorem Yl.app {a b:List UInt8} (hx:ev L x=some (.string ⟨a.toArray⟩)) (hy:ev L y=some (.string ⟨b.toArray⟩)) (hs:a.length+b.length<=9223372036854775807):Yl P L H w0 bs ⟨d,.binOp .add T x y T',ty,pos,aft,g⟩ (.string ⟨(a++b).toArray⟩) :=
 .addS hx hy (by rw [NQ,NQ];exact hs) (bR7 a b)
theorem Yl.eqS {a b:List UInt8} (hx:ev L x=some (.string ⟨a.toArray⟩)) (hy:ev L y=some (.string ⟨b.toArray⟩)):Yl P L H w0 bs ⟨d,.binOp .eql T x y T',ty,pos,aft,g⟩ (.bool (decide (a=b))) :=
 (Yl.eqlS hx hy).cast (by congr 1;rw [decide_eq_decide];exact aJ6)
theorem Yl.neS {a b:List UInt8} (hx:ev L x=some (.string ⟨a.toArray⟩)) (hy:ev L y=some (.string ⟨b.toArray⟩)):Yl P L H w0 bs ⟨d,.binOp .neq T x y T',ty,pos,aft,g⟩ (.bool (decide (¬ a=b))) :=
 (Yl.neqS hx hy).cast (by congr 1;rw [decide_eq_decide];exact not_congr aJ6)
theorem Yl.lenS {a:List UInt8} (hT:AM P T=true) (hp:ev L x=some (.string ⟨a.toArray⟩)):Yl P L H w0 bs ⟨d,.call ⟨.builtin .len,#[x],#[T]⟩,ty,pos,aft,g⟩ (iN a.length) :=
 (Yl.lenStr hT hp).cast (by rw [NQ])
theorem xE {p q:Bool} (h:p=true↔q=true):Ending.returned (.bool p)=.returned (.bool q):=by rw [aQ.2 h]
end
end Go.Sx
namespace Go.Sx
open Go.RowKit Go.Par MapKept
section
variable {dfs:List Deferred} {P:Program} {n:Nat} {L:Sl} {H:Hp} {w0:World} {bs:List Res} {Q:Exit->Act->World->Prop} {ops:Array Oper} {rest:List Oper} {K:Act->World->Prop}
variable {d:Option Tmp} {ty:TypeId} {pos:String} {aft:Array Edge} {g:Option (Nat × Bool)} {v:Value} {t:Tmp} {op:Op} {x y z:Operand} {T T':TypeId}
end
end Go.Sx
/- Pointers, strings appended to bytes, and unsafe strings: what a strings.Builder inside an own box meets. -/
namespace Go.Sx
open Go.RowKit Go.Par
section
variable {dfs:List Deferred} {P:Program} {n:Nat} {L:Sl} {H:Hp} {w0:World} {bs:List Res} {Q:Exit->Act->World->Prop} {ops:Array Oper} {rest:List Oper} {K:Act->World->Prop}
variable {d:Option Tmp} {ty:TypeId} {pos:String} {aft:Array Edge} {g:Option (Nat × Bool)} {v:Value} {t:Tmp} {op:Op} {x y z:Operand} {T T':TypeId}
theorem St.pickT {W:World} {hd tl hd':List Res} (s:St H w0 (hd++tl) W) (ix:List Nat) (hn:kV ix=true) (hm:ix.map (λi=>hd[i]?)=hd'.map some):St H w0 (hd'++tl) W:=by
 have hlt:∀ i x,hd[i]? = some x->(hd++tl)[i]? = some x:=λi x e=>by
  rw [List.getElem?_append_left (List.getElem?_eq_some_iff.1 e).1];exact e
 have key:∀ (ix:List Nat) (hd':List Res),kV ix=true->ix.map (λi=>hd[i]?)=hd'.map some->(∀ x∈hd',∃ i∈ix,hd[i]? = some x)/\(hd'++tl).Pairwise Res.apart:=by
  intro ix;induction ix with
  | nil =>
   intro hd' _ hm;cases hd' with
   | nil=>exact ⟨λx hx=>(by cases hx),(mH.1 s.apart).2.1⟩
   | cons a r=>simp at hm
  | cons i r ih =>
   intro hd' hn hm;cases hd' with
   | nil=>simp at hm
   | cons a q =>
    simp only [eP,bV] at hm;simp only [kV,aE,eT] at hn;obtain ⟨h1,h2⟩:=ih q hn.2 hm.2;refine ⟨λx hx=>?_,?_⟩
    ·rcases bM.1 hx with rfl | hx
     ·exact ⟨i,.head _,hm.1⟩
     ·obtain ⟨j,hj,e⟩:=h1 x hx;exact ⟨j,.tail _ hj,e⟩
    ·rw [bY,jQ];refine ⟨λy hy=>?_,h2⟩;rcases cJ.1 hy with hy | hy
     ·obtain ⟨j,hj,e⟩:=h1 y hy;refine KX s.apart (hlt _ _ hm.1) (hlt _ _ e) λh=>?_;subst h;have:=hn.1;simp [hj] at this
     ·exact (mH.1 s.apart).2.2 a (Al_List_mem_of_getElem? hm.1) y hy
 obtain ⟨h1,h2⟩:=key ix hd' hn hm;refine ⟨s.ext,s.agr,λx hx=>?_,h2,s.lo⟩;rcases cJ.1 hx with hx | hx
 ·obtain ⟨i,_,e⟩:=h1 x hx;exact s.own x (kE _ (Al_List_mem_of_getElem? e))
 ·exact s.own x (pC _ hx)
theorem At.pt {G:Act->World->Prop} {hd tl hd':List Res} (ix:List Nat) (hn:kV ix=true) (hm:ix.map (λi=>hd[i]?)=hd'.map some) (h:At dfs n L H w0 (hd'++tl) G):At dfs n L H w0 (hd++tl) G:=λa W f s=>h a W f (s.pickT ix hn hm)
end
theorem dt {p:Prop} [Decidable p]:(decide p=true)=p:=aB
theorem df {p:Prop} [Decidable p]:(decide p=false)=¬ p:=propext eE
variable {b:Nat}
theorem nb {a:Nat} (h:Nat.ble a b=true):a<=b:=lO h
variable {l:List Value}
theorem z0:∀ (j:Nat) u,l[j]? = some u->l[0+j]? = some u:=λj u h=>by rw [dO];exact h
theorem w6 {i:Int} (h:-9223372036854775808<=i/\i<=9223372036854775807):IntKind.i64.wrap i=i:=w64 h.1 h.2
section
variable {dfs:List Deferred} {P:Program} {n:Nat} {L:Sl} {H:Hp} {w0:World} {bs:List Res} {Q:Exit->Act->World->Prop} {ops:Array Oper}
theorem At.nt {K:Act->World->Prop} (h:At dfs n L H w0 bs K):At dfs n L H w0 bs (wpList P ops (Exit.then K Q) []):=.nl (.tN h)
theorem At.sr {id:Nat} {l:List Oper} {y:Code} (h:At dfs n L H w0 bs (wpList P l.toArray (Exit.then (y.wp P Q) Q) l)):At dfs n L H w0 bs ((Code.seq (Code.region id l.toArray false) y).wp P Q):=.sq (.rg h)
theorem At.ns {Q':Exit->Act->World->Prop} {id:Nat} {l:List Oper} {y:Code} (h:At dfs n L H w0 bs (wpList P l.toArray (Exit.then (y.wp P Q') Q') l)):At dfs n L H w0 bs (wpList P ops (Exit.then ((Code.seq (Code.region id l.toArray false) y).wp P Q') Q) []):=.nl (.tN (.sq (.rg h)))
end
end Go.Sx

namespace Go.Sx
open Go.RowKit Go.Par
section
variable {dfs:List Deferred} {P:Program} {L:Sl} {H H':Hp} {w0:World} {bs bs':List Res} {ty:TypeId} {pos:String} {aft:Array Edge} {t:Tmp} {op:Op} {ops:Array Oper} {N hn i n j:Nat} {pa:List (Nat × Oper × Value)} {E:Sl->Hp->List Res->Prop} {r:List (Nat × Nat × Oper)} {rest:List Oper} {Q:Exit->Act->World->Prop} {o:Oper} {v:Value} {b c:Bool} {u:Tmp}
theorem St.p1_1 {H:Hp} {w0 W:World} {a0 b0:Res} {tl:List Res} (s:St H w0 (a0::tl) W) (ix:List Nat) (hm:ix.map (λi=>([a0]:List Res)[i]?)=[some b0]) (hn:kV ix=true:=by rfl):St H w0 (b0::tl) W:=s.pickT (hd:=[a0]) (hd':=[b0]) ix hn hm
theorem St.p2_1 {H:Hp} {w0 W:World} {a0 a1 b0:Res} {tl:List Res} (s:St H w0 (a0::a1::tl) W) (ix:List Nat) (hm:ix.map (λi=>([a0,a1]:List Res)[i]?)=[some b0]) (hn:kV ix=true:=by rfl):St H w0 (b0::tl) W:=s.pickT (hd:=[a0,a1]) (hd':=[b0]) ix hn hm
theorem St.p2_2 {H:Hp} {w0 W:World} {a0 a1 b0 b1:Res} {tl:List Res} (s:St H w0 (a0::a1::tl) W) (ix:List Nat) (hm:ix.map (λi=>([a0,a1]:List Res)[i]?)=[some b0,some b1]) (hn:kV ix=true:=by rfl):St H w0 (b0::b1::tl) W:=s.pickT (hd:=[a0,a1]) (hd':=[b0,b1]) ix hn hm
theorem St.p3_1 {H:Hp} {w0 W:World} {a0 a1 a2 b0:Res} {tl:List Res} (s:St H w0 (a0::a1::a2::tl) W) (ix:List Nat) (hm:ix.map (λi=>([a0,a1,a2]:List Res)[i]?)=[some b0]) (hn:kV ix=true:=by rfl):St H w0 (b0::tl) W:=s.pickT (hd:=[a0,a1,a2]) (hd':=[b0]) ix hn hm
theorem St.p3_2 {H:Hp} {w0 W:World} {a0 a1 a2 b0 b1:Res} {tl:List Res} (s:St H w0 (a0::a1::a2::tl) W) (ix:List Nat) (hm:ix.map (λi=>([a0,a1,a2]:List Res)[i]?)=[some b0,some b1]) (hn:kV ix=true:=by rfl):St H w0 (b0::b1::tl) W:=s.pickT (hd:=[a0,a1,a2]) (hd':=[b0,b1]) ix hn hm
theorem St.p3_3 {H:Hp} {w0 W:World} {a0 a1 a2 b0 b1 b2:Res} {tl:List Res} (s:St H w0 (a0::a1::a2::tl) W) (ix:List Nat) (hm:ix.map (λi=>([a0,a1,a2]:List Res)[i]?)=[some b0,some b1,some b2]) (hn:kV ix=true:=by rfl):St H w0 (b0::b1::b2::tl) W:=s.pickT (hd:=[a0,a1,a2]) (hd':=[b0,b1,b2]) ix hn hm
theorem St.p4_1 {H:Hp} {w0 W:World} {a0 a1 a2 a3 b0:Res} {tl:List Res} (s:St H w0 (a0::a1::a2::a3::tl) W) (ix:List Nat) (hm:ix.map (λi=>([a0,a1,a2,a3]:List Res)[i]?)=[some b0]) (hn:kV ix=true:=by rfl):St H w0 (b0::tl) W:=s.pickT (hd:=[a0,a1,a2,a3]) (hd':=[b0]) ix hn hm
theorem St.p4_2 {H:Hp} {w0 W:World} {a0 a1 a2 a3 b0 b1:Res} {tl:List Res} (s:St H w0 (a0::a1::a2::a3::tl) W) (ix:List Nat) (hm:ix.map (λi=>([a0,a1,a2,a3]:List Res)[i]?)=[some b0,some b1]) (hn:kV ix=true:=by rfl):St H w0 (b0::b1::tl) W:=s.pickT (hd:=[a0,a1,a2,a3]) (hd':=[b0,b1]) ix hn hm
theorem St.p4_3 {H:Hp} {w0 W:World} {a0 a1 a2 a3 b0 b1 b2:Res} {tl:List Res} (s:St H w0 (a0::a1::a2::a3::tl) W) (ix:List Nat) (hm:ix.map (λi=>([a0,a1,a2,a3]:List Res)[i]?)=[some b0,some b1,some b2]) (hn:kV ix=true:=by rfl):St H w0 (b0::b1::b2::tl) W:=s.pickT (hd:=[a0,a1,a2,a3]) (hd':=[b0,b1,b2]) ix hn hm
theorem St.p4_4 {H:Hp} {w0 W:World} {a0 a1 a2 a3 b0 b1 b2 b3:Res} {tl:List Res} (s:St H w0 (a0::a1::a2::a3::tl) W) (ix:List Nat) (hm:ix.map (λi=>([a0,a1,a2,a3]:List Res)[i]?)=[some b0,some b1,some b2,some b3]) (hn:kV ix=true:=by rfl):St H w0 (b0::b1::b2::b3::tl) W:=s.pickT (hd:=[a0,a1,a2,a3]) (hd':=[b0,b1,b2,b3]) ix hn hm
theorem St.p5_1 {H:Hp} {w0 W:World} {a0 a1 a2 a3 a4 b0:Res} {tl:List Res} (s:St H w0 (a0::a1::a2::a3::a4::tl) W) (ix:List Nat) (hm:ix.map (λi=>([a0,a1,a2,a3,a4]:List Res)[i]?)=[some b0]) (hn:kV ix=true:=by rfl):St H w0 (b0::tl) W:=s.pickT (hd:=[a0,a1,a2,a3,a4]) (hd':=[b0]) ix hn hm
theorem St.p5_3 {H:Hp} {w0 W:World} {a0 a1 a2 a3 a4 b0 b1 b2:Res} {tl:List Res} (s:St H w0 (a0::a1::a2::a3::a4::tl) W) (ix:List Nat) (hm:ix.map (λi=>([a0,a1,a2,a3,a4]:List Res)[i]?)=[some b0,some b1,some b2]) (hn:kV ix=true:=by rfl):St H w0 (b0::b1::b2::tl) W:=s.pickT (hd:=[a0,a1,a2,a3,a4]) (hd':=[b0,b1,b2]) ix hn hm
theorem St.p5_4 {H:Hp} {w0 W:World} {a0 a1 a2 a3 a4 b0 b1 b2 b3:Res} {tl:List Res} (s:St H w0 (a0::a1::a2::a3::a4::tl) W) (ix:List Nat) (hm:ix.map (λi=>([a0,a1,a2,a3,a4]:List Res)[i]?)=[some b0,some b1,some b2,some b3]) (hn:kV ix=true:=by rfl):St H w0 (b0::b1::b2::b3::tl) W:=s.pickT (hd:=[a0,a1,a2,a3,a4]) (hd':=[b0,b1,b2,b3]) ix hn hm
theorem St.p5_5 {H:Hp} {w0 W:World} {a0 a1 a2 a3 a4 b0 b1 b2 b3 b4:Res} {tl:List Res} (s:St H w0 (a0::a1::a2::a3::a4::tl) W) (ix:List Nat) (hm:ix.map (λi=>([a0,a1,a2,a3,a4]:List Res)[i]?)=[some b0,some b1,some b2,some b3,some b4]) (hn:kV ix=true:=by rfl):St H w0 (b0::b1::b2::b3::b4::tl) W:=s.pickT (hd:=[a0,a1,a2,a3,a4]) (hd':=[b0,b1,b2,b3,b4]) ix hn hm
theorem St.p6_3 {H:Hp} {w0 W:World} {a0 a1 a2 a3 a4 a5 b0 b1 b2:Res} {tl:List Res} (s:St H w0 (a0::a1::a2::a3::a4::a5::tl) W) (ix:List Nat) (hm:ix.map (λi=>([a0,a1,a2,a3,a4,a5]:List Res)[i]?)=[some b0,some b1,some b2]) (hn:kV ix=true:=by rfl):St H w0 (b0::b1::b2::tl) W:=s.pickT (hd:=[a0,a1,a2,a3,a4,a5]) (hd':=[b0,b1,b2]) ix hn hm
theorem St.p6_6 {H:Hp} {w0 W:World} {a0 a1 a2 a3 a4 a5 b0 b1 b2 b3 b4 b5:Res} {tl:List Res} (s:St H w0 (a0::a1::a2::a3::a4::a5::tl) W) (ix:List Nat) (hm:ix.map (λi=>([a0,a1,a2,a3,a4,a5]:List Res)[i]?)=[some b0,some b1,some b2,some b3,some b4,some b5]) (hn:kV ix=true:=by rfl):St H w0 (b0::b1::b2::b3::b4::b5::tl) W:=s.pickT (hd:=[a0,a1,a2,a3,a4,a5]) (hd':=[b0,b1,b2,b3,b4,b5]) ix hn hm
theorem St.p7_3 {H:Hp} {w0 W:World} {a0 a1 a2 a3 a4 a5 a6 b0 b1 b2:Res} {tl:List Res} (s:St H w0 (a0::a1::a2::a3::a4::a5::a6::tl) W) (ix:List Nat) (hm:ix.map (λi=>([a0,a1,a2,a3,a4,a5,a6]:List Res)[i]?)=[some b0,some b1,some b2]) (hn:kV ix=true:=by rfl):St H w0 (b0::b1::b2::tl) W:=s.pickT (hd:=[a0,a1,a2,a3,a4,a5,a6]) (hd':=[b0,b1,b2]) ix hn hm
theorem St.p7_6 {H:Hp} {w0 W:World} {a0 a1 a2 a3 a4 a5 a6 b0 b1 b2 b3 b4 b5:Res} {tl:List Res} (s:St H w0 (a0::a1::a2::a3::a4::a5::a6::tl) W) (ix:List Nat) (hm:ix.map (λi=>([a0,a1,a2,a3,a4,a5,a6]:List Res)[i]?)=[some b0,some b1,some b2,some b3,some b4,some b5]) (hn:kV ix=true:=by rfl):St H w0 (b0::b1::b2::b3::b4::b5::tl) W:=s.pickT (hd:=[a0,a1,a2,a3,a4,a5,a6]) (hd':=[b0,b1,b2,b3,b4,b5]) ix hn hm
theorem St.p7_7 {H:Hp} {w0 W:World} {a0 a1 a2 a3 a4 a5 a6 b0 b1 b2 b3 b4 b5 b6:Res} {tl:List Res} (s:St H w0 (a0::a1::a2::a3::a4::a5::a6::tl) W) (ix:List Nat) (hm:ix.map (λi=>([a0,a1,a2,a3,a4,a5,a6]:List Res)[i]?)=[some b0,some b1,some b2,some b3,some b4,some b5,some b6]) (hn:kV ix=true:=by rfl):St H w0 (b0::b1::b2::b3::b4::b5::b6::tl) W:=s.pickT (hd:=[a0,a1,a2,a3,a4,a5,a6]) (hd':=[b0,b1,b2,b3,b4,b5,b6]) ix hn hm
theorem At.aq {x:Operand} {K:Act->World->Prop} (hx:ev L x=some v) (h:At dfs n ((t,v)::L) H w0 bs K) (ht:Nat.blt t n=true:=by rfl):At dfs n L H w0 bs (wpList P ops (Exit.then K Q) [⟨some t,.assign x,ty,pos,aft,none⟩]):=.a hx ht (.nt h)
theorem At.sm {x:Operand} {id:Nat} {l:List Oper} {y:Code} (hx:ev L x=some v) (h:At dfs n ((t,v)::L) H w0 bs (wpList P (⟨some t,.move x,ty,pos,aft,none⟩::l).toArray (Exit.then (y.wp P Q) Q) l)) (ht:Nat.blt t n=true:=by rfl):At dfs n L H w0 bs ((Code.seq (Code.region id (⟨some t,.move x,ty,pos,aft,none⟩::l).toArray false) y).wp P Q):=.sr (.m hx ht h)
theorem w7 {i:Int} (h:-9223372036854775808<=i/\i<=9223372036854775807:=by omega):IntKind.i64.wrap i=i:=w6 h
theorem y6 {P:Program} {n:Nat} {f:FuncId} {fn:Func} {c:Code} {args:List Value} {w:World} {R:Ending->World->Prop} (hf:P.funcs[f]? = some fn) (hb:fn.body=some c) (hn:fn.ntmps=n) (hl:Nat.ble args.length n=true) (h:At [] n (KS 0 args) (⟨λ_=>none,0⟩:Hp) w [] (c.wp P (bodyPost P fn R))):Calls P f args.toArray w R:=enter hf hb hn hl ⟨λ_ _ e=>(by cases e),aN _⟩ h
theorem At.zR {id:Nat} {K:Act->World->Prop} {Q':Exit->Act->World->Prop} (h:At dfs n L H w0 bs (Q .ret)):At dfs n L H w0 bs (wpList P ops (Exit.then (Code.ret.wp P (Exit.inBlock id (Exit.then K Q))) Q') []):=.nt (.rt (.bR (.tR h)))
theorem At.eb {id:Nat} {K K' K2:Act->World->Prop} {Q:Exit->Act->World->Prop} (h:At dfs n L H w0 bs K):At dfs n L H w0 bs (Exit.then K' (Exit.then K2 (Exit.inBlock id (Exit.then K Q))) (.exit id)):=.tE (.tE (.bE (.tN h)))
theorem At.az {x:Operand} {Q':Exit->Act->World->Prop} (hx:ev L x=some v) (h:At dfs n ((t,v)::L) H w0 bs (Q .ret)) (ht:Nat.blt t n=true:=by rfl):At dfs n L H w0 bs (wpList P ops (Exit.then (Code.ret.wp P Q) Q') [⟨some t,.assign x,ty,pos,aft,none⟩]):=.aq hx (.rt h) ht
end
end Go.Sx
