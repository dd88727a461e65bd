/- A rule of the walk, over any program: a region that draws its order, whose first n operations read, reckon, call functions that only make memory, or make one block each, in whatever order, and whose other operations come last, one behind the other. One walk serves every order. -/
import Derived.Below
import Derived.Deep.Quiet
import Derived.StillTail
import Derived.WalkKit
import Derived.WalkSpells
namespace Go.Par
open Go.RowKit

/-- w' is w with new blocks and draws: nothing that was there has changed. -/
def Ext (w w' : World) : Prop := Below w.heap.size w w'
theorem Ext.refl (w : World) : Ext w w := Below.refl _ _
theorem Ext.trans {a b c : World} (h : Ext a b) (k : Ext b c) : Ext a c := Below.trans h (Below.mono k h.size)
theorem Ext.alloc {a w : World} (h : Ext a w) (o : Obj) : Ext a (w.alloc o) := Below.alloc h h.size o
theorem Ext.drew {a w : World} (h : Ext a w) : Ext a w.drew := Below.drew h
theorem Ext.drewN {a w : World} (h : Ext a w) (n : Nat) : Ext a (w.drewN n) := ⟨h.os, h.tape, h.output, h.size, h.block⟩
theorem Ext.setCell {a w : World} (h : Ext a w) {p : Addr} (hp : a.heap.size ≤ p.block) (u : Value) : Ext a (w.setCell p u) := Below.setCell h hp u
theorem Ext.size {a w : World} (h : Ext a w) : a.heap.size ≤ w.heap.size := Below.size h
theorem Ext.cells {W w1 : World} (hb : Ext W w1) : ∀ b o, b < W.heap.size → w1.cell? ⟨b, o, none⟩ = W.cell? ⟨b, o, none⟩ := fun b o h => Below.cell (p := ⟨b, o, none⟩) hb h
theorem Ext.marks {W w1 : World} (hb : Ext W w1) : ∀ b o, b < W.heap.size → w1.frozen? ⟨b, o, none⟩ = W.frozen? ⟨b, o, none⟩ := fun b o h => Below.frozen (p := ⟨b, o, none⟩) hb h

section
variable {P : Program} {ops : Array Oper} {w0 : World}

def dstOf (ops : Array Oper) (k : Nat) : Option Tmp := (ops[k]?).bind (·.dst)

/-- The frame in which the operations k < n with S k have left their values. -/
def frm (ops : Array Oper) (val : Nat → Value) (S : Nat → Bool) : Nat → Act → Act
  | 0, a => a
  | k + 1, a => if S k = true then (frm ops val S k a).put (dstOf ops k) (val k) else frm ops val S k a

theorem put_size (a : Act) (d : Option Tmp) (v : Value) : (a.put d v).tmps.size = a.tmps.size := by
  cases d <;> simp [Act.put]
theorem frm_size (val : Nat → Value) (S : Nat → Bool) (a : Act) : ∀ n, (frm ops val S n a).tmps.size = a.tmps.size
  | 0 => rfl
  | k + 1 => by
    unfold frm
    split
    · rw [put_size, frm_size val S a k]
    · exact frm_size val S a k

theorem put_eval_same (a : Act) (t : Tmp) (v : Value) : (a.put (some t) v).eval (.tmp t) = if t < a.tmps.size then v else undef := by
  simp only [Act.eval, Act.put]
  split
  · rename_i h; simp [h]
  · rename_i h; simp [h]

theorem frm_out (val : Nat → Value) (S : Nat → Bool) (a : Act) (t : Tmp) : ∀ n, (∀ k, k < n → S k = true → dstOf ops k ≠ some t) → (frm ops val S n a).eval (.tmp t) = a.eval (.tmp t)
  | 0, _ => rfl
  | k + 1, h => by
    unfold frm
    split
    · rename_i hs
      rw [Act.eval_put (fun d hd e => by cases e; exact h k (by omega) hs hd)]
      exact frm_out val S a t k (fun j hj => h j (by omega))
    · exact frm_out val S a t k (fun j hj => h j (by omega))

theorem frm_in (val : Nat → Value) (S : Nat → Bool) (a : Act) (t : Tmp) (j : Nat) (hS : S j = true) (hd : dstOf ops j = some t) : ∀ n, j < n → (∀ k, k < n → k ≠ j → dstOf ops k ≠ some t) →
    (frm ops val S n a).eval (.tmp t) = if t < a.tmps.size then val j else undef
  | 0, h, _ => absurd h (by omega)
  | k + 1, hj, hu => by
    unfold frm
    by_cases hk : k = j
    · subst hk
      rw [if_pos hS, hd, put_eval_same, frm_size]
    · have ih := frm_in val S a t j hS hd k (by omega) (fun i hi => hu i (by omega))
      split
      · rw [Act.eval_put (fun d hd' e => by cases e; exact hu k (by omega) hk hd')]
        exact ih
      · exact ih

theorem frm_congr (val val' : Nat → Value) (S S' : Nat → Bool) (a : Act) : ∀ n, (∀ k, k < n → S k = S' k ∧ (S k = true → val k = val' k)) → frm ops val S n a = frm ops val' S' n a
  | 0, _ => rfl
  | k + 1, h => by
    have hk := h k (by omega)
    have ih := frm_congr val val' S S' a k (fun j hj => h j (by omega))
    unfold frm
    rw [ih, ← hk.1]
    split
    · rename_i hs; rw [hk.2 hs]
    · rfl

/-- One operation more. -/
theorem frm_more (val : Nat → Value) (S S' : Nat → Bool) (a : Act) (i : Nat) (hi' : S' i = true) (hi : S i = false) (hS : ∀ k, k ≠ i → S' k = S k) :
    ∀ n, i < n → (∀ j k, j < n → k < n → j ≠ k → ∀ d, dstOf ops j = some d → dstOf ops k ≠ some d) → frm ops val S' n a = (frm ops val S n a).put (dstOf ops i) (val i)
  | 0, h, _ => absurd h (by omega)
  | k + 1, hin, hd => by
    by_cases hk : k = i
    · subst hk
      have e : frm ops val S' k a = frm ops val S k a := frm_congr val val S' S a k (fun j hj => ⟨hS j (by omega), fun _ => rfl⟩)
      simp only [frm, hi', hi, e, if_true]
      simp
    · have ih := frm_more val S S' a i hi' hi hS k (by omega) (fun j l hj hl => hd j l (by omega) (by omega))
      simp only [frm, hS k hk, ih]
      split
      · rw [Act.put_comm]
        intro d hd'
        exact hd i k (by omega) (by omega) (Ne.symm hk) d hd'
      · rfl

/-- An operation that leaves the value v in every world that has grown out of w0, and only makes memory. -/
def Yx (P : Program) (ops : Array Oper) (w0 : World) (o : Oper) (v : Value) (a : Act) : Prop :=
  (Region.wanted o (yielded ops a.tmps) = true ∧ ∀ w, Ext w0 w → Oper.quietUpon P (Ext w) w v ((execOp a.eval o).run P w)) ∨
  (Region.wanted o (yielded ops a.tmps) = false ∧ v = undef)

theorem Yx.of_same {o : Oper} {v : Value} {a a' : Act} (hy : Yx P ops w0 o v a) (he : execOp a'.eval o = execOp a.eval o)
    (hw : Region.wanted o (yielded ops a'.tmps) = Region.wanted o (yielded ops a.tmps)) : Yx P ops w0 o v a' := by
  unfold Yx at *
  rw [he, hw]
  exact hy

theorem Yx.wpOp {i : Nat} {o : Oper} {v : Value} {a : Act} {w : World} {K : Act → World → Prop} {Q : Exit → Act → World → Prop} (hi : ops[i]? = some o) (hy : Yx P ops w0 o v a) (hw0 : Ext w0 w)
    (h : ∀ w', Ext w w' → K (a.put o.dst v) w') : wpOp P ops Q i K a w := by
  unfold Go.wpOp
  simp only [hi]
  rcases hy with ⟨hw, hv⟩ | ⟨hw, rfl⟩
  · simp only [hw, if_true]
    refine .inl ?_
    have h3 := hv w hw0
    unfold Oper.wp
    generalize (execOp a.eval o).run P w = r at *
    cases r with
    | ok x w' =>
      cases x <;> simp only [Oper.quietUpon] at h3 <;> simp only [Oper.upon]
      case value u =>
        obtain ⟨e1, e2⟩ := h3
        rw [e1, e2]
        exact h _ (Ext.refl _)
      case skip =>
        obtain ⟨e1, e2⟩ := h3
        rw [e1, ← e2]
        exact h _ (Ext.refl _)
      case enter f args =>
        obtain ⟨e1, hc⟩ := h3
        rw [e1]
        exact hc.mono fun e w'' ⟨he, hw''⟩ => by subst he; exact h _ hw''
    | halt x w' => simp only [Oper.quietUpon] at h3
  · simp only [hw, Bool.false_eq_true, if_false]
    exact h _ (Ext.refl _)

/-- An operation that makes one block: its value is known from the block's number. -/
structure Makes (P : Program) (ops : Array Oper) (w0 : World) (a : Act) (o : Oper) (mk : Nat → Value) (obj : Obj) : Prop where
  wanted : Region.wanted o (yielded ops a.tmps) = true
  run : ∀ w, Ext w0 w → (execOp a.eval o).run P w = .ok (.value (mk w.heap.size)) (w.alloc obj)

/-- Nobody among the first n looks at this slot. -/
def noLook (ops : Array Oper) (n : Nat) (d : Option Tmp) : Bool :=
  (List.range n).all fun i => ((ops[i]?).map fun o => match d with | some t => !(o.looksAt ops).contains t | none => true).getD true

/-- Every operation among the first n that does not float is waited for, at last by operation n. -/
def sinkF (ops : Array Oper) (n : Nat) (fl : List Nat) : Bool :=
  (List.range n).all fun i => fl.contains i || (List.range (n + 1)).any fun j => decide (i < j) && (decide (j = n) || !fl.contains j) && Region.waitsFor .any ops j i

/-- What floats may be taken before whatever does not wait for it. -/
def floatB (ops : Array Oper) (n : Nat) (fl : List Nat) : Bool :=
  fl.all fun i => (List.range ops.size).all fun j => decide (i = j) || (decide (j < n) && !fl.contains j) || Region.waitsFor .any ops j i ||
    (match ops[i]?, ops[j]? with | some oi, some oj => oi.apart ops oj | _, _ => true)

/-- The closed facts on the region: n operations stand ahead of the tail; those in fl may also come among the tail. -/
def parB (ops : Array Oper) (n : Nat) (fl : List Nat) : Bool :=
  Region.noSelect ops && decide (n < ops.size) && sinkF ops n fl && Region.chainB .any ops n &&
  (List.range ops.size).all (fun i => ((ops[i]?).map fun o => o.after.all fun e => !Region.binds .any e || decide (e.on < i)).getD true) &&
  (List.range n).all (fun i => (List.range n).all fun j => decide (i = j) || (dstOf ops i).isNone || dstOf ops i != dstOf ops j) &&
  (List.range n).all (fun i => ((ops[i]?).map fun o => (o.looksAt ops).all fun t => (List.range n).all fun j => dstOf ops j != some t || Region.waitsFor .any ops i j).getD true) &&
  Region.seqB .any ops (ops.size - n) n ((List.range ops.size).map fun k => decide (k < n)).toArray && floatB ops n fl

structure Fit (ops : Array Oper) (n : Nat) (fl : List Nat) : Prop where
  sel : ∀ (j : Nat) (o : Oper) (cs : Array SelectCase) (b : Bool), ops[j]? = some o → o.op ≠ .select cs b
  lt : n < ops.size
  sink : sinkF ops n fl = true
  chain : Region.chainB .any ops n = true
  back : ∀ i o, ops[i]? = some o → ∀ e ∈ o.after, Region.binds .any e = true → e.on < i
  apart : ∀ j k, j < n → k < n → j ≠ k → ∀ d, dstOf ops j = some d → dstOf ops k ≠ some d
  look : ∀ i o, i < n → ops[i]? = some o → ∀ t ∈ o.looksAt ops, ∀ j, j < n → dstOf ops j = some t → Region.waitsFor .any ops i j = true
  seq : Region.seqB .any ops (ops.size - n) n ((List.range ops.size).map fun k => decide (k < n)).toArray = true
  float : ∀ i oi j oj, fl.contains i = true → ops[i]? = some oi → ops[j]? = some oj → i ≠ j → (n ≤ j ∨ fl.contains j = true) → Region.waitsFor .any ops j i = false → oi.apart ops oj = true

theorem Fit.of {n : Nat} {fl : List Nat} (h : parB ops n fl = true) : Fit ops n fl := by
  simp only [parB, Bool.and_eq_true, decide_eq_true_eq] at h
  obtain ⟨⟨⟨⟨⟨⟨⟨⟨h1, h2⟩, h3⟩, h4⟩, h5⟩, h6⟩, h7⟩, h8⟩, h9⟩ := h
  refine ⟨Region.noSelect_spec h1, h2, h3, h4, ?_, ?_, ?_, h8, ?_⟩
  · intro i o ho e he hb
    have hi : i < ops.size := (Array.getElem?_eq_some_iff.1 ho).1
    have := List.all_eq_true.1 h5 i (List.mem_range.2 hi)
    simp only [ho, Option.map_some, Option.getD_some, Array.all_eq_true_iff_forall_mem] at this
    have := this e he
    simpa [hb] using this
  · intro j k hj hk hne d hd
    have := List.all_eq_true.1 (List.all_eq_true.1 h6 j (List.mem_range.2 hj)) k (List.mem_range.2 hk)
    simp only [hd, hne, decide_false, Bool.false_or, Option.isNone_some, bne_iff_ne] at this
    exact fun e => this e.symm
  · intro i o hi ho t ht j hj hd
    have := List.all_eq_true.1 h7 i (List.mem_range.2 hi)
    simp only [ho, Option.map_some, Option.getD_some] at this
    have := List.all_eq_true.1 (List.all_eq_true.1 this t ht) j (List.mem_range.2 hj)
    simpa [hd] using this
  · intro i oi j oj hi hoi hoj hne hj hw
    have hjs : j < ops.size := (Array.getElem?_eq_some_iff.1 hoj).1
    have := List.all_eq_true.1 (List.all_eq_true.1 h9 i (List.contains_iff_mem.1 hi)) j (List.mem_range.2 hjs)
    have hn : (decide (j < n) && !fl.contains j) = false := by
      rcases hj with hj | hj
      · simp [show ¬ j < n by omega]
      · rw [hj]; simp
    rw [hn, hw] at this
    simpa [hne, hoi, hoj] using this

theorem tail_waitsF {n : Nat} {fl : List Nat} {listed : Array Bool} (hs : sinkF ops n fl = true) (hc : Region.chainB .any ops n = true) (inv : HeadInv .any ops n listed) :
    ∀ (d i : Nat), n - i = d → i < n → fl.contains i = false → listed.getD i true = false → ∀ t, n ≤ t → t ∉ Region.ready .any ops listed := by
  intro d
  induction d using Nat.strongRecOn with
  | _ d ih =>
    intro i hd hi hf hun t ht hr
    obtain ⟨_, ot, hot, hall⟩ := mem_ready.1 hr
    have htlt : t < ops.size := (Array.getElem?_eq_some_iff.1 hot).1
    by_cases htn : t = n
    · subst htn
      have h1 := List.all_eq_true.1 hs i (List.mem_range.2 hi)
      rw [hf, Bool.false_or] at h1
      obtain ⟨j, hj, hj2⟩ := List.any_eq_true.1 h1
      simp only [Bool.and_eq_true, decide_eq_true_eq] at hj2
      obtain ⟨⟨hij, hjf⟩, hw⟩ := hj2
      obtain ⟨oj, hoj, e, he, hb, hon⟩ := Region.waitsFor_spec hw
      have hjle : j ≤ t := by have := List.mem_range.1 hj; omega
      by_cases hjt : j = t
      · subst hjt
        have : oj = ot := Option.some.inj (hoj.symm.trans hot)
        subst this
        have h2 := hall e he hb
        rw [hon, getD_both hun] at h2
        cases h2
      · have hjf' : fl.contains j = false := by simpa [hjt] using hjf
        cases hl : listed.getD j false with
        | true =>
          have h2 := inv.closed j oj hoj hl e he hb
          rw [hon, getD_both hun] at h2
          cases h2
        | false =>
          have hjs : j < listed.size := by rw [inv.size]; omega
          exact ih (t - j) (by omega) j rfl (by omega) hjf' (getD_in hjs hl) t (Nat.le_refl _) hr
    · have h1 := List.all_eq_true.1 hc t (List.mem_range.2 htlt)
      simp only [Bool.or_eq_true, decide_eq_true_eq] at h1
      rcases h1 with h1 | h1
      · omega
      · obtain ⟨o', ho', e, he, hb, hon⟩ := Region.waitsFor_spec h1
        have : o' = ot := Option.some.inj (ho'.symm.trans hot)
        subst this
        have h2 := hall e he hb
        rw [hon, getD_both (inv.tail (t - 1) (by omega) (by omega))] at h2
        cases h2

/-- What the walk shows: of every operation among the first n its value, or that it makes a block. -/
structure Plan (P : Program) (ops : Array Oper) (w0 : World) (fl : List Nat) (n : Nat) (a0 : Act) (isB : Nat → Bool) (vA : Nat → Value) (mk : Nat → Nat → Value) (obj : Nat → Obj) : Prop where
  plain : ∀ i o, i < n → ops[i]? = some o → isB i = false → Yx P ops w0 o (vA i) (frm ops vA (fun k => !isB k) i a0)
  made : ∀ i o, i < n → ops[i]? = some o → isB i = true → Makes P ops w0 (frm ops vA (fun k => !isB k) i a0) o (mk i) (obj i)
  hidden : ∀ i o, i < n → ops[i]? = some o → isB i = true → noLook ops n o.dst = true
  floats : ∀ i o, i < n → ops[i]? = some o → fl.contains i = true → isB i = false ∧ Yields P ops o (vA i) (frm ops vA (fun k => !isB k) i a0)

variable {n : Nat} {fl : List Nat} {a0 : Act} {isB : Nat → Bool} {vA : Nat → Value} {mk : Nat → Nat → Value} {obj : Nat → Obj}

def vals (isB : Nat → Bool) (vA : Nat → Value) (mk : Nat → Nat → Value) (bs : Nat → Nat) : Nat → Value := fun k => if isB k = true then mk k (bs k) else vA k

theorem noLook_spec {d : Tmp} (h : noLook ops n (some d) = true) {i : Nat} {o : Oper} (hi : i < n) (ho : ops[i]? = some o) : d ∉ o.looksAt ops := by
  have := List.all_eq_true.1 h i (List.mem_range.2 hi)
  simpa [ho] using this

/-- What an operation that may come up now looks at stands in the frame as it stood in the walk. -/
theorem same_eval (F : Fit ops n fl) (H : Plan P ops w0 fl n a0 isB vA mk obj) (bs : Nat → Nat) (S : Nat → Bool) {i : Nat} {o : Oper} (hi : i < n) (ho : ops[i]? = some o)
    (hS : ∀ j, j < n → Region.waitsFor .any ops i j = true → S j = true) (t : Tmp) (ht : t ∈ o.looksAt ops) :
    (frm ops (vals isB vA mk bs) S n a0).eval (.tmp t) = (frm ops vA (fun k => !isB k) i a0).eval (.tmp t) := by
  by_cases hw : ∃ j, j < n ∧ dstOf ops j = some t
  · obtain ⟨j, hj, hd⟩ := hw
    have hwait := F.look i o hi ho t ht j hj hd
    have hji : j < i := by
      obtain ⟨oi, hoi, e, he, hb, hon⟩ := Region.waitsFor_spec hwait
      have : oi = o := Option.some.inj (hoi.symm.trans ho)
      subst this
      have := F.back i oi ho e he hb
      omega
    have hB : isB j = false := by
      cases hb : isB j with
      | false => rfl
      | true =>
        have hjs : j < ops.size := by have := F.lt; omega
        have hoj : ops[j]? = some ops[j] := Array.getElem?_eq_getElem hjs
        have h1 := H.hidden j _ hj hoj hb
        have h2 : ops[j].dst = some t := by simpa [dstOf, hoj] using hd
        rw [h2] at h1
        exact absurd ht (noLook_spec h1 hi ho)
    rw [frm_in _ S a0 t j (hS j hj hwait) hd n hj (fun k hk hne e => F.apart k j hk hj hne t e hd),
      frm_in _ _ a0 t j (by simp [hB]) hd i hji (fun k hk hne e => F.apart k j (by omega) hj hne t e hd)]
    simp [vals, hB]
  · rw [frm_out _ S a0 t n (fun k hk _ hd => hw ⟨k, hk, hd⟩), frm_out _ _ a0 t i (fun k hk _ hd => hw ⟨k, by omega, hd⟩)]

theorem same_wanted {a a' : Act} (o : Oper) (h : ∀ t ∈ o.looksAt ops, a.eval (.tmp t) = a'.eval (.tmp t)) : Region.wanted o (yielded ops a.tmps) = Region.wanted o (yielded ops a'.tmps) := by
  unfold Region.wanted
  cases hg : o.guard with
  | none => rfl
  | some gw =>
    obtain ⟨g, want⟩ := gw
    have hy : yielded ops a.tmps g = yielded ops a'.tmps g := by
      unfold yielded
      cases ht : (ops[g]?).bind (·.dst) with
      | none => rfl
      | some t =>
        have := h t (by simp [Oper.looksAt, hg, ht])
        simp only [Act.eval, Array.getD_eq_getD_getElem?] at this
        simp only [Option.bind_some]
        revert this
        generalize a.tmps[t]? = x
        generalize a'.tmps[t]? = y
        intro this
        cases x with
        | none => cases y with
          | none => rfl
          | some v => simp at this; subst this; rfl
        | some u => cases y with
          | none => simp at this; subst this; rfl
          | some v => simp at this; subst this; rfl
    simp only [hy]

theorem same_exec {a a' : Act} (o : Oper) (hs : ∀ cs b, o.op ≠ .select cs b) (h : ∀ t ∈ o.looksAt ops, a.eval (.tmp t) = a'.eval (.tmp t)) : execOp a.eval o = execOp a'.eval o :=
  execOp_congr o hs fun x hx => by
    cases x with
    | tmp t => exact h t (List.mem_append_left _ (List.mem_filterMap.2 ⟨.tmp t, by simpa using hx, rfl⟩))
    | _ => rfl

/-- How many of the first n are still to come. -/
def cnt (S : Nat → Bool) : Nat → Nat
  | 0 => 0
  | k + 1 => cnt S k + (if S k = true then 0 else 1)
theorem cnt_congr (S S' : Nat → Bool) : ∀ m, (∀ k, k < m → S k = S' k) → cnt S m = cnt S' m
  | 0, _ => rfl
  | k + 1, h => by unfold cnt; rw [cnt_congr S S' k (fun j hj => h j (by omega)), h k (by omega)]
theorem cnt_more (S S' : Nat → Bool) (i : Nat) (hi' : S' i = true) (hi : S i = false) (hS : ∀ k, k ≠ i → S' k = S k) : ∀ m, i < m → cnt S' m + 1 = cnt S m
  | 0, h => absurd h (by omega)
  | k + 1, h => by
    unfold cnt
    by_cases hk : k = i
    · subst hk
      rw [cnt_congr S' S k (fun j hj => hS j (by omega)), hi', hi]
      simp
    · have := cnt_more S S' i hi' hi hS k (by omega)
      rw [hS k hk]
      omega
theorem cnt_zero (S : Nat → Bool) : ∀ m, cnt S m = 0 → ∀ k, k < m → S k = true
  | 0, _, k, hk => absurd hk (by omega)
  | m + 1, h, k, hk => by
    unfold cnt at h
    by_cases hm : S m = true
    · by_cases e : k = m
      · subst e; exact hm
      · exact cnt_zero S m (by omega) k (by omega)
    · rw [if_neg hm] at h; omega
theorem cnt_pos (S : Nat → Bool) : ∀ m, 0 < cnt S m → ∃ k, k < m ∧ S k = false ∧ ∀ j, j < k → S j = true
  | 0, h => absurd h (by simp [cnt])
  | m + 1, h => by
    by_cases hc : 0 < cnt S m
    · obtain ⟨k, a, b, c⟩ := cnt_pos S m hc
      exact ⟨k, by omega, b, c⟩
    · unfold cnt at h
      by_cases hm : S m = true
      · rw [if_pos hm] at h; omega
      · exact ⟨m, by omega, by simpa using hm, cnt_zero S m (by omega)⟩

abbrev st (listed : Array Bool) : Nat → Bool := fun k => listed.getD k true

/-- What holds of every state of the game. -/
structure Inv (P : Program) (ops : Array Oper) (w0 : World) (n : Nat) (a0 : Act) (isB : Nat → Bool) (vA : Nat → Value) (mk : Nat → Nat → Value) (obj : Nat → Obj) (listed : Array Bool) (a : Act) (w : World) (bs : Nat → Nat) : Prop where
  head : HeadInv .any ops n listed
  frame : a = frm ops (vals isB vA mk bs) (st listed) n a0
  world : Ext w0 w
  made : ∀ i, i < n → isB i = true → st listed i = true → w0.heap.size ≤ bs i ∧ w.heap[bs i]? = some (obj i)
  apart : ∀ i j, i < n → j < n → isB i = true → isB j = true → st listed i = true → st listed j = true → i ≠ j → bs i ≠ bs j

theorem st_set {listed : Array Bool} {i k : Nat} (hk : k ≠ i) : st (listed.setIfInBounds i true) k = st listed k := getD_set_ne true (Ne.symm hk)
theorem st_set_same {listed : Array Bool} {i : Nat} : st (listed.setIfInBounds i true) i = true := by
  simp only [st]
  rcases Nat.lt_or_ge i listed.size with h | h
  · simp [h]
  · simp [h]

theorem block_ext {w w' : World} (h : Ext w w') {b : Nat} {o : Obj} (hb : w.heap[b]? = some o) : w'.heap[b]? = some o := by
  have hlt : b < w.heap.size := by
    rcases Nat.lt_or_ge b w.heap.size with h' | h'
    · exact h'
    · simp [h'] at hb
  rw [Below.block h b hlt]; exact hb
theorem block_lt {w : World} {b : Nat} {o : Obj} (hb : w.heap[b]? = some o) : b < w.heap.size := by
  rcases Nat.lt_or_ge b w.heap.size with h' | h'
  · exact h'
  · simp [h'] at hb

theorem game (F : Fit ops n fl) (H : Plan P ops w0 fl n a0 isB vA mk obj) {Q : Exit → Act → World → Prop} (hQ : ∀ c (a : Act) d v w, Q (.panic c) (a.put d v) w → Q (.panic c) a w)
    (hend : ∀ (w : World) (bs : Nat → Nat), Ext w0 w → (∀ i, i < n → isB i = true → w0.heap.size ≤ bs i ∧ w.heap[bs i]? = some (obj i)) →
      (∀ i j, i < n → j < n → isB i = true → isB j = true → i ≠ j → bs i ≠ bs j) → wpList P ops Q (ops.toList.drop n) (frm ops (vals isB vA mk bs) (fun _ => true) n a0) w) :
    ∀ (m : Nat) (listed : Array Bool) (a : Act) (w : World) (bs : Nat → Nat), cnt (st listed) n = m → Inv P ops w0 n a0 isB vA mk obj listed a w bs →
      wpAny P .any ops Q (m + (ops.size - n)) listed a w := by
  intro m
  induction m with
  | zero =>
    intro listed a w bs hm I
    have hall := cnt_zero _ n hm
    have hcan : listed = ((List.range ops.size).map fun k => decide (k < n)).toArray := by
      apply Array.ext
      · simp [I.head.size]
      · intro k h1 h2
        have hk : k < ops.size := by rw [← I.head.size]; exact h1
        simp only [List.getElem_toArray, List.getElem_map, List.getElem_range]
        by_cases hkn : k < n
        · have := hall k hkn
          simp [st, h1] at this
          simp [this, hkn]
        · have := I.head.tail k (by omega) hk
          simp [h1] at this
          simp [this, hkn]
    rw [Nat.zero_add]
    have hlen : (ops.toList.drop n).length = ops.size - n := by simp
    rw [← hlen]
    refine wpAny_of_seq (ops.toList.drop n) n listed a w (fun j => by simp [List.getElem?_drop]) (by rw [hlen, hcan]; exact F.seq) ?_
    have hfr : a = frm ops (vals isB vA mk bs) (fun _ => true) n a0 := by
      rw [I.frame]
      exact frm_congr _ _ _ _ a0 n (fun k hk => ⟨hall k hk, fun _ => rfl⟩)
    rw [hfr]
    exact hend w bs I.world (fun i hi hb => I.made i hi hb (hall i hi)) (fun i j hi hj hbi hbj hne => I.apart i j hi hj hbi hbj (hall i hi) (hall j hj) hne)
  | succ m ih =>
    intro listed a w bs hm I
    obtain ⟨k0, hk0, hun0, hbelow⟩ := cnt_pos (st listed) n (by omega)
    have hk0s : k0 < ops.size := by have := F.lt; omega
    have hready0 : k0 ∈ Region.ready .any ops listed := by
      refine mem_ready.2 ⟨hun0, ops[k0], Array.getElem?_eq_getElem hk0s, fun e he hb => ?_⟩
      have hlt := F.back k0 _ (Array.getElem?_eq_getElem hk0s) e he hb
      have := hbelow e.on hlt
      have hsz : e.on < listed.size := by rw [I.head.size]; omega
      simpa [st, hsz] using this
    rw [show m + 1 + (ops.size - n) = (m + (ops.size - n)) + 1 by omega]
    by_cases hmust : ∀ k, k < n → fl.contains k = false → st listed k = true
    · -- only what floats is left: it is taken first
      have hfl : fl.contains k0 = true := by
        cases h : fl.contains k0 with
        | true => rfl
        | false => have := hmust k0 hk0 h; rw [this] at hun0; cases hun0
      have ho := Array.getElem?_eq_getElem hk0s
      obtain ⟨hnB, hyl⟩ := H.floats k0 _ hk0 ho hfl
      have hS : ∀ j, j < n → Region.waitsFor .any ops k0 j = true → st listed j = true := by
        intro j hj hw
        obtain ⟨oi, hoi, e, he, hb, hon⟩ := Region.waitsFor_spec hw
        have := F.back k0 oi hoi e he hb
        exact hbelow j (by omega)
      have hev := fun t ht => same_eval F H bs (st listed) hk0 ho hS t ht
      have hd : dstOf ops k0 = ops[k0].dst := by simp [dstOf, hk0s]
      have hcnt : cnt (st (listed.setIfInBounds k0 true)) n = m := by
        have := cnt_more (st listed) (st (listed.setIfInBounds k0 true)) k0 st_set_same hun0 (fun k hk => st_set hk) n hk0
        omega
      have hy : Yields P ops ops[k0] (vA k0) a := by
        have e1 : execOp a.eval ops[k0] = execOp (frm ops vA (fun k => !isB k) k0 a0).eval ops[k0] := by rw [I.frame]; exact same_exec _ (fun cs b => F.sel k0 _ cs b ho) hev
        have e2 : Region.wanted ops[k0] (yielded ops a.tmps) = Region.wanted ops[k0] (yielded ops (frm ops vA (fun k => !isB k) k0 a0).tmps) := by rw [I.frame]; exact same_wanted _ hev
        unfold Yields at hyl ⊢
        rw [e1, e2]; exact hyl
      refine wpAny_first ho F.sel (fun c a w h => hQ c a _ _ w h) _ listed a w ?_ hready0 hy ?_
      · intro j oj hoj hji hjun hno
        have hw : Region.waitsFor .any ops j k0 = false := by
          cases hw : Region.waitsFor .any ops j k0 with
          | false => rfl
          | true =>
            obtain ⟨o', ho', e, he, hb, hon⟩ := Region.waitsFor_spec hw
            have : o' = oj := Option.some.inj (ho'.symm.trans hoj)
            subst this
            exact absurd hon (hno e he hb)
        refine F.float k0 _ j oj hfl ho hoj (Ne.symm hji) ?_ hw
        rcases Nat.lt_or_ge j n with hjn | hjn
        · right
          cases h : fl.contains j with
          | true => rfl
          | false => have := hmust j hjn h; rw [show st listed j = false from hjun] at this; cases this
        · exact .inl hjn
      · refine ih _ _ w bs hcnt ⟨I.head.set hready0 hk0, ?_, I.world, ?_, ?_⟩
        · rw [I.frame, frm_more (vals isB vA mk bs) (st listed) (st (listed.setIfInBounds k0 true)) a0 k0 st_set_same hun0 (fun k hk => st_set hk) n hk0 F.apart, hd]
          simp [vals, hnB]
        · intro j hj hbj hsj
          have hji : j ≠ k0 := fun e => by subst e; rw [hnB] at hbj; cases hbj
          rw [st_set hji] at hsj
          exact I.made j hj hbj hsj
        · intro j k hj hk hbj hbk hsj hsk hne
          have hji : j ≠ k0 := fun e => by subst e; rw [hnB] at hbj; cases hbj
          have hki : k ≠ k0 := fun e => by subst e; rw [hnB] at hbk; cases hbk
          rw [st_set hji] at hsj
          rw [st_set hki] at hsk
          exact I.apart j k hj hk hbj hbk hsj hsk hne
    have hmust' : ∃ k, k < n ∧ fl.contains k = false ∧ st listed k = false := by
      apply Classical.byContradiction
      intro hno
      refine hmust fun k hk hf => ?_
      cases hs : st listed k with
      | true => rfl
      | false => exact absurd ⟨k, hk, hf, hs⟩ hno
    obtain ⟨k1, hk1, hf1, hun1⟩ := hmust'
    refine ⟨fun h0 => (by rw [h0] at hready0; cases hready0), fun i hi => ?_⟩
    have hin : i < n := by
      rcases Nat.lt_or_ge i n with h | h
      · exact h
      · exact absurd hi (tail_waitsF F.sink F.chain I.head _ k1 rfl hk1 hf1 hun1 i h)
    obtain ⟨hun, o, ho, hall⟩ := mem_ready.1 hi
    have hS : ∀ j, j < n → Region.waitsFor .any ops i j = true → st listed j = true := by
      intro j hj hw
      obtain ⟨oi, hoi, e, he, hb, hon⟩ := Region.waitsFor_spec hw
      have : oi = o := Option.some.inj (hoi.symm.trans ho)
      subst this
      have h1 := hall e he hb
      rw [hon] at h1
      have hsz : j < listed.size := by rw [I.head.size]; have := F.lt; omega
      simp [hsz] at h1
      simp [st, hsz, h1]
    have hev := fun t ht => same_eval F H bs (st listed) hin ho hS t ht
    have hd : dstOf ops i = o.dst := by simp [dstOf, ho]
    have hhead := I.head.set hi hin
    have hcnt : cnt (st (listed.setIfInBounds i true)) n = m := by
      have := cnt_more (st listed) (st (listed.setIfInBounds i true)) i st_set_same hun (fun k hk => st_set hk) n hin
      omega
    cases hB : isB i with
    | false =>
      have hy : Yx P ops w0 o (vA i) a := by
        refine (H.plain i o hin ho hB).of_same ?_ ?_
        · rw [I.frame]; exact same_exec o (fun cs b => F.sel i o cs b ho) hev
        · rw [I.frame]; exact same_wanted o hev
      refine hy.wpOp ho I.world (fun w' hx => ih _ _ w' bs hcnt ⟨hhead, ?_, I.world.trans hx, ?_, ?_⟩)
      · rw [I.frame, frm_more (vals isB vA mk bs) (st listed) (st (listed.setIfInBounds i true)) a0 i st_set_same hun (fun k hk => st_set hk) n hin F.apart, hd]
        simp [vals, hB]
      · intro j hj hbj hsj
        have hji : j ≠ i := fun e => by subst e; rw [hB] at hbj; cases hbj
        rw [st_set hji] at hsj
        obtain ⟨h1, h2⟩ := I.made j hj hbj hsj
        exact ⟨h1, block_ext hx h2⟩
      · intro j k hj hk hbj hbk hsj hsk hne
        have hji : j ≠ i := fun e => by subst e; rw [hB] at hbj; cases hbj
        have hki : k ≠ i := fun e => by subst e; rw [hB] at hbk; cases hbk
        rw [st_set hji] at hsj
        rw [st_set hki] at hsk
        exact I.apart j k hj hk hbj hbk hsj hsk hne
    | true =>
      have hm1 := H.made i o hin ho hB
      have hex : execOp a.eval o = execOp (frm ops vA (fun k => !isB k) i a0).eval o := by rw [I.frame]; exact same_exec o (fun cs b => F.sel i o cs b ho) hev
      have hwt : Region.wanted o (yielded ops a.tmps) = true := by
        have := hm1.wanted
        rw [I.frame, same_wanted o hev]; exact this
      unfold wpOp
      simp only [ho, hwt, if_true]
      refine .inl ?_
      unfold Oper.wp
      rw [hex, hm1.run w I.world, Oper.upon_value]
      have hx : Ext w (w.alloc (obj i)) := (Ext.refl w).alloc _
      have hother : ∀ j, j ≠ i → (if j = i then w.heap.size else bs j) = bs j := fun j h => by rw [if_neg h]
      refine ih _ _ _ (fun j => if j = i then w.heap.size else bs j) hcnt ⟨hhead, ?_, I.world.trans hx, ?_, ?_⟩
      · rw [I.frame, frm_more (vals isB vA mk (fun j => if j = i then w.heap.size else bs j)) (st listed) (st (listed.setIfInBounds i true)) a0 i st_set_same hun (fun k hk => st_set hk) n hin F.apart, hd]
        have e1 : frm ops (vals isB vA mk bs) (st listed) n a0 = frm ops (vals isB vA mk (fun j => if j = i then w.heap.size else bs j)) (st listed) n a0 :=
          frm_congr _ _ _ _ a0 n (fun k _ => ⟨rfl, fun hs => by
            have hki : k ≠ i := fun e => by subst e; rw [show st listed k = false from hun] at hs; cases hs
            simp [vals, hki]⟩)
        rw [e1]
        simp [vals, hB]
      · intro j hj hbj hsj
        by_cases hji : j = i
        · subst hji
          simp only [if_true]
          exact ⟨I.world.size, heap_alloc_new w _⟩
        · rw [st_set hji] at hsj
          obtain ⟨h1, h2⟩ := I.made j hj hbj hsj
          rw [hother j hji]
          exact ⟨h1, block_ext hx h2⟩
      · intro j k hj hk hbj hbk hsj hsk hne
        by_cases hji : j = i
        · subst hji
          have hkj : k ≠ j := Ne.symm hne
          rw [st_set hkj] at hsk
          have := block_lt (I.made k hk hbk hsk).2
          rw [hother k hkj, if_pos rfl]
          omega
        · rw [st_set hji] at hsj
          by_cases hki : k = i
          · subst hki
            have := block_lt (I.made j hj hbj hsj).2
            rw [hother j hji, if_pos rfl]
            omega
          · rw [st_set hki] at hsk
            rw [hother j hji, hother k hki]
            exact I.apart j k hj hk hbj hbk hsj hsk hne

/-! ### The walk of the first n operations, and what it gives the game -/

abbrev BRow := Option Tmp × (Nat → Value) × Obj

/-- The walk, in the order of the text. -/
def wpPar (P : Program) (ops : Array Oper) (w0 : World) (n : Nat) (fl : List Nat) (Q : List BRow → Act → Prop) : Nat → List Oper → List BRow → Act → Prop
  | _, [], bl, a => Q bl a
  | k, o :: rest, bl, a => (∃ v, Yx P ops w0 o v a ∧ (fl.contains k = true → Yields P ops o v a) ∧ wpPar P ops w0 n fl Q (k + 1) rest bl (a.put o.dst v)) ∨
      (∃ mk obj, Makes P ops w0 a o mk obj ∧ noLook ops n o.dst = true ∧ fl.contains k = false ∧ wpPar P ops w0 n fl Q (k + 1) rest (bl ++ [(o.dst, mk, obj)]) a)

def putBs (a : Act) : List BRow → List Nat → Act
  | x :: xs, b :: bs => putBs (a.put x.1 (x.2.1 b)) xs bs
  | _, _ => a

def blOf (ops : Array Oper) (isB : Nat → Bool) (mk : Nat → Nat → Value) (obj : Nat → Obj) : Nat → List BRow
  | 0 => []
  | k + 1 => if isB k = true then blOf ops isB mk obj k ++ [(dstOf ops k, mk k, obj k)] else blOf ops isB mk obj k
def numsOf (isB : Nat → Bool) (bs : Nat → Nat) : Nat → List Nat
  | 0 => []
  | k + 1 => if isB k = true then numsOf isB bs k ++ [bs k] else numsOf isB bs k

theorem blOf_succ (k : Nat) : blOf ops isB mk obj (k + 1) = if isB k = true then blOf ops isB mk obj k ++ [(dstOf ops k, mk k, obj k)] else blOf ops isB mk obj k := rfl
theorem frm_succ (val : Nat → Value) (S : Nat → Bool) (k : Nat) (a : Act) : frm ops val S (k + 1) a = if S k = true then (frm ops val S k a).put (dstOf ops k) (val k) else frm ops val S k a := rfl

theorem len_same (bs : Nat → Nat) : ∀ k, (numsOf isB bs k).length = (blOf ops isB mk obj k).length
  | 0 => rfl
  | k + 1 => by unfold numsOf blOf; split <;> simp [len_same bs k]

theorem putBs_snoc : ∀ (bl : List BRow) (ns : List Nat) (a : Act) (x : BRow) (b : Nat), ns.length = bl.length → putBs a (bl ++ [x]) (ns ++ [b]) = (putBs a bl ns).put x.1 (x.2.1 b)
  | [], [], _, _, _, _ => rfl
  | [], _ :: _, _, _, _, h => by simp at h
  | _ :: _, [], _, _, _, h => by simp at h
  | y :: bl, c :: ns, a, x, b, h => by
    simp only [List.cons_append, putBs]
    exact putBs_snoc bl ns _ x b (by simpa using h)

theorem putBs_put : ∀ (bl : List BRow) (ns : List Nat) (a : Act) (d : Option Tmp) (v : Value), (∀ x ∈ bl, ∀ t, d = some t → x.1 ≠ some t) → putBs (a.put d v) bl ns = (putBs a bl ns).put d v
  | [], _, _, _, _, _ => by simp [putBs]
  | _ :: _, [], _, _, _, _ => by simp [putBs]
  | y :: bl, c :: ns, a, d, v, h => by
    simp only [putBs]
    rw [Act.put_comm a v (y.2.1 c) (h y (by simp))]
    exact putBs_put bl ns _ d v (fun x hx => h x (by simp [hx]))

theorem bl_dst : ∀ k x, x ∈ blOf ops isB mk obj k → ∃ j, j < k ∧ isB j = true ∧ x = (dstOf ops j, mk j, obj j)
  | 0, x, h => by simp [blOf] at h
  | k + 1, x, h => by
    unfold blOf at h
    split at h
    · rename_i hb
      rcases List.mem_append.1 h with h | h
      · obtain ⟨j, a, b, c⟩ := bl_dst k x h; exact ⟨j, by omega, b, c⟩
      · exact ⟨k, by omega, hb, by simpa using h⟩
    · obtain ⟨j, a, b, c⟩ := bl_dst k x h; exact ⟨j, by omega, b, c⟩

theorem frameEq (F : Fit ops n fl) (bs : Nat → Nat) : ∀ k, k ≤ n → frm ops (vals isB vA mk bs) (fun _ => true) k a0 = putBs (frm ops vA (fun j => !isB j) k a0) (blOf ops isB mk obj k) (numsOf isB bs k)
  | 0, _ => rfl
  | k + 1, hk => by
    have ih := frameEq F bs k (by omega)
    cases hb : isB k with
    | true =>
      simp only [frm, blOf, numsOf, hb, if_true]
      simp only [Bool.not_true, Bool.false_eq_true, if_false]
      rw [putBs_snoc _ _ _ _ _ (len_same bs k), ← ih]
      simp [vals, hb]
    | false =>
      simp only [frm, blOf, numsOf, hb, if_true, Bool.not_false, Bool.false_eq_true, if_false]
      rw [putBs_put, ← ih]
      · simp [vals, hb]
      · intro x hx t ht
        obtain ⟨j, hj, _, rfl⟩ := bl_dst k x hx
        intro e
        exact F.apart j k (by omega) (by omega) (by omega) t e ht

theorem nums_at (bs : Nat → Nat) : ∀ (k j b : Nat) (x : BRow), (numsOf isB bs k)[j]? = some b → (blOf ops isB mk obj k)[j]? = some x → ∃ i, i < k ∧ isB i = true ∧ b = bs i ∧ x = (dstOf ops i, mk i, obj i)
  | 0, j, b, x, h, _ => by simp [numsOf] at h
  | k + 1, j, b, x, h, hx => by
    unfold numsOf at h
    unfold blOf at hx
    have hl := len_same (ops := ops) (mk := mk) (obj := obj) (isB := isB) bs k
    split at h
    · rename_i hb
      rw [if_pos hb] at hx
      by_cases hj : j < (numsOf isB bs k).length
      · rw [List.getElem?_append_left hj] at h
        rw [List.getElem?_append_left (by omega)] at hx
        obtain ⟨i, a, c⟩ := nums_at bs k j b x h hx
        exact ⟨i, by omega, c⟩
      · rw [List.getElem?_append_right (by omega)] at h
        rw [List.getElem?_append_right (by omega)] at hx
        rw [← hl] at hx
        have hj0 : j - (numsOf isB bs k).length = 0 := by
          rcases Nat.eq_zero_or_pos (j - (numsOf isB bs k).length) with h' | h'
          · exact h'
          · rw [List.getElem?_eq_none (by simp; omega)] at h; cases h
        rw [hj0] at h hx
        simp at h hx
        exact ⟨k, by omega, hb, h.symm, hx.symm⟩
    · rename_i hb
      rw [if_neg hb] at hx
      obtain ⟨i, a, c⟩ := nums_at bs k j b x h hx
      exact ⟨i, by omega, c⟩

theorem nums_mem (bs : Nat → Nat) : ∀ k b, b ∈ numsOf isB bs k → ∃ i, i < k ∧ isB i = true ∧ b = bs i
  | 0, b, h => by simp [numsOf] at h
  | k + 1, b, h => by
    unfold numsOf at h
    split at h
    · rename_i hb
      rcases List.mem_append.1 h with h | h
      · obtain ⟨i, a, c⟩ := nums_mem bs k b h; exact ⟨i, by omega, c⟩
      · exact ⟨k, by omega, hb, by simpa using h⟩
    · obtain ⟨i, a, c⟩ := nums_mem bs k b h; exact ⟨i, by omega, c⟩

theorem nums_apart (bs : Nat → Nat) : ∀ k, (∀ i j, i < k → j < k → isB i = true → isB j = true → i ≠ j → bs i ≠ bs j) → (numsOf isB bs k).Pairwise (· ≠ ·)
  | 0, _ => by simp [numsOf]
  | k + 1, h => by
    have ih := nums_apart bs k (fun i j hi hj => h i j (by omega) (by omega))
    unfold numsOf
    split
    · rename_i hb
      rw [List.pairwise_append]
      refine ⟨ih, by simp, fun x hx y hy => ?_⟩
      obtain ⟨i, hi, hbi, rfl⟩ := nums_mem bs k x hx
      have : y = bs k := by simpa using hy
      subst this
      exact h i k (by omega) (by omega) hbi hb (by omega)
    · exact ih

/-- What is asked behind the first n operations. -/
def Fin (P : Program) (ops : Array Oper) (w0 : World) (n : Nat) (Q : Exit → Act → World → Prop) (bl : List BRow) (a : Act) : Prop :=
  ∀ (w : World) (ns : List Nat), ns.length = bl.length → Ext w0 w → ns.Pairwise (· ≠ ·) → (∀ (j b : Nat) (x : BRow), ns[j]? = some b → bl[j]? = some x → w0.heap.size ≤ b ∧ w.heap[b]? = some x.2.2) →
    wpList P ops Q (ops.toList.drop n) (putBs a bl ns) w

theorem wpPar_go (F : Fit ops n fl) {Q : Exit → Act → World → Prop} (hQ : ∀ c (a : Act) d v w, Q (.panic c) (a.put d v) w → Q (.panic c) a w) (a0 : Act) : ∀ (l : List Oper) (k : Nat) (isB : Nat → Bool) (vA : Nat → Value) (mk : Nat → Nat → Value) (obj : Nat → Obj),
    (∀ j, j < l.length → l[j]? = ops[k + j]?) → k + l.length = n → Plan P ops w0 fl k a0 isB vA mk obj → (∀ i o, i < k → ops[i]? = some o → isB i = true → noLook ops n o.dst = true) →
    wpPar P ops w0 n fl (Fin P ops w0 n Q) k l (blOf ops isB mk obj k) (frm ops vA (fun j => !isB j) k a0) →
    ∀ (w : World), Ext w0 w → wpAny P .any ops Q ops.size (Array.replicate ops.size false) a0 w
  | [], k, isB, vA, mk, obj, _, hk, H, hno, h, w, hw => by
    have hkn : k = n := by simpa using hk
    subst hkn
    have H' : Plan P ops w0 fl k a0 isB vA mk obj := ⟨H.plain, H.made, hno, H.floats⟩
    have hc : cnt (st (Array.replicate ops.size false)) k = k := by
      have : ∀ m, m ≤ k → cnt (st (Array.replicate ops.size false)) m = m := by
        intro m
        induction m with
        | zero => intro _; rfl
        | succ m ih =>
          intro hm
          have hms : m < ops.size := by have := F.lt; omega
          unfold cnt
          rw [ih (by omega)]
          simp [st, hms]
      exact this k (Nat.le_refl _)
    have := game F H' (Q := Q) hQ (fun w bs hw hm ha => by
      rw [frameEq (mk := mk) (obj := obj) F bs k (Nat.le_refl _)]
      have h' : Fin P ops w0 k Q (blOf ops isB mk obj k) (frm ops vA (fun j => !isB j) k a0) := h
      refine h' w (numsOf isB bs k) (len_same bs k) hw (nums_apart bs k ha) ?_
      intro j b x hb hx
      obtain ⟨i, hi, hbi, rfl, rfl⟩ := nums_at bs k j b x hb hx
      exact hm i hi hbi) k (Array.replicate ops.size false) a0 w (fun _ => 0) hc
      ⟨⟨by simp, fun j oj _ hl => (by rw [getD_replicate_false] at hl; cases hl), fun t _ ht => getD_in (by simpa using ht) (getD_replicate_false _ _)⟩,
        by
          have : ∀ m, m ≤ k → frm ops (vals isB vA mk fun _ => 0) (st (Array.replicate ops.size false)) m a0 = a0 := by
            intro m
            induction m with
            | zero => intro _; rfl
            | succ m ih =>
              intro hm
              have hms : m < ops.size := by have := F.lt; omega
              unfold frm
              rw [ih (by omega)]
              simp [st, hms]
          exact (this k (Nat.le_refl _)).symm,
        hw, fun i hi _ hs => by
          have hms : i < ops.size := by have := F.lt; omega
          simp [st, hms] at hs, fun i j hi _ _ _ hs _ _ => by
          have hms : i < ops.size := by have := F.lt; omega
          simp [st, hms] at hs⟩
    rw [show k + (ops.size - k) = ops.size by have := F.lt; omega] at this
    exact this
  | o :: l, k, isB, vA, mk, obj, hl, hk, H, hno, h, w, hw => by
    have ho : ops[k]? = some o := by have := hl 0 (by simp); simpa using this.symm
    have hdst : dstOf ops k = o.dst := by simp [dstOf, ho]
    have hl' : ∀ j, j < l.length → l[j]? = ops[k + 1 + j]? := fun j hj => by
      have := hl (j + 1) (by simpa using hj)
      simpa [Nat.add_assoc, Nat.add_comm 1 j] using this
    have hk' : k + 1 + l.length = n := by simp at hk; omega
    rcases h with ⟨v, hy, hyf, hrest⟩ | ⟨mk1, obj1, hm, hnl, hnf, hrest⟩
    · -- a value
      let isB' : Nat → Bool := fun j => if j = k then false else isB j
      let vA' : Nat → Value := fun j => if j = k then v else vA j
      have eB : ∀ j, j < k → isB' j = isB j := fun j hj => by simp [isB', show j ≠ k by omega]
      have eV : ∀ j, j < k → vA' j = vA j := fun j hj => by simp [vA', show j ≠ k by omega]
      have ef : ∀ i, i ≤ k → frm ops vA' (fun j => !isB' j) i a0 = frm ops vA (fun j => !isB j) i a0 := fun i hi =>
        frm_congr _ _ _ _ a0 i (fun j hj => ⟨by simp only [eB j (by omega)], fun _ => eV j (by omega)⟩)
      have eb : ∀ i, i ≤ k → blOf ops isB' mk obj i = blOf ops isB mk obj i := by
        intro i
        induction i with
        | zero => intro _; rfl
        | succ i ih => intro hi; unfold blOf; rw [ih (by omega), eB i (by omega)]
      refine wpPar_go F hQ a0 l (k + 1) isB' vA' mk obj hl' hk' ⟨?_, ?_, ?_, ?_⟩ ?_ ?_ w hw
      · intro i oi hi hoi hb
        by_cases hik : i = k
        · subst hik
          have : oi = o := Option.some.inj (hoi.symm.trans ho)
          subst this
          rw [ef i (Nat.le_refl _)]
          simpa [vA'] using hy
        · have hi' : i < k := by omega
          rw [ef i (by omega), eV i hi']
          exact H.plain i oi hi' hoi (by rw [← eB i hi']; exact hb)
      · intro i oi hi hoi hb
        have hik : i ≠ k := fun e => by subst e; simp [isB'] at hb
        have hi' : i < k := by omega
        rw [ef i (by omega)]
        exact H.made i oi hi' hoi (by rw [← eB i hi']; exact hb)
      · intro i oi hi hoi hb
        have hik : i ≠ k := fun e => by subst e; simp [isB'] at hb
        have hi' : i < k := by omega
        have := hno i oi hi' hoi (by rw [← eB i hi']; exact hb)
        refine List.all_eq_true.2 fun q hq => List.all_eq_true.1 this q (List.mem_range.2 ?_)
        have := List.mem_range.1 hq
        omega
      · intro i oi hi hoi hf
        by_cases hik : i = k
        · subst hik
          have : oi = o := Option.some.inj (hoi.symm.trans ho)
          subst this
          refine ⟨by simp [isB'], ?_⟩
          rw [ef i (Nat.le_refl _)]
          simpa [vA'] using hyf hf
        · have hi' : i < k := by omega
          obtain ⟨f1, f2⟩ := H.floats i oi hi' hoi hf
          refine ⟨by rw [eB i hi']; exact f1, ?_⟩
          rw [ef i (by omega), eV i hi']
          exact f2
      · intro i oi hi hoi hb
        have hik : i ≠ k := fun e => by subst e; simp [isB'] at hb
        have hi' : i < k := by omega
        exact hno i oi hi' hoi (by rw [← eB i hi']; exact hb)
      · have e1 : blOf ops isB' mk obj (k + 1) = blOf ops isB mk obj k := by
          rw [blOf_succ, eb k (Nat.le_refl _)]; simp [isB']
        have e2 : frm ops vA' (fun j => !isB' j) (k + 1) a0 = (frm ops vA (fun j => !isB j) k a0).put o.dst v := by
          rw [frm_succ, ef k (Nat.le_refl _), hdst]; simp [isB', vA']
        rw [e1, e2]
        exact hrest
    · -- a block
      let isB' : Nat → Bool := fun j => if j = k then true else isB j
      let mk' : Nat → Nat → Value := fun j => if j = k then mk1 else mk j
      let obj' : Nat → Obj := fun j => if j = k then obj1 else obj j
      have eB : ∀ j, j < k → isB' j = isB j := fun j hj => by simp [isB', show j ≠ k by omega]
      have eM : ∀ j, j < k → mk' j = mk j := fun j hj => by simp [mk', show j ≠ k by omega]
      have eO : ∀ j, j < k → obj' j = obj j := fun j hj => by simp [obj', show j ≠ k by omega]
      have ef : ∀ i, i ≤ k → frm ops vA (fun j => !isB' j) i a0 = frm ops vA (fun j => !isB j) i a0 := fun i hi =>
        frm_congr _ _ _ _ a0 i (fun j hj => ⟨by simp only [eB j (by omega)], fun _ => rfl⟩)
      have eb : ∀ i, i ≤ k → blOf ops isB' mk' obj' i = blOf ops isB mk obj i := by
        intro i
        induction i with
        | zero => intro _; rfl
        | succ i ih => intro hi; unfold blOf; rw [ih (by omega), eB i (by omega), eM i (by omega), eO i (by omega)]
      refine wpPar_go F hQ a0 l (k + 1) isB' vA mk' obj' hl' hk' ⟨?_, ?_, ?_, ?_⟩ ?_ ?_ w hw
      · intro i oi hi hoi hb
        have hik : i ≠ k := fun e => by subst e; simp [isB'] at hb
        have hi' : i < k := by omega
        rw [ef i (by omega)]
        exact H.plain i oi hi' hoi (by rw [← eB i hi']; exact hb)
      · intro i oi hi hoi hb
        by_cases hik : i = k
        · subst hik
          have : oi = o := Option.some.inj (hoi.symm.trans ho)
          subst this
          rw [ef i (Nat.le_refl _)]
          simpa [mk', obj'] using hm
        · have hi' : i < k := by omega
          rw [ef i (by omega), eM i hi', eO i hi']
          exact H.made i oi hi' hoi (by rw [← eB i hi']; exact hb)
      · intro i oi hi hoi hb
        have hall : noLook ops n oi.dst = true := by
          by_cases hik : i = k
          · subst hik
            have : oi = o := Option.some.inj (hoi.symm.trans ho)
            subst this
            exact hnl
          · have hi' : i < k := by omega
            exact hno i oi hi' hoi (by rw [← eB i hi']; exact hb)
        refine List.all_eq_true.2 fun q hq => List.all_eq_true.1 hall q (List.mem_range.2 ?_)
        have := List.mem_range.1 hq
        omega
      · intro i oi hi hoi hf
        have hik : i ≠ k := fun e => by subst e; rw [hnf] at hf; cases hf
        have hi' : i < k := by omega
        obtain ⟨f1, f2⟩ := H.floats i oi hi' hoi hf
        refine ⟨by rw [eB i hi']; exact f1, ?_⟩
        rw [ef i (by omega)]
        exact f2
      · intro i oi hi hoi hb
        by_cases hik : i = k
        · subst hik
          have : oi = o := Option.some.inj (hoi.symm.trans ho)
          subst this
          exact hnl
        · have hi' : i < k := by omega
          exact hno i oi hi' hoi (by rw [← eB i hi']; exact hb)
      · have e1 : blOf ops isB' mk' obj' (k + 1) = blOf ops isB mk obj k ++ [(o.dst, mk1, obj1)] := by
          rw [blOf_succ, eb k (Nat.le_refl _), hdst]; simp [isB', mk', obj']
        have e2 : frm ops vA (fun j => !isB' j) (k + 1) a0 = frm ops vA (fun j => !isB j) k a0 := by
          rw [frm_succ, ef k (Nat.le_refl _)]; simp [isB']
        rw [e1, e2]
        exact hrest

/-- THE RULE. -/
theorem region {id : Nat} {Q : Exit → Act → World → Prop} {a : Act} {w : World} {l : List Oper} (n : Nat) (fl : List Nat) (hm : P.follows .mixedOrders = true) (hB : parB l.toArray n fl = true)
    (hQ0 : ∀ c (a : Act) (t : Tmp) v w, Q (.panic c) (a.put (some t) v) w → Q (.panic c) a w)
    (h : wpPar P l.toArray w n fl (Fin P l.toArray w n Q) 0 (l.take n) [] a) : (Code.region id l.toArray true).wp P Q a w := by
  have F := Fit.of hB
  have hQ : ∀ c (a : Act) d v w, Q (.panic c) (a.put d v) w → Q (.panic c) a w := fun c a d v w h => by
    cases d with
    | none => exact h
    | some t => exact hQ0 c a t v w h
  refine wp_region_any hm ?_
  have hlt : n < l.length := by simpa using F.lt
  exact wpPar_go F hQ a (l.take n) 0 (fun _ => false) (fun _ => undef) (fun _ _ => undef) (fun _ => .cells #[] 0) (fun j hj => by
      have hj' : j < n := by simp at hj; omega
      simp [hj']) (by simp; omega)
    ⟨fun i _ hi => absurd hi (by omega), fun i _ hi => absurd hi (by omega), fun i _ hi => absurd hi (by omega), fun i _ hi => absurd hi (by omega)⟩ (fun i _ hi => absurd hi (by omega)) h _ (Ext.refl w).drew

theorem box_cell {w : World} {b : Nat} {cs : Array Value} {t : TypeId} (h : w.heap[b]? = some (.cells cs t)) (i : Nat) : w.cell? ⟨b, i, none⟩ = cs[i]? := cell_of_row w b i cs t (0, 0) h
theorem box_free {w : World} {b : Nat} {cs : Array Value} {t : TypeId} (h : w.heap[b]? = some (.cells cs t)) (i : Nat) : w.frozen? ⟨b, i, none⟩ = false := by
  simp [World.frozen?, h]
theorem box3 {w : World} {b : Nat} {x y z : Value} {t : TypeId} (h : w.heap[b]? = some (.cells #[x, y, z] t)) :
    w.cell? ⟨b, 0, none⟩ = some x ∧ w.cell? ⟨b, 1, none⟩ = some y ∧ w.cell? ⟨b, 2, none⟩ = some z ∧ w.frozen? ⟨b, 0, none⟩ = false ∧ w.frozen? ⟨b, 1, none⟩ = false ∧ w.frozen? ⟨b, 2, none⟩ = false :=
  ⟨by simp [box_cell h], by simp [box_cell h], by simp [box_cell h], box_free h 0, box_free h 1, box_free h 2⟩
theorem box2 {w : World} {b : Nat} {x y : Value} {t : TypeId} (h : w.heap[b]? = some (.cells #[x, y] t)) :
    w.cell? ⟨b, 0, none⟩ = some x ∧ w.cell? ⟨b, 1, none⟩ = some y ∧ w.frozen? ⟨b, 0, none⟩ = false ∧ w.frozen? ⟨b, 1, none⟩ = false :=
  ⟨by simp [box_cell h], by simp [box_cell h], box_free h 0, box_free h 1⟩

theorem Ext.below {a w : World} (h : Ext a w) : Below a.heap.size a w := h
theorem Ext.of_below {a w : World} (h : Below a.heap.size a w) : Ext a w := h
attribute [irreducible] Ext

/-! ### The steps of the walk -/
variable {Q : List BRow → Act → Prop} {o : Oper} {rest : List Oper} {bl : List BRow} {a : Act} {k : Nat}

theorem step_val (v : Value) (hf : fl.contains k = false) (hw : Region.wanted o (yielded ops a.tmps) = true)
    (h : ∀ w', Ext w0 w' → (∀ b off, b < w0.heap.size → w'.cell? ⟨b, off, none⟩ = w0.cell? ⟨b, off, none⟩) → Oper.quietUpon P (Ext w') w' v ((execOp a.eval o).run P w'))
    (next : ∀ K : Act → Prop, (∀ a, wpPar P ops w0 n fl Q (k + 1) rest bl a → K a) → K (a.put o.dst v)) : wpPar P ops w0 n fl Q k (o :: rest) bl a :=
  .inl ⟨v, .inl ⟨hw, fun w' hx => h w' hx hx.cells⟩, fun h => (by rw [hf] at h; cases h), next _ (fun _ h => h)⟩

/-- An operation that hangs on no memory: it may float. -/
theorem step_pure (v : Value) (hw : Region.wanted o (yielded ops a.tmps) = true) (h : ∀ w', (execOp a.eval o).run P w' = .ok (.value v) w')
    (next : ∀ K : Act → Prop, (∀ a, wpPar P ops w0 n fl Q (k + 1) rest bl a → K a) → K (a.put o.dst v)) : wpPar P ops w0 n fl Q k (o :: rest) bl a :=
  .inl ⟨v, .inl ⟨hw, fun w' _ => by rw [h w']; exact ⟨rfl, rfl⟩⟩, fun _ => .inl ⟨hw, h⟩, next _ (fun _ h => h)⟩

theorem step_skip (hw : Region.wanted o (yielded ops a.tmps) = false)
    (next : ∀ K : Act → Prop, (∀ a, wpPar P ops w0 n fl Q (k + 1) rest bl a → K a) → K (a.put o.dst undef)) : wpPar P ops w0 n fl Q k (o :: rest) bl a :=
  .inl ⟨undef, .inr ⟨hw, rfl⟩, fun _ => .inr ⟨hw, rfl⟩, next _ (fun _ h => h)⟩

theorem step_make (mk : Nat → Value) (obj : Obj) (hf : fl.contains k = false) (hw : Region.wanted o (yielded ops a.tmps) = true)
    (h : ∀ w', Ext w0 w' → (execOp a.eval o).run P w' = .ok (.value (mk w'.heap.size)) (w'.alloc obj)) (hno : noLook ops n o.dst = true)
    (next : wpPar P ops w0 n fl Q (k + 1) rest (bl ++ [(o.dst, mk, obj)]) a) : wpPar P ops w0 n fl Q k (o :: rest) bl a :=
  .inr ⟨mk, obj, ⟨hw, h⟩, hno, hf, next⟩

theorem fin_none {Q : Exit → Act → World → Prop} (h : ∀ w', Ext w0 w' → wpList P ops Q (ops.toList.drop n) a w') : wpPar P ops w0 n fl (Fin P ops w0 n Q) k [] [] a := by
  intro w' ns hl hx _ _
  have : ns = [] := List.length_eq_zero_iff.1 hl
  subst this
  exact h w' hx

theorem fin_one {Q : Exit → Act → World → Prop} {d : Option Tmp} {mk : Nat → Value} {obj : Obj}
    (h : ∀ w' b, Ext w0 w' → w0.heap.size ≤ b → w'.heap[b]? = some obj → ∀ K : Act → World → Prop, (∀ a, wpList P ops Q (ops.toList.drop n) a w' → K a w') → K (a.put d (mk b)) w') : wpPar P ops w0 n fl (Fin P ops w0 n Q) k [] [(d, mk, obj)] a := by
  intro w' ns hl hx _ hb
  match ns, hl with
  | [b], _ =>
    obtain ⟨h1, h2⟩ := hb 0 b _ rfl rfl
    exact h w' b hx h1 h2 (fun a w' => wpList P ops Q (ops.toList.drop n) a w') (fun _ h => h)

theorem fin_two {Q : Exit → Act → World → Prop} {d e : Option Tmp} {mk mk' : Nat → Value} {obj obj' : Obj}
    (h : ∀ w' b c, Ext w0 w' → w0.heap.size ≤ b → w0.heap.size ≤ c → b ≠ c → w'.heap[b]? = some obj → w'.heap[c]? = some obj' →
      ∀ K : Act → World → Prop, (∀ a, wpList P ops Q (ops.toList.drop n) a w' → K a w') → K ((a.put d (mk b)).put e (mk' c)) w') : wpPar P ops w0 n fl (Fin P ops w0 n Q) k [] [(d, mk, obj), (e, mk', obj')] a := by
  intro w' ns hl hx hp hb
  match ns, hl with
  | [b, c], _ =>
    obtain ⟨h1, h2⟩ := hb 0 b _ rfl rfl
    obtain ⟨h3, h4⟩ := hb 1 c _ rfl rfl
    have hne : b ≠ c := by simpa using hp
    exact h w' b c hx h1 h3 hne h2 h4 (fun a w' => wpList P ops Q (ops.toList.drop n) a w') (fun _ h => h)

end
end Go.Par
