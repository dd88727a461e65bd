/- Clocks in memory; contracts of vclock: Leq. -/
import Derived.Test.YtnmickfdflinpaaDoorRows
import Derived.Test.YtnmickfdflinpaaDoorPar
import Derived.WalkKit
import Derived.WalkSpells
import Derived.WalkLawsBesides
import Derived.Deep.QuietTactic
import Derived.BigQuiet
import Derived.RegionTactic
import Derived.ChangeAlike
import Derived.Lib.Hide
namespace Go.Proofs.YtnmickfdflinpaaDoor
open Go.RowKit Go.Par

theorem ret_int {k : IntKind} {a b : Int} (h : a = b) : Ending.returned (.int k a) = .returned (.int k b) := by rw [h]
theorem ret_bool {a b : Bool} (h : a = b) : Ending.returned (.bool a) = .returned (.bool b) := by rw [h]
/-- The cells of a clock. -/
def ckA (x : Nat → Int) : Array Value := #[.int .u64 (x 0), .int .u64 (x 1), .int .u64 (x 2), .int .u64 (x 3), .int .u64 (x 4), .int .u64 (x 5), .int .u64 (x 6), .int .u64 (x 7), .int .u64 (x 8), .int .u64 (x 9), .int .u64 (x 10), .int .u64 (x 11), .int .u64 (x 12), .int .u64 (x 13), .int .u64 (x 14), .int .u64 (x 15)]
def ck (x : Nat → Int) : Value := .agg (ckA x)
theorem ck_get (x : Nat → Int) (k : Nat) (h : k < 16) : (ckA x)[k]? = some (.int .u64 (x k)) := by
  have : k = 0 ∨ k = 1 ∨ k = 2 ∨ k = 3 ∨ k = 4 ∨ k = 5 ∨ k = 6 ∨ k = 7 ∨ k = 8 ∨ k = 9 ∨ k = 10 ∨ k = 11 ∨ k = 12 ∨ k = 13 ∨ k = 14 ∨ k = 15 := by omega
  rcases this with rfl | rfl | rfl | rfl | rfl | rfl | rfl | rfl | rfl | rfl | rfl | rfl | rfl | rfl | rfl | rfl <;> rfl
theorem ck_size (x : Nat → Int) : (ckA x).size = 16 := rfl
/-- A clock lies in block b; it may be written. -/
def CkAt (W : World) (b : Nat) (x : Nat → Int) : Prop := (∀ k, k < 16 → W.cell? ⟨b, k, none⟩ = some (.int .u64 (x k)) ∧ W.frozen? ⟨b, k, none⟩ = false) ∧ b < W.heap.size
theorem CkAt.ext {W W' : World} {b : Nat} {x : Nat → Int} (h : CkAt W b x) (k : Ext W W') : CkAt W' b x :=
  ⟨fun i hi => ⟨(k.cells _ _ h.2).trans (h.1 i hi).1, (k.marks _ _ h.2).trans (h.1 i hi).2⟩, Nat.lt_of_lt_of_le h.2 k.size⟩
theorem CkAt.new (W : World) (x : Nat → Int) (t : TypeId) : CkAt (W.alloc (.cells (ckA x) t)) W.heap.size x := by
  refine ⟨fun i hi => ⟨?_, ?_⟩, by simp⟩
  · have : (W.alloc (.cells (ckA x) t)).heap[W.heap.size]? = some (.cells (ckA x) t) := by
      show (W.heap.push _)[W.heap.size]? = _
      simp
    rw [box_cell this, ck_get x i hi]
  · have : (W.alloc (.cells (ckA x) t)).heap[W.heap.size]? = some (.cells (ckA x) t) := by
      show (W.heap.push _)[W.heap.size]? = _
      simp
    exact box_free this i
theorem size_alloc (W : World) (o : Obj) : (W.alloc o).heap.size = W.heap.size + 1 := by simp
theorem CkAt.drewN {W : World} {b : Nat} {x : Nat → Int} (h : CkAt W b x) (n : Nat) : CkAt (W.drewN n) b x := h.ext ((Ext.refl W).drewN n)
def leqF (x y : Nat → Int) : Bool := (List.range 16).all fun i => decide (x i ≤ y i)
theorem leq_true {x y : Nat → Int} (h : ∀ j, j < 16 → x j ≤ y j) : leqF x y = true := by
  unfold leqF
  rw [List.all_eq_true]
  intro i hi
  simpa using h i (by simpa using hi)
theorem leq_false {x y : Nat → Int} {k : Nat} (hk : k < 16) (h : y k < x k) : leqF x y = false := by
  unfold leqF
  rw [List.all_eq_false]
  exact ⟨k, by simpa using hk, by simp; omega⟩
def U64 (x : Nat → Int) : Prop := ∀ k, 0 ≤ x k ∧ x k < 18446744073709551616

set_option maxRecDepth 100000 in
set_option maxHeartbeats 1000000 in
theorem leq_any (x y : Nat → Int) (w : World) :
    Calls Tryd.prog 16 #[ck x, ck y] w fun e w' => e = .returned (.bool (leqF x y)) ∧ Ext w w' := by
  unfold ck
  go_enter Tryd.func16, Tryd.ntmps16
  go_wp2_with fail
  go_loopw [6] (fun i W => ∃ k : Nat, k ≤ 16 ∧ i = .int .i64 k ∧ Ext w W ∧ CkAt W w.heap.size x ∧ CkAt W (w.heap.size + 1) y ∧ ∀ j, j < k → x j ≤ y j) (fun i _ => 16 - (intOf i).toNat)
  case atStart =>
    exact ⟨0, by omega, rfl, (by repeat (first | (with_reducible exact Ext.refl _) | (with_reducible assumption) | (with_reducible refine Ext.alloc ?_ _) | (with_reducible refine Ext.drewN ?_ _) | (with_reducible refine Ext.drew ?_) | (with_reducible refine Ext.setCell ?_ (by simp <;> omega) _))), (CkAt.new w x 26).ext ((Ext.refl _).alloc _), (by have := CkAt.new (w.alloc (.cells (ckA x) 26)) y 26; rwa [size_alloc] at this), fun j hj => absurd hj (by omega)⟩
  case round =>
    obtain ⟨k, hk, rfl, hE, hX, hY, hall⟩ := hrel
    have HX := Lib.hid hX
    have HY := Lib.hid hY
    have Hall := Lib.hid hall
    clear hX hY hall
    by_cases hlt : k < 16
    · obtain ⟨cx, fx⟩ := HX.out.1 k hlt
      obtain ⟨cy, fy⟩ := HY.out.1 k hlt
      have k0 : (0 : Int) ≤ k := by omega
      have k1 : (k : Int) < 16 := by omega
      go_wp2_with fail
      go_quiet (fail)
      go_wp2_with fail
      case roundEnd hle =>
        go_roundw
        case rel => exact ⟨k + 1, by omega, by go_num, hE.drewN _, HX.out.drewN _, HY.out.drewN _, fun j hj => by
          by_cases e : j = k
          · subst e; assumption
          · exact Hall.out j (by omega)⟩
        case measure => simp [intOf]; omega
      go_ret
      exact ⟨ret_bool (leq_false hlt (by assumption)).symm, (by repeat (first | (with_reducible exact Ext.refl _) | (with_reducible assumption) | (with_reducible refine Ext.alloc ?_ _) | (with_reducible refine Ext.drewN ?_ _) | (with_reducible refine Ext.drew ?_) | (with_reducible refine Ext.setCell ?_ (by simp <;> omega) _)))⟩
    · obtain rfl : k = 16 := by omega
      go_wp2_with fail
      go_ret
      exact ⟨ret_bool (leq_true Hall.out).symm, (by repeat (first | (with_reducible exact Ext.refl _) | (with_reducible assumption) | (with_reducible refine Ext.alloc ?_ _) | (with_reducible refine Ext.drewN ?_ _) | (with_reducible refine Ext.drew ?_) | (with_reducible refine Ext.setCell ?_ (by simp <;> omega) _)))⟩
end Go.Proofs.YtnmickfdflinpaaDoor
