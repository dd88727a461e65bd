/- Contracts of vclock: length, Get, Tick. -/
import Derived.Test.YtnmickfdflinpaaDoorVC
namespace Go.Proofs.YtnmickfdflinpaaDoor
open Go.RowKit Go.Par
/-- The number of entries up to the last one below k that is not 0. -/
def lenK (x : Nat → Int) : Nat → Nat
  | 0 => 0
  | k + 1 => if x k = 0 then lenK x k else k + 1
theorem lenK_le (x : Nat → Int) : ∀ k, lenK x k ≤ k
  | 0 => Nat.le_refl _
  | k + 1 => by
    have := lenK_le x k
    unfold lenK
    split <;> omega
set_option maxRecDepth 100000 in
set_option maxHeartbeats 1000000 in
theorem length_any (x : Nat → Int) (w : World) :
    Calls Tryd.prog 33 #[ck x] w fun e w' => e = .returned (.int .i64 (lenK x 16)) ∧ Ext w w' := by
  unfold ck
  go_enter Tryd.func33, Tryd.ntmps33
  go_wp2_with fail
  go_loopw [3, 5] (fun n i W => ∃ k : Nat, k ≤ 16 ∧ i = .int .i64 k ∧ n = .int .i64 (lenK x k) ∧ Ext w W ∧ CkAt W w.heap.size x) (fun _ i _ => 16 - (intOf i).toNat)
  case atStart => exact ⟨0, by omega, rfl, rfl, (by repeat (first | (with_reducible exact Ext.refl _) | (with_reducible assumption) | (with_reducible refine Ext.alloc ?_ _) | (with_reducible refine Ext.drewN ?_ _) | (with_reducible refine Ext.drew ?_) | (with_reducible refine Ext.setCell ?_ (by simp <;> omega) _))), CkAt.new w x 26⟩
  case round =>
    obtain ⟨k, hk, rfl, rfl, hE, hX⟩ := hrel
    have HX := Lib.hid hX
    clear hX
    by_cases hlt : k < 16
    · obtain ⟨cx, fx⟩ := HX.out.1 k hlt
      have k0 : (0 : Int) ≤ k := by omega
      have k1 : (k : Int) < 16 := by omega
      by_cases hz : x k = 0
      · have HN : Hid (lenK x (k + 1) = lenK x k) := Lib.hid (by simp [lenK, hz])
        rw [hz] at cx
        generalize lenK x k = m at *
        go_wp2_with fail
        go_roundw
        case rel => exact ⟨k + 1, by omega, by go_num, by rw [HN.out], (by repeat (first | (with_reducible exact Ext.refl _) | (with_reducible assumption) | (with_reducible refine Ext.alloc ?_ _) | (with_reducible refine Ext.drewN ?_ _) | (with_reducible refine Ext.drew ?_) | (with_reducible refine Ext.setCell ?_ (by simp <;> omega) _))), HX.out.ext (by repeat (first | (with_reducible exact Ext.refl _) | (with_reducible assumption) | (with_reducible refine Ext.alloc ?_ _) | (with_reducible refine Ext.drewN ?_ _) | (with_reducible refine Ext.drew ?_) | (with_reducible refine Ext.setCell ?_ (by simp <;> omega) _)))⟩
        case measure => simp [intOf]; omega
      · have HN : Hid (lenK x (k + 1) = k + 1) := Lib.hid (by simp [lenK, hz])
        have hz' : (x k != 0) = true := by simp [hz]
        generalize lenK x k = m at *
        generalize x k = v at *
        go_wp2_with fail
        go_roundw
        case rel => exact ⟨k + 1, by omega, by go_num, by rw [HN.out]; go_num, (by repeat (first | (with_reducible exact Ext.refl _) | (with_reducible assumption) | (with_reducible refine Ext.alloc ?_ _) | (with_reducible refine Ext.drewN ?_ _) | (with_reducible refine Ext.drew ?_) | (with_reducible refine Ext.setCell ?_ (by simp <;> omega) _))), HX.out.ext (by repeat (first | (with_reducible exact Ext.refl _) | (with_reducible assumption) | (with_reducible refine Ext.alloc ?_ _) | (with_reducible refine Ext.drewN ?_ _) | (with_reducible refine Ext.drew ?_) | (with_reducible refine Ext.setCell ?_ (by simp <;> omega) _)))⟩
        case measure => simp [intOf]; omega
    · obtain rfl : k = 16 := by omega
      go_wp2_with fail
      go_ret
      exact ⟨rfl, (by repeat (first | (with_reducible exact Ext.refl _) | (with_reducible assumption) | (with_reducible refine Ext.alloc ?_ _) | (with_reducible refine Ext.drewN ?_ _) | (with_reducible refine Ext.drew ?_) | (with_reducible refine Ext.setCell ?_ (by simp <;> omega) _)))⟩
end Go.Proofs.YtnmickfdflinpaaDoor
