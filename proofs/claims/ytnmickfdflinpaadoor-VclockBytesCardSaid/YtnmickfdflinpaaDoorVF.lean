/- Contracts of vclock: Get, Tick. -/
import Derived.Test.YtnmickfdflinpaaDoorVE
namespace Go.Proofs.YtnmickfdflinpaaDoor
open Go.RowKit Go.Par
def getF (x : Nat → Int) (i : Int) : Int := if 0 ≤ i ∧ i < 16 then x i.toNat else 0
set_option maxRecDepth 100000 in
set_option maxHeartbeats 1000000 in
theorem get_any (x : Nat → Int) (i : Int) (w : World) :
    Calls Tryd.prog 39 #[ck x, .int .i64 i] w fun e w' => e = .returned (.int .u64 (getF x i)) ∧ Ext w w' := by
  unfold ck getF
  by_cases h0 : i < 0
  · rw [if_neg (by omega)]
    go_enter Tryd.func39, Tryd.ntmps39
    go_wp2_with fail
    go_ret
    exact ⟨rfl, (by repeat (first | (with_reducible exact Ext.refl _) | (with_reducible assumption) | (with_reducible refine Ext.alloc ?_ _) | (with_reducible refine Ext.drewN ?_ _) | (with_reducible refine Ext.drew ?_) | (with_reducible refine Ext.setCell ?_ (by simp <;> omega) _)))⟩
  · by_cases h1 : i < 16
    · obtain ⟨k, rfl⟩ := Int.eq_ofNat_of_zero_le (show 0 ≤ i by omega)
      rw [if_pos (by omega), Int.toNat_natCast]
      have hk : k < 16 := by omega
      obtain ⟨cx, fx⟩ := (CkAt.new w x 26).1 k hk
      generalize x k = v at *
      have k1 : (k : Int) < 16 := by omega
      go_enter Tryd.func39, Tryd.ntmps39
      go_wp2_with fail
      go_ret
      exact ⟨rfl, (by repeat (first | (with_reducible exact Ext.refl _) | (with_reducible assumption) | (with_reducible refine Ext.alloc ?_ _) | (with_reducible refine Ext.drewN ?_ _) | (with_reducible refine Ext.drew ?_) | (with_reducible refine Ext.setCell ?_ (by simp <;> omega) _)))⟩
    · rw [if_neg (by omega)]
      have h2 : 16 ≤ i := by omega
      go_enter Tryd.func39, Tryd.ntmps39
      go_wp2_with fail
      go_ret
      exact ⟨rfl, (by repeat (first | (with_reducible exact Ext.refl _) | (with_reducible assumption) | (with_reducible refine Ext.alloc ?_ _) | (with_reducible refine Ext.drewN ?_ _) | (with_reducible refine Ext.drew ?_) | (with_reducible refine Ext.setCell ?_ (by simp <;> omega) _)))⟩
end Go.Proofs.YtnmickfdflinpaaDoor
