/- Contracts of package ratio: Make. -/
import Derived.Test.YtifhgkdajnngnaaDoorRD
import Derived.Deep.RegionWith
import Derived.BigRegion
namespace Go.Proofs.YtifhgkdajnngnaaDoor
open Go.RowKit Go.Par

set_option maxHeartbeats 1000000 in
theorem make_zero (n : Int) (w : World) : Calls Tryd.prog 13 #[.int .i64 n, .int .i64 0] w (RetR (0, 0, 1) w) := by
  go_enter Tryd.func13, Tryd.ntmps13
  go_wp2
  exact bodyPost_ret (v := .tuple #[.agg #[.int .i64 0, .int .i64 0], .int .i64 1]) (by simp [results, Tryd.results13, go_sem]) rfl ⟨rfl, (Ext.refl _).alloc _⟩

set_option maxRecDepth 100000 in
set_option maxHeartbeats 1000000 in
theorem make_any (n d : Int) (s : Bool) (hs : (!(decide (n < 0)) == (decide (d < 0))) = s) (hn0 : -9223372036854775808 ≤ n) (hn1 : n ≤ 9223372036854775807) (hd0 : -9223372036854775808 ≤ d) (hd1 : d ≤ 9223372036854775807) (hd : d ≠ 0) (w : World) :
    Calls Tryd.prog 13 #[.int .i64 n, .int .i64 d] w (RetR (res s (n.natAbs / Int.gcd n d) (d.natAbs / Int.gcd n d)) w) := by
  have e1 : (d == 0) = false := by simp [hd]
  go_enter Tryd.func13, Tryd.ntmps13
  go_wp2_with (first | (go_at_call 32; refine (size_any _ (by omega) (by omega) _).mono ?_; rintro e w' ⟨rfl, rfl⟩) | (go_at_call 31; refine (gcd_any _ _ (by omega) (by omega) (by omega) (by omega) _).mono ?_; rintro e w' ⟨rfl, rfl⟩))
  have hg : 0 < n.natAbs.gcd d.natAbs := Nat.gcd_pos_of_pos_right _ (by omega)
  have hgn : n.natAbs.gcd d.natAbs ≤ 9223372036854775808 := Nat.le_trans (Nat.gcd_le_right _ (by omega)) (by omega)
  have HR : Hid (res s (n.natAbs / Int.gcd n d) (d.natAbs / Int.gcd n d) = res s (0 * 18446744073709551616 + ((n.natAbs : Int) / ((n.natAbs.gcd d.natAbs : Nat) : Int))) (0 * 18446744073709551616 + (d.natAbs : Int) / ((n.natAbs.gcd d.natAbs : Nat) : Int))) := Lib.hid (by simp [Int.gcd])
  generalize n.natAbs.gcd d.natAbs = g at *
  have hgi : (0 : Int) < (g : Int) := by omega
  have hg0 : ¬ (g : Int) = 0 := by omega
  have ha0 : (0 : Int) ≤ (n.natAbs : Int) / (g : Int) := Int.ediv_nonneg (by omega) (by omega)
  have ha1 : (n.natAbs : Int) / (g : Int) ≤ 9223372036854775808 := Int.le_trans (Int.ediv_le_self _ (by omega)) (by omega)
  have hb0 : (0 : Int) ≤ (d.natAbs : Int) / (g : Int) := Int.ediv_nonneg (by omega) (by omega)
  have hb1 : (d.natAbs : Int) / (g : Int) ≤ 9223372036854775808 := Int.le_trans (Int.ediv_le_self _ (by omega)) (by omega)
  have hgN : ¬ g = 0 := by omega
  have hgB : ((g : Int) == 0) = false := by simp [hgN]
  have hta : IntKind.u64.wrap ((n.natAbs : Int) / (g : Int)) = (n.natAbs : Int) / (g : Int) := by rw [IntKind.wrap_u64]; omega
  have htb : IntKind.u64.wrap ((d.natAbs : Int) / (g : Int)) = (d.natAbs : Int) / (g : Int) := by rw [IntKind.wrap_u64]; omega
  go_region_with (first
    | (go_at_call 32; refine (size_any _ (by omega) (by omega) _).mono ?_; rintro e w' ⟨rfl, rfl⟩)
    | (go_at_call 33; refine (result_any s false 0 _ 0 _ (by omega) ha0 (by omega) (by omega) hb0 (by omega) _).mono ?_; rintro e w' ⟨rfl, o1, o2, o3, rfl⟩))
  go_wp2
  rw [HR.out]
  exact bodyPost_ret (v := .tuple #[.agg #[.int .i64 (res s (0 * 18446744073709551616 + ((n.natAbs : Int) / (g : Int))) (0 * 18446744073709551616 + (d.natAbs : Int) / (g : Int))).1, .int .i64 (res s (0 * 18446744073709551616 + ((n.natAbs : Int) / (g : Int))) (0 * 18446744073709551616 + (d.natAbs : Int) / (g : Int))).2.1], .int .i64 (res s (0 * 18446744073709551616 + ((n.natAbs : Int) / (g : Int))) (0 * 18446744073709551616 + (d.natAbs : Int) / (g : Int))).2.2])
    (by simp [results, Tryd.results13, go_sem]) rfl ⟨rfl, by repeat (first | exact Ext.refl _ | apply Ext.alloc | apply Ext.drew | apply Ext.drewN)⟩
end Go.Proofs.YtifhgkdajnngnaaDoor
