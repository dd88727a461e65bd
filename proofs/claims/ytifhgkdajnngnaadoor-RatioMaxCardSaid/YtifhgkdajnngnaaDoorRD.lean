/- Contracts of package ratio: plus, Make. -/
import Derived.Test.YtifhgkdajnngnaaDoorRC
import Derived.Deep.RegionHeld3
namespace Go.Proofs.YtifhgkdajnngnaaDoor
open Go.RowKit Go.Par

/-- A number of two words is handed back; six blocks more lie in memory. -/
def RetW6 (s : Bool) (m : Int) (w : World) (e : Ending) (w' : World) : Prop :=
  ∃ h l : Int, e = .returned (.agg #[.bool s, .int .u64 h, .int .u64 l]) ∧ 0 ≤ h ∧ h < 18446744073709551616 ∧ 0 ≤ l ∧ l < 18446744073709551616 ∧ Hid (h * 18446744073709551616 + l = m) ∧
    ∃ o1 o2 o3 o4 o5 o6, w' = (((((w.alloc o1).alloc o2).alloc o3).alloc o4).alloc o5).alloc o6

theorem add64_0 (x y : Int) (hx : 0 ≤ x) (hx' : x < 18446744073709551616) (hy : 0 ≤ y) (hy' : y < 18446744073709551616) (w : World) : (callFunc 69 #[.int .u64 x, .int .u64 y, .int .u64 0]).run Tryd.prog w =
    .ok (.value (.tuple #[.int .u64 ((x + y) % 18446744073709551616), .int .u64 ((x + y) / 18446744073709551616)])) w := by
  simpa using add64 x y 0 hx hx' hy hy' (Int.le_refl 0) (by decide) w
theorem sub64_0 (x y : Int) (hx : 0 ≤ x) (hx' : x < 18446744073709551616) (hy : 0 ≤ y) (hy' : y < 18446744073709551616) (w : World) : (callFunc 70 #[.int .u64 x, .int .u64 y, .int .u64 0]).run Tryd.prog w =
    .ok (.value (.tuple #[.int .u64 ((x - y) % 18446744073709551616), .int .u64 (-((x - y) / 18446744073709551616))])) w := by
  simpa using sub64 x y 0 hx hx' hy hy' (Int.le_refl 0) (by decide) w

set_option maxHeartbeats 1000000 in
theorem plus_same_sw (s : Bool) (ah al bh bl : Int) (a0 : 0 ≤ ah) (a1 : ah < 9223372036854775808) (a2 : 0 ≤ al) (a3 : al < 18446744073709551616) (b0 : 0 ≤ bh) (b1 : bh < 9223372036854775808) (b2 : 0 ≤ bl) (b3 : bl < 18446744073709551616) (w : World) (hlt : ah * 18446744073709551616 + al < bh * 18446744073709551616 + bl) :
    Calls Tryd.prog 56 #[.agg #[.bool s, .int .u64 ah, .int .u64 al], .agg #[.bool s, .int .u64 bh, .int .u64 bl]] w (RetW6 s ((ah * 18446744073709551616 + al) + (bh * 18446744073709551616 + bl)) w) := by
    have HC := Lib.hid (show cmpI (ah * 18446744073709551616 + al) (bh * 18446744073709551616 + bl) = -1 by unfold cmpI; rw [if_pos hlt])
    have HL := Lib.hid hlt
    clear hlt
    have k0 : 0 ≤ (bl + al) / 18446744073709551616 := by omega
    have k1 : (bl + al) / 18446744073709551616 ≤ 1 := by omega
    go_enter Tryd.func56, Tryd.ntmps56
    go_wp2_with fail
    refine (order_any s s ah al bh bl a2 a3 b2 b3 _).mono ?_
    rw [HC.out]
    rintro e w1 ⟨rfl, o1, o2, rfl⟩
    go_wp2_with (first | simp only [add64_0 bl al b2 b3 a2 a3] | simp only [add64 bh ah _ b0 (by omega) a0 (by omega) k0 k1])
    exact bodyPost_ret (v := .agg #[.bool s, .int .u64 ((bh + ah + (bl + al) / 18446744073709551616) % 18446744073709551616), .int .u64 ((bl + al) % 18446744073709551616)]) (by simp [results, Tryd.results56, go_sem]) rfl ⟨_, _, rfl, by omega, by omega, by omega, by omega, Lib.hid (by have := HL.out; omega), _, _, _, _, _, _, rfl⟩

set_option maxHeartbeats 1000000 in
theorem plus_same_no (s : Bool) (ah al bh bl : Int) (a0 : 0 ≤ ah) (a1 : ah < 9223372036854775808) (a2 : 0 ≤ al) (a3 : al < 18446744073709551616) (b0 : 0 ≤ bh) (b1 : bh < 9223372036854775808) (b2 : 0 ≤ bl) (b3 : bl < 18446744073709551616) (w : World) (hlt : ¬ ah * 18446744073709551616 + al < bh * 18446744073709551616 + bl) :
    Calls Tryd.prog 56 #[.agg #[.bool s, .int .u64 ah, .int .u64 al], .agg #[.bool s, .int .u64 bh, .int .u64 bl]] w (RetW6 s ((ah * 18446744073709551616 + al) + (bh * 18446744073709551616 + bl)) w) := by
    have HC := Lib.hid (show 0 ≤ cmpI (ah * 18446744073709551616 + al) (bh * 18446744073709551616 + bl) by unfold cmpI; rw [if_neg hlt]; split <;> decide)
    have HL := Lib.hid hlt
    clear hlt
    have k0 : 0 ≤ (al + bl) / 18446744073709551616 := by omega
    have k1 : (al + bl) / 18446744073709551616 ≤ 1 := by omega
    go_enter Tryd.func56, Tryd.ntmps56
    go_wp2_with fail
    refine (order_any s s ah al bh bl a2 a3 b2 b3 _).mono ?_
    generalize cmpI (ah * 18446744073709551616 + al) (bh * 18446744073709551616 + bl) = c at *
    rintro e w1 ⟨rfl, o1, o2, rfl⟩
    have hc0 : 0 ≤ c := HC.out
    go_wp2_with (first | simp only [add64_0 al bl a2 a3 b2 b3] | simp only [add64 ah bh _ a0 (by omega) b0 (by omega) k0 k1])
    exact bodyPost_ret (v := .agg #[.bool s, .int .u64 ((ah + bh + (al + bl) / 18446744073709551616) % 18446744073709551616), .int .u64 ((al + bl) % 18446744073709551616)]) (by simp [results, Tryd.results56, go_sem]) rfl ⟨_, _, rfl, by omega, by omega, by omega, by omega, Lib.hid (by have := HL.out; omega), _, _, _, _, _, _, rfl⟩

set_option maxHeartbeats 1000000 in
theorem plus_diff_sw (s t : Bool) (hst : (s == t) = false) (ah al bh bl : Int) (a0 : 0 ≤ ah) (a1 : ah < 9223372036854775808) (a2 : 0 ≤ al) (a3 : al < 18446744073709551616) (b0 : 0 ≤ bh) (b1 : bh < 9223372036854775808) (b2 : 0 ≤ bl) (b3 : bl < 18446744073709551616) (w : World) (hlt : ah * 18446744073709551616 + al < bh * 18446744073709551616 + bl) :
    Calls Tryd.prog 56 #[.agg #[.bool s, .int .u64 ah, .int .u64 al], .agg #[.bool t, .int .u64 bh, .int .u64 bl]] w (RetW6 t ((bh * 18446744073709551616 + bl) - (ah * 18446744073709551616 + al)) w) := by
    have HC := Lib.hid (show cmpI (ah * 18446744073709551616 + al) (bh * 18446744073709551616 + bl) = -1 by unfold cmpI; rw [if_pos hlt])
    have HL := Lib.hid hlt
    clear hlt
    have hts : (t == s) = false := by rw [Bool.eq_false_iff] at hst ⊢; intro h; exact hst (by simpa [BEq.comm] using h)
    have k0 : 0 ≤ -((bl - al) / 18446744073709551616) := by omega
    have k1 : -((bl - al) / 18446744073709551616) ≤ 1 := by omega
    go_enter Tryd.func56, Tryd.ntmps56
    go_wp2_with fail
    refine (order_any s t ah al bh bl a2 a3 b2 b3 _).mono ?_
    rw [HC.out]
    rintro e w1 ⟨rfl, o1, o2, rfl⟩
    go_wp2_with (first | simp only [sub64_0 bl al b2 b3 a2 a3] | simp only [sub64 bh ah _ b0 (by omega) a0 (by omega) k0 k1])
    exact bodyPost_ret (v := .agg #[.bool t, .int .u64 ((bh - ah - -((bl - al) / 18446744073709551616)) % 18446744073709551616), .int .u64 ((bl - al) % 18446744073709551616)]) (by simp [results, Tryd.results56, go_sem]) rfl ⟨_, _, rfl, by omega, by omega, by omega, by omega, Lib.hid (by have := HL.out; omega), _, _, _, _, _, _, rfl⟩

set_option maxHeartbeats 1000000 in
theorem plus_diff_no (s t : Bool) (hst : (s == t) = false) (ah al bh bl : Int) (a0 : 0 ≤ ah) (a1 : ah < 9223372036854775808) (a2 : 0 ≤ al) (a3 : al < 18446744073709551616) (b0 : 0 ≤ bh) (b1 : bh < 9223372036854775808) (b2 : 0 ≤ bl) (b3 : bl < 18446744073709551616) (w : World) (hlt : ¬ ah * 18446744073709551616 + al < bh * 18446744073709551616 + bl) :
    Calls Tryd.prog 56 #[.agg #[.bool s, .int .u64 ah, .int .u64 al], .agg #[.bool t, .int .u64 bh, .int .u64 bl]] w (RetW6 s ((ah * 18446744073709551616 + al) - (bh * 18446744073709551616 + bl)) w) := by
    have HC := Lib.hid (show 0 ≤ cmpI (ah * 18446744073709551616 + al) (bh * 18446744073709551616 + bl) by unfold cmpI; rw [if_neg hlt]; split <;> decide)
    have HL := Lib.hid hlt
    clear hlt
    have k0 : 0 ≤ -((al - bl) / 18446744073709551616) := by omega
    have k1 : -((al - bl) / 18446744073709551616) ≤ 1 := by omega
    go_enter Tryd.func56, Tryd.ntmps56
    go_wp2_with fail
    refine (order_any s t ah al bh bl a2 a3 b2 b3 _).mono ?_
    generalize cmpI (ah * 18446744073709551616 + al) (bh * 18446744073709551616 + bl) = c at *
    rintro e w1 ⟨rfl, o1, o2, rfl⟩
    have hc0 : 0 ≤ c := HC.out
    go_wp2_with (first | simp only [sub64_0 al bl a2 a3 b2 b3] | simp only [sub64 ah bh _ a0 (by omega) b0 (by omega) k0 k1])
    exact bodyPost_ret (v := .agg #[.bool s, .int .u64 ((ah - bh - -((al - bl) / 18446744073709551616)) % 18446744073709551616), .int .u64 ((al - bl) % 18446744073709551616)]) (by simp [results, Tryd.results56, go_sem]) rfl ⟨_, _, rfl, by omega, by omega, by omega, by omega, Lib.hid (by have := HL.out; omega), _, _, _, _, _, _, rfl⟩

end Go.Proofs.YtifhgkdajnngnaaDoor
