import Derived.Test.YtifhgkdajnngnaaDoorRows
import Derived.Test.YtifhgkdajnngnaaDoorPar
import Derived.WalkKit
import Derived.WalkSpells
import Derived.WalkLawsBesides
import Derived.Deep.QuietTactic
import Derived.BigQuiet
import Derived.Lib.Hide
namespace Go.Proofs.YtifhgkdajnngnaaDoor
open Go.RowKit Go.Par

theorem ret_int {k : IntKind} {a b : Int} (h : a = b) : Ending.returned (.int k a) = .returned (.int k b) := by rw [h]

theorem negwrap (v : Int) (h0 : -9223372036854775808 ≤ v) (h : v < 0) : IntKind.u64.wrap (-IntKind.u64.wrap v) = (v.natAbs : Int) := by
  simp only [IntKind.wrap, IntKind.bits, IntKind.signed]
  simp
  omega

set_option maxHeartbeats 400000 in
theorem size_any (v : Int) (h0 : -9223372036854775808 ≤ v) (h1 : v ≤ 9223372036854775807) (w : World) :
    Calls Tryd.prog 32 #[.int .i64 v] w fun e w' => e = .returned (.int .u64 (v.natAbs : Int)) ∧ w = w' := by
  by_cases h : v < 0
  · go_enter Tryd.func32, Tryd.ntmps32
    go_wp2
    go_ret
    exact ⟨ret_int (negwrap v h0 h), rfl⟩
  · go_enter Tryd.func32, Tryd.ntmps32
    go_wp2
    go_ret
    exact ⟨ret_int (by omega), rfl⟩

theorem gcd_any (a b : Int) (ha : 0 ≤ a) (hb : 0 ≤ b) (ha' : a < 18446744073709551616) (hb' : b < 18446744073709551616) (w : World) :
    Calls Tryd.prog 31 #[.int .u64 a, .int .u64 b] w fun e w' => e = .returned (.int .u64 (Int.gcd a b : Int)) ∧ w = w' := by
  obtain ⟨a, rfl⟩ := Int.eq_ofNat_of_zero_le ha
  obtain ⟨b, rfl⟩ := Int.eq_ofNat_of_zero_le hb
  go_enter Tryd.func31, Tryd.ntmps31
  go_wp2
  go_loop [0, 1] (fun s t => ∃ x y : Nat, s = .int .u64 x ∧ t = .int .u64 y ∧ Hid (Nat.gcd x y = Nat.gcd a b) ∧ x < 18446744073709551616 ∧ y < 18446744073709551616) (fun s _ => (intOf s).toNat)
  case atStart => exact ⟨a, b, rfl, rfl, Lib.hid rfl, by omega, by omega⟩
  case round =>
    obtain ⟨x, y, rfl, rfl, hg, hx, hy⟩ := hrel
    by_cases h : x = 0
    · subst h
      go_wp2
      go_ret
      exact ⟨ret_int (by have := hg.out; simp at this; simp [this]), rfl⟩
    · have hne : ((x : Int) != 0) = true := by simp [h]
      go_wp2
      go_round
      case rel => 
        refine ⟨y % x, x, by simp, rfl, Lib.hid ?_, Nat.lt_of_lt_of_le (Nat.mod_lt _ (by omega)) (by omega), hx⟩
        have := hg.out
        rw [← this, Nat.gcd_rec x y]
      case measure => 
        simp [intOf]
        have := Nat.mod_lt y (y := x) (by omega)
        omega

theorem quiet_eq {P : Program} {f : FuncId} {args : Array Value} {w : World} {n : Nat} {v : Value}
    (h : Calls P f args (w.drewN n) fun e w' => e = .returned v ∧ w.drewN n = w') : Calls P f args (w.drewN n) fun e w'' => e = .returned v ∧ ∃ m, w'' = w.drewN m :=
  h.mono fun _ _ ⟨he, hm⟩ => ⟨he, n, hm.symm⟩

set_option maxHeartbeats 400000 in
theorem one_zero (w : World) :
    Calls Tryd.prog 36 #[.agg #[.int .i64 0, .int .i64 0]] w fun e w' => e = .returned (.agg #[.int .i64 0, .int .i64 1]) ∧ ∃ o1 o2, w' = (w.alloc o1).alloc o2 := by
  go_enter Tryd.func36, Tryd.ntmps36
  go_wp2
  exact bodyPost_ret (v := .agg #[.int .i64 0, .int .i64 1]) (by simp [results, Tryd.results36, go_sem]) rfl ⟨rfl, _, _, rfl⟩
set_option maxHeartbeats 400000 in
theorem one_not (n d : Int) (h : ¬ (n = 0 ∧ d = 0)) (w : World) :
    Calls Tryd.prog 36 #[.agg #[.int .i64 n, .int .i64 d]] w fun e w' => e = .returned (.agg #[.int .i64 n, .int .i64 d]) ∧ ∃ o1 o2, w' = (w.alloc o1).alloc o2 := by
  have H := Lib.hid h
  clear h
  by_cases hn : n = 0
  · subst hn
    have hd : ¬ d = 0 := fun e => H.out ⟨rfl, e⟩
    clear H
    go_enter Tryd.func36, Tryd.ntmps36
    go_wp2
    exact bodyPost_ret (v := .agg #[.int .i64 0, .int .i64 d]) (by simp [results, Tryd.results36, go_sem]) rfl ⟨rfl, _, _, rfl⟩
  · clear H
    go_enter Tryd.func36, Tryd.ntmps36
    go_wp2
    exact bodyPost_ret (v := .agg #[.int .i64 n, .int .i64 d]) (by simp [results, Tryd.results36, go_sem]) rfl ⟨rfl, _, _, rfl⟩

def validB (n d : Int) : Bool := (n == 0 && d == 0) || (decide (0 < d) && Int.gcd n d == 1)

theorem ret_bool {a b : Bool} (h : a = b) : Ending.returned (.bool a) = .returned (.bool b) := by rw [h]

set_option maxHeartbeats 1000000 in
theorem valid_any (n d : Int) (hn0 : -9223372036854775808 ≤ n) (hn1 : n ≤ 9223372036854775807) (hd0 : -9223372036854775808 ≤ d) (hd1 : d ≤ 9223372036854775807) (w : World) :
    Calls Tryd.prog 17 #[.agg #[.int .i64 n, .int .i64 d]] w fun e w' => e = .returned (.bool (validB n d)) ∧ ∃ o k, w' = (w.alloc o).drewN k := by
  by_cases hd : 0 < d
  · have hne : ¬ d = 0 := by omega
    go_enter Tryd.func17, Tryd.ntmps17
    go_wp2
    go_quiet (first | (go_at_call 32; exact quiet_eq (size_any _ (by omega) (by omega) _)) | (go_at_call 31; exact quiet_eq (gcd_any _ _ (by omega) (by omega) (by omega) (by omega) _)))
    go_wp2
    go_ret
    refine ⟨ret_bool ?_, _, _, rfl⟩
    simp only [validB, hd, Int.gcd, decide_true, Bool.true_and, beq_eq_false_iff_ne.2 hne, Bool.and_false, Bool.false_or]
    rw [Bool.eq_iff_iff]
    simp
    omega
  · have hdd : decide (0 < d) = false := by simp; omega
    by_cases h0 : d = 0
    · subst h0
      by_cases hn : n = 0
      · subst hn
        go_enter Tryd.func17, Tryd.ntmps17
        go_wp2
        go_quiet (fail)
        go_wp2
        go_ret
        exact ⟨ret_bool (by simp [validB]), _, _, rfl⟩
      · have hnn : (n == 0) = false := by simp [hn]
        go_enter Tryd.func17, Tryd.ntmps17
        go_wp2
        go_quiet (fail)
        go_wp2
        go_ret
        exact ⟨ret_bool (by simp [validB, hn]), _, _, rfl⟩
    · have hdn : (d == 0) = false := by simp [h0]
      go_enter Tryd.func17, Tryd.ntmps17
      go_wp2
      go_quiet (fail)
      go_wp2
      go_ret
      exact ⟨ret_bool (by simp [validB, h0, hdd]), _, _, rfl⟩

end Go.Proofs.YtifhgkdajnngnaaDoor
