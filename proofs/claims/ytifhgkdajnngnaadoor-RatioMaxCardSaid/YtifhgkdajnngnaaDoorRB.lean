/- Contracts of math/bits at this translation: Add64, Sub64, Mul64, Div64, Rem64. -/
import Derived.Test.YtifhgkdajnngnaaDoorRA
import Derived.Test.YtifhgkdajnngnaaDoorPD
import Derived.Test.YtifhgkdajnngnaaDoorShelf
import Derived.Shelf.Spec.BitsCarry
import Derived.Deep.CutBlock
import Derived.Deep.DeepCutAuto
namespace Go.Proofs.YtifhgkdajnngnaaDoor
open Go.RowKit Go.Par

theorem mul64_any (x y : Int) (hx : 0 ≤ x) (hx' : x < 18446744073709551616) (hy : 0 ≤ y) (hy' : y < 18446744073709551616) (w : World) :
    Calls Tryd.prog 46 #[.int .u64 x, .int .u64 y] w fun e w' => e = .returned (.tuple #[.int .u64 (x * y / 18446744073709551616), .int .u64 (x * y % 18446744073709551616)]) ∧ w = w' := by
  obtain ⟨x, rfl⟩ := Int.eq_ofNat_of_zero_le hx
  obtain ⟨y, rfl⟩ := Int.eq_ofNat_of_zero_le hy
  refine (Tryd.bits_Mul64 x y (by omega) (by omega) w).mono ?_
  rintro e w' ⟨rfl, rfl⟩
  exact ⟨by simp, rfl⟩

def Div64Post (hi lo y : Int) (w : World) (e : Ending) (w' : World) : Prop :=
  e = .returned (.tuple #[.int .u64 ((hi * 18446744073709551616 + lo) / y), .int .u64 ((hi * 18446744073709551616 + lo) % y)]) ∧ ∃ n, w' = w.drewN n

set_option maxHeartbeats 1000000 in
set_option maxRecDepth 100000 in
theorem div_big (hi lo y : Int) (h0 : 0 < hi) (h1 : hi < y) (hy : y < 18446744073709551616) (hl0 : 0 ≤ lo) (hl1 : lo < 18446744073709551616) (w : World) :
    Calls Tryd.prog 71 #[.int .u64 hi, .int .u64 lo, .int .u64 y] w (Div64Post hi lo y w) := by
  obtain ⟨s, e0, hs, yy, u, v, E1, y1, y2, E4, ua, ub, E5, va, vb, hN, hyy⟩ := normI hi lo y h0 h1 hy hl0 hl1
  have HN := Lib.hid hN
  have HY := Lib.hid hyy
  clear hN hyy
  have e1 : (y == 0) = false := by simp; omega
  have e2 : (hi == 0) = false := by simp; omega
  have hyh : decide (y ≤ hi) = false := by simp; omega
  go_enter Tryd.func71, Tryd.ntmps71
  go_wp2_with fail
  refine (Tryd.bits_LeadingZeros64 y _ (by omega) (by omega)).mono ?_
  rintro e w' ⟨rfl, hw⟩
  subst hw
  rw [e0]
  have H0 := Lib.hid e0
  clear e0
  obtain ⟨n1, E2⟩ : ∃ n1, yy / 4294967296 = n1 := ⟨_, rfl⟩
  have n1a : 2147483648 ≤ n1 := by omega
  have n1b : n1 < 4294967296 := by omega
  obtain ⟨n0, E3⟩ : ∃ n0, bits BinOp.and IntKind.u64 yy 4294967295 = n0 := ⟨_, rfl⟩
  have E3' := and32 yy (by omega) y2
  rw [E3] at E3'
  have n0a : 0 ≤ n0 := by omega
  have n0b : n0 < 4294967296 := by omega
  have HYY := Lib.hid (show yy = n1 * 4294967296 + n0 by omega)
  obtain ⟨v1, E6⟩ : ∃ v1, v / 4294967296 = v1 := ⟨_, rfl⟩
  have v1a : 0 ≤ v1 := by omega
  have v1b : v1 < 4294967296 := by omega
  obtain ⟨v0, E7⟩ : ∃ v0, bits BinOp.and IntKind.u64 v 4294967295 = v0 := ⟨_, rfl⟩
  have E7' := and32 v va vb
  rw [E7] at E7'
  have v0a : 0 ≤ v0 := by omega
  have v0b : v0 < 4294967296 := by omega
  have HV := Lib.hid (show v = v1 * 4294967296 + v0 by omega)
  clear E3' E7'
  obtain ⟨Q, R, d1, d2, d3, d4, d5, d6, d7, d8, d9, d10, d11, d12, d13⟩ := digitI u n1 n0 v1 ua (by have := HYY.out; omega) n1a n0a n0b v1a v1b
  rw [← HYY.out] at d1 d3 d12 d13
  have L1 := leftI u v1 Q yy R d1 d2 d3 y2
  have D1 := Lib.hid d1
  clear d1
  have HQ := Lib.hid d6
  clear d6
  go_upto_block 0 with (fail)
  go_cut [15] (fun s15 wx => wx = w' ∧ s15 = .int .u64 Q)
  case first =>
    go_wp2_with fail
    go_loop [15, 16] (fun s t => ∃ q r : Int, s = .int .u64 q ∧ t = .int .u64 r ∧ 0 ≤ q ∧ q ≤ 4294967297 ∧ 0 ≤ r ∧ r < 4294967296 ∧ Hid (q * n1 + r = u) ∧ Hid (Q ≤ q)) (fun s _ => (intOf s).toNat)
    case atStart => exact ⟨u / n1, u - u / n1 * n1, rfl, rfl, by omega, by omega, by omega, by omega, Lib.hid (by omega), HQ⟩
    case round =>
      obtain ⟨q, r, rfl, rfl, q0, q1, r0, r1, hq, hQ⟩ := hrel
      have hn : 0 ≤ n1 * 4294967296 + n0 := by omega
      have hR : Hid (R < n1 * 4294967296 + n0) := Lib.hid (by rw [← HYY.out]; exact d3)
      have hD : Hid (Q * (n1 * 4294967296 + n0) + R = u * 4294967296 + v1) := Lib.hid (by rw [← HYY.out]; exact D1.out)
      have hnext : Hid ((q - 1) * n1 + (r + n1) = u) := Lib.hid (by rw [Int.sub_mul]; have := hq.out; omega)
      by_cases hB : 4294967296 ≤ q
      · have hQ' : Hid (Q ≤ q - 1) := Lib.hid (by omega)
        by_cases hr : 4294967296 ≤ r + n1
        · have hf := stopI2 (q - 1) (r + n1) u n1 n0 v1 Q R hnext.out hD.out hR.out hn hQ'.out n0a n0b v1a hr (by omega)
          have HF := Lib.hid hf
          clear hf
          go_wp2
          go_meet
          case rel => exact ⟨rfl, by rw [HF.out]⟩
        · go_wp2
          go_round
          case rel => exact ⟨q - 1, r + n1, rfl, rfl, by omega, by omega, by omega, by omega, hnext, hQ'⟩
          case measure => simp [intOf]; omega
      · have p0 : 0 ≤ q * n0 := Int.mul_nonneg q0 n0a
        have p1 : q * n0 ≤ 18446744065119617025 := by
          have := Int.mul_le_mul (show q ≤ 4294967295 by omega) (show n0 ≤ 4294967295 by omega) n0a (by omega)
          omega
        by_cases ht : 4294967296 * r + v1 < q * n0
        · have hQ' : Hid (Q ≤ q - 1) := Lib.hid (goI q r u n1 n0 v1 Q R hq.out hD.out d2 hn ht)
          have hq1 : 1 ≤ q := by have := hQ'.out; omega
          by_cases hr : 4294967296 ≤ r + n1
          · have hf := stopI2 (q - 1) (r + n1) u n1 n0 v1 Q R hnext.out hD.out hR.out hn hQ'.out n0a n0b v1a hr (by omega)
            have HF := Lib.hid hf
            clear hf
            go_wp2
            go_meet
            case rel => exact ⟨rfl, by rw [HF.out]⟩
          · go_wp2
            go_round
            case rel => exact ⟨q - 1, r + n1, rfl, rfl, by omega, by omega, by omega, by omega, hnext, hQ'⟩
            case measure => simp [intOf]; omega
        · have hf := stopI q r u n1 n0 v1 Q R hq.out hD.out hR.out hn hQ.out (by omega)
          have HF := Lib.hid hf
          clear hf
          go_wp2
          go_meet
          case rel => exact ⟨rfl, by rw [HF.out]⟩
  case rest =>
    obtain ⟨rfl, rfl⟩ := hcut
    obtain ⟨Q0, R0, f1, f2, f3, f4, f5, f6, f7, f8, f9, f10, f11, f12, f13⟩ := digitI R n1 n0 v0 d2 (by have := HYY.out; omega) n1a n0a n0b v0a v0b
    rw [← HYY.out] at f1 f3 f12 f13
    have L0 := leftI R v0 Q0 yy R0 f1 f2 f3 y2
    have F1 := Lib.hid f1
    clear f1
    have HQ0 := Lib.hid f6
    clear f6
    go_upto_block 2 with (fail)
    go_cut [18] (fun s18 wx => wx = wc ∧ s18 = .int .u64 Q0)
    case first =>
      go_wp2_with fail
      go_loop [18, 16] (fun s t => ∃ q r : Int, s = .int .u64 q ∧ t = .int .u64 r ∧ 0 ≤ q ∧ q ≤ 4294967297 ∧ 0 ≤ r ∧ r < 4294967296 ∧ Hid (q * n1 + r = R) ∧ Hid (Q0 ≤ q)) (fun s _ => (intOf s).toNat)
      case atStart => exact ⟨R / n1, R - R / n1 * n1, rfl, rfl, by omega, by omega, by omega, by omega, Lib.hid (by omega), HQ0⟩
      case round =>
        obtain ⟨q, r, rfl, rfl, q0, q1, r0, r1, hq, hQ⟩ := hrel
        have hn : 0 ≤ n1 * 4294967296 + n0 := by omega
        have hR : Hid (R0 < n1 * 4294967296 + n0) := Lib.hid (by rw [← HYY.out]; exact f3)
        have hD : Hid (Q0 * (n1 * 4294967296 + n0) + R0 = R * 4294967296 + v0) := Lib.hid (by rw [← HYY.out]; exact F1.out)
        have hnext : Hid ((q - 1) * n1 + (r + n1) = R) := Lib.hid (by rw [Int.sub_mul]; have := hq.out; omega)
        by_cases hB : 4294967296 ≤ q
        · have hQ' : Hid (Q0 ≤ q - 1) := Lib.hid (by omega)
          by_cases hr : 4294967296 ≤ r + n1
          · have hf := stopI2 (q - 1) (r + n1) R n1 n0 v0 Q0 R0 hnext.out hD.out hR.out hn hQ'.out n0a n0b v0a hr (by omega)
            have HF := Lib.hid hf
            clear hf
            go_wp2
            go_meet
            case rel => exact ⟨rfl, by rw [HF.out]⟩
          · go_wp2
            go_round
            case rel => exact ⟨q - 1, r + n1, rfl, rfl, by omega, by omega, by omega, by omega, hnext, hQ'⟩
            case measure => simp [intOf]; omega
        · have p0 : 0 ≤ q * n0 := Int.mul_nonneg q0 n0a
          have p1 : q * n0 ≤ 18446744065119617025 := by
            have := Int.mul_le_mul (show q ≤ 4294967295 by omega) (show n0 ≤ 4294967295 by omega) n0a (by omega)
            omega
          by_cases ht : 4294967296 * r + v0 < q * n0
          · have hQ' : Hid (Q0 ≤ q - 1) := Lib.hid (goI q r R n1 n0 v0 Q0 R0 hq.out hD.out f2 hn ht)
            have hq1 : 1 ≤ q := by have := hQ'.out; omega
            by_cases hr : 4294967296 ≤ r + n1
            · have hf := stopI2 (q - 1) (r + n1) R n1 n0 v0 Q0 R0 hnext.out hD.out hR.out hn hQ'.out n0a n0b v0a hr (by omega)
              have HF := Lib.hid hf
              clear hf
              go_wp2
              go_meet
              case rel => exact ⟨rfl, by rw [HF.out]⟩
            · go_wp2
              go_round
              case rel => exact ⟨q - 1, r + n1, rfl, rfl, by omega, by omega, by omega, by omega, hnext, hQ'⟩
              case measure => simp [intOf]; omega
          · have hf := stopI q r R n1 n0 v0 Q0 R0 hq.out hD.out hR.out hn hQ.out (by omega)
            have HF := Lib.hid hf
            clear hf
            go_wp2
            go_meet
            case rel => exact ⟨rfl, by rw [HF.out]⟩
    case rest =>
      obtain ⟨rfl, rfl⟩ := hcut
      have hK : (0 : Int) < 2 ^ s := Int.pow_pos (by decide)
      obtain ⟨r1, r2⟩ := endI (hi * 18446744073709551616 + lo) y (2 ^ s) v1 v0 Q Q0 R R0 u yy hK (by omega) HY.out (by have a := HN.out; have b := HV.out; omega) D1.out F1.out f2 f3
      have H1 := Lib.hid r1
      have H2 := Lib.hid r2
      clear r1 r2
      go_wp2
      go_ret2
      exact ⟨by rw [← H1.out, ← H2.out]; rfl, 0, rfl⟩

set_option maxHeartbeats 1000000 in
set_option maxRecDepth 100000 in
theorem div_small (lo y : Int) (h1 : 0 < y) (hy : y < 18446744073709551616) (hl0 : 0 ≤ lo) (hl1 : lo < 18446744073709551616) (w : World) :
    Calls Tryd.prog 71 #[.int .u64 0, .int .u64 lo, .int .u64 y] w (Div64Post 0 lo y w) := by
  have e1 : (y == 0) = false := by simp; omega
  have e3 : ¬ y = 0 := by omega
  have hyh : decide (y ≤ 0) = false := by simp; omega
  have hdiv : lo / y ≤ lo := Int.ediv_le_self _ hl0
  have hdiv0 : 0 ≤ lo / y := Int.ediv_nonneg hl0 (by omega)
  have hmod0 := Int.emod_nonneg lo e3
  have hmod1 := Int.emod_lt_of_pos lo h1
  go_enter Tryd.func71, Tryd.ntmps71
  go_wp2_with fail
  go_quiet (fail)
  go_wp2
  go_ret2
  exact ⟨by simp, _, rfl⟩

theorem div_any (hi lo y : Int) (h0 : 0 ≤ hi) (h1 : hi < y) (hy : y < 18446744073709551616) (hl0 : 0 ≤ lo) (hl1 : lo < 18446744073709551616) (w : World) :
    Calls Tryd.prog 71 #[.int .u64 hi, .int .u64 lo, .int .u64 y] w (Div64Post hi lo y w) := by
  by_cases h : hi = 0
  · subst h
    exact div_small lo y h1 hy hl0 hl1 w
  · exact div_big hi lo y (by omega) h1 hy hl0 hl1 w

theorem rem_any (hi lo y : Int) (h0 : 0 ≤ hi) (h0' : hi < 18446744073709551616) (h1 : 0 < y) (hy : y < 18446744073709551616) (hl0 : 0 ≤ lo) (hl1 : lo < 18446744073709551616) (w : World) :
    Calls Tryd.prog 57 #[.int .u64 hi, .int .u64 lo, .int .u64 y] w fun e w' => e = .returned (.int .u64 ((hi * 18446744073709551616 + lo) % y)) ∧ ∃ n, w' = w.drewN n := by
  have hmod0 := Int.emod_nonneg hi (b := y) (by omega)
  have hmod1 := Int.emod_lt_of_pos hi h1
  have e3 : ¬ y = 0 := by omega
  go_enter Tryd.func57, Tryd.ntmps57
  go_wp2_with fail
  refine (div_any _ _ _ hmod0 hmod1 hy hl0 hl1 _).mono ?_
  rintro e w' ⟨rfl, n, rfl⟩
  go_wp2
  go_ret
  refine ⟨ret_int ?_, n, rfl⟩
  rw [Int.add_emod, Int.mul_emod, Int.emod_emod, ← Int.mul_emod, ← Int.add_emod]

theorem quotient_any (hi lo y : Int) (h0 : 0 ≤ hi) (h1 : hi < y) (hy : y < 18446744073709551616) (hl0 : 0 ≤ lo) (hl1 : lo < 18446744073709551616) (w : World) :
    Calls Tryd.prog 58 #[.int .u64 hi, .int .u64 lo, .int .u64 y] w fun e w' => e = .returned (.int .u64 ((hi * 18446744073709551616 + lo) / y)) ∧ ∃ n, w' = w.drewN n := by
  go_enter Tryd.func58, Tryd.ntmps58
  go_wp2_with fail
  refine (div_any _ _ _ h0 h1 hy hl0 hl1 _).mono ?_
  rintro e w' ⟨rfl, n, rfl⟩
  go_wp2
  go_ret
  exact ⟨rfl, n, rfl⟩

theorem add64 (x y c : Int) (hx : 0 ≤ x) (hx' : x < 18446744073709551616) (hy : 0 ≤ y) (hy' : y < 18446744073709551616) (hc0 : 0 ≤ c) (hc : c ≤ 1) (w : World) : (callFunc 69 #[.int .u64 x, .int .u64 y, .int .u64 c]).run Tryd.prog w =
    .ok (.value (.tuple #[.int .u64 ((x + y + c) % 18446744073709551616), .int .u64 ((x + y + c) / 18446744073709551616)])) w := by
  obtain ⟨x, rfl⟩ := Int.eq_ofNat_of_zero_le hx
  obtain ⟨y, rfl⟩ := Int.eq_ofNat_of_zero_le hy
  obtain ⟨c, rfl⟩ := Int.eq_ofNat_of_zero_le hc0
  rw [run_callFunc_extern Tryd.func69 (by kernel_rfl) (by kernel_rfl) (by kernel_rfl) (e := add64Entry) (by kernel_rfl), run_add64 x y c (by omega) (by omega) (by omega) (by omega)]
  simp only [Result.andThen]
theorem sub64 (x y b : Int) (hx : 0 ≤ x) (hx' : x < 18446744073709551616) (hy : 0 ≤ y) (hy' : y < 18446744073709551616) (hb0 : 0 ≤ b) (hb : b ≤ 1) (w : World) : (callFunc 70 #[.int .u64 x, .int .u64 y, .int .u64 b]).run Tryd.prog w =
    .ok (.value (.tuple #[.int .u64 ((x - y - b) % 18446744073709551616), .int .u64 (-((x - y - b) / 18446744073709551616))])) w := by
  obtain ⟨x, rfl⟩ := Int.eq_ofNat_of_zero_le hx
  obtain ⟨y, rfl⟩ := Int.eq_ofNat_of_zero_le hy
  obtain ⟨b, rfl⟩ := Int.eq_ofNat_of_zero_le hb0
  rw [run_callFunc_extern Tryd.func70 (by kernel_rfl) (by kernel_rfl) (by kernel_rfl) (e := sub64Entry) (by kernel_rfl), run_sub64 x y b (by omega)]
  simp only [Result.andThen]
  have e1 : (((x + 18446744073709551616 - y - b) % 18446744073709551616 : Nat) : Int) = ((x : Int) - y - b) % 18446744073709551616 := by omega
  have e2 : ((if x < y + b then 1 else 0 : Nat) : Int) = -(((x : Int) - y - b) / 18446744073709551616) := by split <;> omega
  rw [e1, e2]
end Go.Proofs.YtifhgkdajnngnaaDoor
