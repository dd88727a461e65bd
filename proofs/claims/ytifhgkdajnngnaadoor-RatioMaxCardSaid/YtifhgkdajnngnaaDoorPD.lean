/- Plain arithmetic, no program in sight: the division of a number of two words by one word, after Knuth, over Int; the words' bit operations. -/
import Derived.WalkKit
import Derived.Lib.ItoaNum
namespace Go.Proofs.YtifhgkdajnngnaaDoor

theorem stopI (q r u n1 n0 y1 Q R : Int) (hq : q * n1 + r = u) (hQ : Q * (n1 * 4294967296 + n0) + R = u * 4294967296 + y1) (hR : R < n1 * 4294967296 + n0)
    (hn : 0 ≤ n1 * 4294967296 + n0) (hge : Q ≤ q) (h : q * n0 ≤ 4294967296 * r + y1) : q = Q := by
  have e : q * (n1 * 4294967296 + n0) = q * n1 * 4294967296 + q * n0 := by rw [Int.mul_add, Int.mul_assoc]
  by_cases hlt : Q + 1 ≤ q
  · have := Int.mul_le_mul_of_nonneg_right hlt hn
    rw [Int.add_mul] at this
    omega
  · omega

theorem stopI2 (q r u n1 n0 y1 Q R : Int) (hq : q * n1 + r = u) (hQ : Q * (n1 * 4294967296 + n0) + R = u * 4294967296 + y1) (hR : R < n1 * 4294967296 + n0)
    (hn : 0 ≤ n1 * 4294967296 + n0) (hge : Q ≤ q) (h0 : 0 ≤ n0) (h1 : n0 < 4294967296) (hy : 0 ≤ y1) (hr : 4294967296 ≤ r) (hqB : q ≤ 4294967296) : q = Q := by
  refine stopI q r u n1 n0 y1 Q R hq hQ hR hn hge ?_
  have := Int.mul_le_mul_of_nonneg_right hqB h0
  omega

theorem goI (q r u n1 n0 y1 Q R : Int) (hq : q * n1 + r = u) (hQ : Q * (n1 * 4294967296 + n0) + R = u * 4294967296 + y1) (hR0 : 0 ≤ R)
    (hn : 0 ≤ n1 * 4294967296 + n0) (h : 4294967296 * r + y1 < q * n0) : Q ≤ q - 1 := by
  have e : q * (n1 * 4294967296 + n0) = q * n1 * 4294967296 + q * n0 := by rw [Int.mul_add, Int.mul_assoc]
  by_cases hlt : q ≤ Q
  · have := Int.mul_le_mul_of_nonneg_right hlt hn
    omega
  · omega

/-- The true digit, and the guess. -/
theorem digitI (u n1 n0 y1 : Int) (hu0 : 0 ≤ u) (hu : u < n1 * 4294967296 + n0) (hn1 : 2147483648 ≤ n1) (hn0 : 0 ≤ n0) (hn0' : n0 < 4294967296) (hy0 : 0 ≤ y1) (hy : y1 < 4294967296) :
    ∃ Q R : Int, Q * (n1 * 4294967296 + n0) + R = u * 4294967296 + y1 ∧ 0 ≤ R ∧ R < n1 * 4294967296 + n0 ∧ 0 ≤ Q ∧ Q < 4294967296 ∧ Q ≤ u / n1 ∧ 0 ≤ u / n1 ∧ u / n1 ≤ 4294967297 ∧
      0 ≤ u / n1 * n1 ∧ u / n1 * n1 ≤ u ∧ u - u / n1 * n1 < n1 ∧ 0 ≤ Q * (n1 * 4294967296 + n0) ∧ Q * (n1 * 4294967296 + n0) ≤ u * 4294967296 + y1 := by
  have hv : 0 < n1 * 4294967296 + n0 := by omega
  have hN : 0 ≤ u * 4294967296 + y1 := by omega
  have e := Int.mul_ediv_add_emod (u * 4294967296 + y1) (n1 * 4294967296 + n0)
  have r0 := Int.emod_nonneg (u * 4294967296 + y1) (b := n1 * 4294967296 + n0) (by omega)
  have r1 := Int.emod_lt_of_pos (u * 4294967296 + y1) hv
  have q0 : 0 ≤ (u * 4294967296 + y1) / (n1 * 4294967296 + n0) := Int.ediv_nonneg hN (by omega)
  rw [Int.mul_comm] at e
  generalize (u * 4294967296 + y1) / (n1 * 4294967296 + n0) = Q at *
  generalize (u * 4294967296 + y1) % (n1 * 4294967296 + n0) = R at *
  have hn1' : 0 < n1 := by omega
  have e2 := Int.mul_ediv_add_emod u n1
  have s0 := Int.emod_nonneg u (b := n1) (by omega)
  have s1 := Int.emod_lt_of_pos u hn1'
  rw [Int.mul_comm] at e2
  have g0 : 0 ≤ u / n1 := Int.ediv_nonneg hu0 (by omega)
  have g1 : 0 ≤ u / n1 * n1 := Int.mul_nonneg g0 (by omega)
  refine ⟨Q, R, e, r0, r1, q0, ?_, ?_, g0, ?_, g1, by omega, by omega, Int.mul_nonneg q0 (by omega), by omega⟩
  · by_cases h : 4294967296 ≤ Q
    · have := Int.mul_le_mul_of_nonneg_right h (Int.le_of_lt hv)
      omega
    · omega
  · refine (Int.le_ediv_iff_mul_le hn1').2 ?_
    have a : Q * (n1 * 4294967296 + n0) = Q * n1 * 4294967296 + Q * n0 := by rw [Int.mul_add, Int.mul_assoc]
    have b : 0 ≤ Q * n0 := Int.mul_nonneg q0 hn0
    omega
  · have : u / n1 < 4294967298 := (Int.ediv_lt_iff_lt_mul hn1').2 (by omega)
    omega

/-- What is left behind a digit, reckoned with words that wrap. -/
theorem leftI (u y1 Q v R : Int) (hQ : Q * v + R = u * 4294967296 + y1) (hR0 : 0 ≤ R) (hR : R < v) (hv : v < 18446744073709551616) :
    IntKind.u64.wrap (IntKind.u64.wrap (IntKind.u64.wrap (u * 4294967296) + y1) - IntKind.u64.wrap (Q * v)) = R := by
  simp only [IntKind.wrap_u64]
  omega

theorem and32 (x : Int) (h0 : 0 ≤ x) (h1 : x < 18446744073709551616) : bits BinOp.and IntKind.u64 x 4294967295 = x % 4294967296 := by
  exact bits_mask .u64 64 (by decide) (fun n a b => by rw [IntKind.wrap_u64]; omega) 32 (by decide) x h0 (by omega)

/-- Both numbers shifted, so that the divisor's highest bit is set. -/
theorem normN (hi lo y s : Nat) (hs : s < 64) (_h2 : y * 2 ^ s < 18446744073709551616) (hhi : hi < y) (hlo : lo < 18446744073709551616) :
    hi * 2 ^ s + lo / 2 ^ (64 - s) < y * 2 ^ s ∧ lo / 2 ^ (64 - s) < 2 ^ s ∧ (hi * 2 ^ s + lo / 2 ^ (64 - s)) * 18446744073709551616 + (lo * 2 ^ s) % 18446744073709551616 = (hi * 18446744073709551616 + lo) * 2 ^ s := by
  have hp : (2 : Nat) ^ (64 - s) * 2 ^ s = 18446744073709551616 := by rw [← Nat.pow_add, Nat.sub_add_cancel (by omega)]
  have a : lo / 2 ^ (64 - s) < 2 ^ s := Nat.div_lt_of_lt_mul (by omega)
  have b : (hi + 1) * 2 ^ s ≤ y * 2 ^ s := Nat.mul_le_mul_right _ hhi
  rw [Nat.add_mul] at b
  refine ⟨by omega, a, ?_⟩
  have c : lo * 2 ^ s / 18446744073709551616 = lo / 2 ^ (64 - s) := by rw [← hp, Nat.mul_div_mul_right _ _ (Nat.two_pow_pos s)]
  have d := Nat.div_add_mod (lo * 2 ^ s) 18446744073709551616
  rw [c] at d
  rw [Nat.add_mul (hi * 18446744073709551616), Nat.mul_right_comm hi]
  omega

theorem bitLen_norm (y : Nat) (h0 : 0 < y) (h1 : y < 18446744073709551616) : ∃ s : Nat, (64 - (Lib.bitLen y : Int)) = s ∧ s < 64 ∧ 9223372036854775808 ≤ y * 2 ^ s ∧ y * 2 ^ s < 18446744073709551616 := by
  obtain ⟨a, b, c⟩ := Lib.bitLenAux_bounds 64 y h1 (by omega)
  have d : Lib.bitLen y ≤ 64 := Lib.bitLen_le y 64 (by omega) h1
  have hb : Lib.bitLen y = Lib.bitLenAux 64 y := rfl
  rw [← hb] at a b c
  generalize Lib.bitLen y = k at *
  refine ⟨64 - k, by omega, by omega, ?_, ?_⟩
  · have : 2 ^ (k - 1) * 2 ^ (64 - k) ≤ y * 2 ^ (64 - k) := Nat.mul_le_mul_right _ b
    rw [← Nat.pow_add, show k - 1 + (64 - k) = 63 from by omega] at this
    omega
  · have : y * 2 ^ (64 - k) < 2 ^ k * 2 ^ (64 - k) := Nat.mul_lt_mul_of_pos_right c (Nat.two_pow_pos _)
    rw [← Nat.pow_add, show k + (64 - k) = 64 from by omega] at this
    omega

/-- All that the walk of the division wants of the shift. -/
theorem normI (hi lo y : Int) (h0 : 0 < hi) (h1 : hi < y) (hy : y < 18446744073709551616) (hl0 : 0 ≤ lo) (hl1 : lo < 18446744073709551616) :
    ∃ s : Nat, (64 - (Lib.bitLen y.toNat : Int)) = s ∧ s < 64 ∧ ∃ yy u v : Int, IntKind.u64.wrap (y * 2 ^ s) = yy ∧ 9223372036854775808 ≤ yy ∧ yy < 18446744073709551616 ∧
      bits BinOp.or IntKind.u64 (IntKind.u64.wrap (hi * 2 ^ s)) (lo / 2 ^ (64 - s)) = u ∧ 0 ≤ u ∧ u < yy ∧ IntKind.u64.wrap (lo * 2 ^ s) = v ∧ 0 ≤ v ∧ v < 18446744073709551616 ∧
      u * 18446744073709551616 + v = (hi * 18446744073709551616 + lo) * 2 ^ s ∧ yy = y * 2 ^ s := by
  obtain ⟨hi, rfl⟩ := Int.eq_ofNat_of_zero_le (Int.le_of_lt h0)
  obtain ⟨lo, rfl⟩ := Int.eq_ofNat_of_zero_le hl0
  obtain ⟨y, rfl⟩ := Int.eq_ofNat_of_zero_le (show 0 ≤ y by omega)
  obtain ⟨s, e, hs, a, b⟩ := bitLen_norm y (by omega) (by omega)
  obtain ⟨c, d, f⟩ := normN hi lo y s hs b (by omega) (by omega)
  have hm : hi * 2 ^ s % 2 ^ s = 0 := Nat.mul_mod_left _ _
  have hc : ((hi : Int) * 2 ^ s) = ((hi * 2 ^ s : Nat) : Int) := by simp
  have hc2 : ((y : Int) * 2 ^ s) = ((y * 2 ^ s : Nat) : Int) := by simp
  have hc3 : ((lo : Int) * 2 ^ s) = ((lo * 2 ^ s : Nat) : Int) := by simp
  have elo : ((lo : Int) / 2 ^ (64 - s)) = ((lo / 2 ^ (64 - s) : Nat) : Int) := by simp
  have f' : ((hi * 2 ^ s + lo / 2 ^ (64 - s) : Nat) : Int) * 18446744073709551616 + ((lo * 2 ^ s % 18446744073709551616 : Nat) : Int) = ((hi : Int) * 18446744073709551616 + lo) * 2 ^ s := by
    have t := congrArg (fun n : Nat => (n : Int)) f
    generalize hK : 2 ^ s = K at *
    simp only [Int.natCast_add, Int.natCast_mul] at t ⊢
    have hK' : (2 : Int) ^ s = (K : Int) := by rw [← hK]; simp
    rw [hK']
    exact t
  refine ⟨s, by simpa using e, hs, ((y * 2 ^ s : Nat) : Int), ((hi * 2 ^ s + lo / 2 ^ (64 - s) : Nat) : Int), ((lo * 2 ^ s % 18446744073709551616 : Nat) : Int), ?_⟩
  rw [hc, hc2, hc3, elo]
  generalize hA : hi * 2 ^ s = A at *
  generalize hB : lo / 2 ^ (64 - s) = B at *
  generalize hC : lo * 2 ^ s = C at *
  generalize hD : y * 2 ^ s = D at *
  refine ⟨?_, by omega, by omega, ?_, by omega, by omega, ?_, by omega, by omega, ?_, rfl⟩
  · rw [IntKind.wrap_u64]; omega
  · rw [IntKind.wrap_u64, Int.emod_eq_of_lt (by omega) (by omega), bits_join .u64 64 (by decide) (fun n a b => by rw [IntKind.wrap_u64]; omega) s _ _ (by omega) ?_ (by omega) (by omega) ?_ (by omega)]
    · simp
    · exact_mod_cast hm
    · exact_mod_cast d
  · rw [IntKind.wrap_u64]; simp
  · exact f'

/-- The two digits are the quotient, and the last remainder shifted back is the remainder. -/
theorem endI (N y K v1 v0 Q1 Q0 R1 R0 u yy : Int) (hK : 0 < K) (hy : 0 < y) (hyy : yy = y * K) (hN : (u * 4294967296 + v1) * 4294967296 + v0 = N * K)
    (h1 : Q1 * yy + R1 = u * 4294967296 + v1) (h0 : Q0 * yy + R0 = R1 * 4294967296 + v0) (hr0 : 0 ≤ R0) (hr1 : R0 < yy) :
    Q1 * 4294967296 + Q0 = N / y ∧ R0 / K = N % y := by
  subst hyy
  have e : N * K = (Q1 * 4294967296 + Q0) * (y * K) + R0 := by
    rw [Int.add_mul, Int.mul_right_comm]
    omega
  have d := Int.mul_ediv_add_emod N y
  have r0 := Int.emod_nonneg N (b := y) (by omega)
  have r1 := Int.emod_lt_of_pos N hy
  generalize N / y = q at *
  generalize N % y = r at *
  generalize Q1 * 4294967296 + Q0 = g at *
  have e2 : R0 = r * K + (q - g) * (y * K) := by
    rw [← d, Int.add_mul, Int.mul_comm y q, Int.mul_assoc] at e
    rw [Int.sub_mul]
    omega
  have hrK : r * K < y * K := Int.mul_lt_mul_of_pos_right r1 hK
  have hrK0 : 0 ≤ r * K := Int.mul_nonneg r0 (Int.le_of_lt hK)
  have hyK : 0 < y * K := Int.mul_pos hy hK
  have : g = q := by
    by_cases c : g < q
    · have := Int.mul_le_mul_of_nonneg_right (show 1 ≤ q - g by omega) (Int.le_of_lt hyK)
      omega
    · by_cases c' : q < g
      · have := Int.mul_le_mul_of_nonneg_right (show q - g ≤ -1 by omega) (Int.le_of_lt hyK)
        omega
      · omega
  subst this
  refine ⟨rfl, ?_⟩
  rw [e2, Int.sub_self, Int.zero_mul, Int.add_zero, Int.mul_ediv_cancel _ (by omega)]

end Go.Proofs.YtifhgkdajnngnaaDoor
