/- Fractions as arguments; the plain laws on the order; contracts in the form that the laws' walks take. -/
import Derived.Test.YtifhgkdajnngnaaDoorRW
import Derived.Test.YtifhgkdajnngnaaDoorRK
namespace Go.Proofs.YtifhgkdajnngnaaDoor
open Go.RowKit Go.Par

theorem valid_one {n d : Int} (v : validB n d = true) : 0 < (oneP n d).2 ∧ Nat.Coprime (oneP n d).1.natAbs (oneP n d).2.natAbs := by
  unfold oneP
  by_cases h : n = 0 ∧ d = 0
  · rw [if_pos h]; decide
  · rw [if_neg h]
    have : 0 < d ∧ Int.gcd n d = 1 := by
      have h' : ¬ ((n == 0 && d == 0) = true) := by simpa using h
      simpa [validB, h'] using v
    exact this
theorem valid_of {p q : Int} (q0 : 0 < q) (c : Nat.Coprime p.natAbs q.natAbs) : validB p q = true := by
  have : Int.gcd p q = 1 := c
  simp [validB, q0, this]
theorem one_of_pos {p q : Int} (q0 : 0 < q) : oneP p q = (p, q) := by
  unfold oneP
  rw [if_neg (by omega)]

def cmpP (an ad bn bd : Int) : Int := cmpI ((oneP an ad).1 * (oneP bn bd).2) ((oneP bn bd).1 * (oneP an ad).2)
theorem cmp_self (an ad : Int) : cmpP an ad an ad = 0 := by
  unfold cmpP cmpI
  rw [if_neg (by omega), if_pos rfl]
theorem cmpI_le (x y : Int) : cmpI x y ≤ 0 ↔ x ≤ y := by
  unfold cmpI
  split
  · omega
  · split <;> omega
theorem cmp_trans {an ad bn bd cn cd : Int} (a0 : 0 < (oneP an ad).2) (b0 : 0 < (oneP bn bd).2) (c0 : 0 < (oneP cn cd).2) (h1 : cmpP an ad bn bd ≤ 0) (h2 : cmpP bn bd cn cd ≤ 0) : ¬ 0 < cmpP an ad cn cd := by
  have h1 := (cmpI_le _ _).1 h1
  have h2 := (cmpI_le _ _).1 h2
  suffices cmpP an ad cn cd ≤ 0 by omega
  refine (cmpI_le _ _).2 ?_
  generalize (oneP an ad).1 = a at *
  generalize (oneP an ad).2 = x at *
  generalize (oneP bn bd).1 = b at *
  generalize (oneP bn bd).2 = y at *
  generalize (oneP cn cd).1 = c at *
  generalize (oneP cn cd).2 = z at *
  refine Int.le_of_mul_le_mul_right (a := y) ?_ b0
  calc a * z * y = a * y * z := by ac_rfl
    _ ≤ b * x * z := Int.mul_le_mul_of_nonneg_right h1 (Int.le_of_lt c0)
    _ = b * z * x := by ac_rfl
    _ ≤ c * y * x := Int.mul_le_mul_of_nonneg_right h2 (Int.le_of_lt a0)
    _ = c * x * y := by ac_rfl
/-- The difference has the order's sign. -/
theorem sub_sign {an ad bn bd p q : Int} (q0 : 0 < q) (a0 : 0 < (oneP an ad).2) (b0 : 0 < (oneP bn bd).2)
    (e : p * ((oneP an ad).2 * (oneP bn bd).2) = ((oneP an ad).1 * (oneP bn bd).2 + (if true then -(oneP bn bd).1 else (oneP bn bd).1) * (oneP an ad).2) * q) :
    cmpP p q 0 0 = cmpP an ad bn bd := by
  unfold cmpP
  have z0 : oneP 0 0 = (0, 1) := by decide
  rw [one_of_pos q0, z0]
  simp only [if_true, Int.neg_mul, Int.mul_one, Int.zero_mul] at e ⊢
  have D0 := Int.mul_pos a0 b0
  generalize (oneP an ad).2 * (oneP bn bd).2 = D at *
  generalize (oneP an ad).1 * (oneP bn bd).2 = x at *
  generalize (oneP bn bd).1 * (oneP an ad).2 = y at *
  unfold cmpI
  by_cases h1 : x < y
  · have : p * D < 0 := by rw [e]; exact Int.mul_neg_of_neg_of_pos (by omega) q0
    have hp : p < 0 := by
      apply Classical.byContradiction
      intro hp
      have := Int.mul_nonneg (show 0 ≤ p by omega) (Int.le_of_lt D0)
      omega
    rw [if_pos hp, if_pos h1]
  · by_cases h2 : x = y
    · subst h2
      have : p * D = 0 := by rw [e, Int.add_right_neg, Int.zero_mul]
      have hp : p = 0 := by
        rcases Int.mul_eq_zero.1 this with h | h
        · exact h
        · omega
      subst hp
      simp
    · have : 0 < p * D := by rw [e]; exact Int.mul_pos (by omega) q0
      have hp : 0 < p := by
        apply Classical.byContradiction
        intro hp
        have := Int.mul_nonneg (show 0 ≤ -p by omega) (Int.le_of_lt D0)
        rw [Int.neg_mul] at this
        omega
      rw [if_neg (by omega), if_neg (by omega), if_neg h1, if_neg h2]

theorem valid_ext (n d : Int) (i : InI n) (j : InI d) (W : World) :
    Calls Tryd.prog 17 #[.agg #[.int .i64 n, .int .i64 d]] W fun e w' => e = .returned (.bool (validB n d)) ∧ Ext W w' :=
  (valid_any n d i.1 i.2 j.1 j.2 W).mono fun _ _ ⟨he, _, k, hw⟩ => ⟨he, hw ▸ ((Ext.refl W).alloc _).drewN k⟩
theorem cmp_ext (an ad bn bd : Int) (va : validB an ad = true) (vb : validB bn bd = true) (ia : InI an) (ja : InI ad) (ib : InI bn) (jb : InI bd) (W : World) :
    Calls Tryd.prog 28 #[.agg #[.int .i64 an, .int .i64 ad], .agg #[.int .i64 bn, .int .i64 bd]] W fun e w' => e = .returned (.int .i64 (cmpP an ad bn bd)) ∧ Ext W w' :=
  cmp_ok an ad bn bd W va vb ia.1 ia.2 ja.1 ja.2 ib.1 ib.2 jb.1 jb.2
theorem sub_ext (an ad bn bd : Int) (va : validB an ad = true) (vb : validB bn bd = true) (ia : InI an) (ja : InI ad) (ib : InI bn) (jb : InI bd) (W : World) :
    Calls Tryd.prog 24 #[.agg #[.int .i64 an, .int .i64 ad], .agg #[.int .i64 bn, .int .i64 bd]] W fun e w' =>
      e = .returned (.tuple #[.agg #[.int .i64 (sumR (oneP an ad).1 (oneP an ad).2 (oneP bn bd).1 (oneP bn bd).2 true).1, .int .i64 (sumR (oneP an ad).1 (oneP an ad).2 (oneP bn bd).1 (oneP bn bd).2 true).2.1], .int .i64 (sumR (oneP an ad).1 (oneP an ad).2 (oneP bn bd).1 (oneP bn bd).2 true).2.2]) ∧ Ext W w' :=
  sub_ok an ad bn bd W va vb ia ja ib jb

theorem cells23 : Tryd.prog.cellsOf 23 = 2 := by kernel_rfl
theorem wf_of {n : Int} (i : InI n) : (Lit.int .i64 n).wf = true := by
  have e1 : IntKind.i64.min = -9223372036854775808 := rfl
  have e2 : IntKind.i64.max = 9223372036854775807 := rfl
  simp only [Lit.wf, e1, e2, Bool.and_eq_true, decide_eq_true_eq]
  exact ⟨i.1, i.2⟩
theorem of_wf {n : Int} (h : (Lit.int .i64 n).wf = true) : InI n := by
  have e1 : IntKind.i64.min = -9223372036854775808 := rfl
  have e2 : IntKind.i64.max = 9223372036854775807 := rfl
  simp only [Lit.wf, e1, e2, Bool.and_eq_true, decide_eq_true_eq] at h
  exact ⟨h.1, h.2⟩
set_option maxRecDepth 100000
variable {H : Type} {enc : TypeId × Value → H}
theorem open_ratio {W : World} {b base : Nat} {sp : Nat → Bool} {held : Bool} {v : Value} {d : DataW H} {p : List MemPlace}
    (hv : Value.okWide Tryd.prog W .any b 23 v) (h : DataW.Trod enc Tryd.prog W base sp held 23 v d p) :
    ∃ n m : Int, v = .agg #[.int .i64 n, .int .i64 m] ∧ d = .agg [.lit (.int .i64 n), .lit (.int .i64 m)] ∧ p = [] ∧ InI n ∧ InI m := by
  obtain ⟨c0, c1, y0, y1, k, rfl, rfl, rfl, hy0, hy1⟩ := Joins.open_agg2 Tryd.underlying23 (by kernel_rfl) cells23 hv h
  obtain ⟨n, e0, rfl, wn⟩ := DataW.trod_int Tryd.underlying2 hy0
  obtain ⟨m, e1, rfl, wm⟩ := DataW.trod_int Tryd.underlying2 hy1
  simp only [List.cons.injEq, and_true] at e0 e1
  subst e0 e1
  exact ⟨n, m, rfl, rfl, rfl, of_wf wn, of_wf wm⟩
theorem shut_ratio {W : World} {base : Nat} {sp : Nat → Bool} {held : Bool} {n m : Int} (i : InI n) (j : InI m) :
    DataW.Trod enc Tryd.prog W base sp held 23 (.agg #[.int .i64 n, .int .i64 m]) (.agg [.lit (.int .i64 n), .lit (.int .i64 m)]) [] :=
  Joins.shut_agg2 (y0 := (.lit (.int .i64 n), [])) (y1 := (.lit (.int .i64 m), [])) Tryd.underlying23 (by kernel_rfl) cells23 ⟨1, by simp [DataW.trod, Tryd.underlying2, wf_of i]⟩ ⟨1, by simp [DataW.trod, Tryd.underlying2, wf_of j]⟩
end Go.Proofs.YtifhgkdajnngnaaDoor
