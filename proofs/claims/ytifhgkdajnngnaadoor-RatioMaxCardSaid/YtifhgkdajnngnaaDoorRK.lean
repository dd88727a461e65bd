/- Plain theory of fractions in lowest terms: what the product and the sum of two give. -/
import Derived.Test.YtifhgkdajnngnaaDoorRV
namespace Go.Proofs.YtifhgkdajnngnaaDoor
/-- r is what the fraction N/D gives: its lowest terms, or 'does not fit'. -/
def Rat (N D : Int) (r : Int × Int × Int) : Prop :=
  ∃ p q : Int, 0 < q ∧ Nat.Coprime p.natAbs q.natAbs ∧ p * D = N * q ∧ ((r = (p, q, 0) ∧ InI p ∧ InI q) ∨ (r = (0, 0, 3) ∧ ¬ (InI p ∧ InI q)))

theorem low_unique {p q p' q' : Int} (hq : 0 < q) (hq' : 0 < q') (c : Nat.Coprime p.natAbs q.natAbs) (c' : Nat.Coprime p'.natAbs q'.natAbs) (h : p * q' = p' * q) : p = p' ∧ q = q' := by
  have h1 : p.natAbs * q'.natAbs = p'.natAbs * q.natAbs := by rw [← Int.natAbs_mul, h, Int.natAbs_mul]
  have d1 : q.natAbs ∣ q'.natAbs := Nat.Coprime.dvd_of_dvd_mul_left (Nat.Coprime.symm c) (h1 ▸ Nat.dvd_mul_left _ _)
  have d2 : q'.natAbs ∣ q.natAbs := Nat.Coprime.dvd_of_dvd_mul_left (Nat.Coprime.symm c') (h1 ▸ Nat.dvd_mul_left _ _)
  have e := Nat.dvd_antisymm d1 d2
  have e' : q = q' := by omega
  subst e'
  exact ⟨Int.eq_of_mul_eq_mul_right (by omega) h, rfl⟩

theorem Rat.same {N D N' D' : Int} {r r' : Int × Int × Int} (hD : 0 < D) (hD' : 0 < D') (h : N * D' = N' * D) (a : Rat N D r) (b : Rat N' D' r') : r = r' := by
  obtain ⟨p, q, hq, c, e, f⟩ := a
  obtain ⟨p', q', hq', c', e', f'⟩ := b
  have : p * q' = p' * q := by
    apply Int.eq_of_mul_eq_mul_right (a := D * D') (Int.ne_of_gt (Int.mul_pos hD hD'))
    calc p * q' * (D * D') = (p * D) * (q' * D') := by ac_rfl
      _ = (N * q) * (q' * D') := by rw [e]
      _ = (N * D') * (q * q') := by ac_rfl
      _ = (N' * D) * (q * q') := by rw [h]
      _ = (N' * q') * (q * D) := by ac_rfl
      _ = (p' * D') * (q * D) := by rw [e']
      _ = p' * q * (D * D') := by ac_rfl
  obtain ⟨rfl, rfl⟩ := low_unique hq hq' c c' this
  rcases f with ⟨rfl, f⟩ | ⟨rfl, f⟩ <;> rcases f' with ⟨rfl, f'⟩ | ⟨rfl, f'⟩ <;> first | rfl | exact absurd f f' | exact absurd f' f

theorem res_rat (s : Bool) (m q N D : Int) (hm : 0 ≤ m) (hq : 0 < q) (c : Nat.Coprime m.natAbs q.natAbs) (e : (if s then -m else m) * D = N * q) : Rat N D (res s m q) := by
  refine ⟨if s then -m else m, q, hq, ?_, e, ?_⟩
  · cases s
    · exact c
    · simpa using c
  · unfold res InI
    cases s
    · by_cases h : m ≤ 9223372036854775807 ∧ q ≤ 9223372036854775807
      · refine .inl ⟨by simp [h], ?_⟩
        simp; omega
      · refine .inr ⟨?_, by simp; omega⟩
        rw [if_neg (by simpa using h)]
    · by_cases h : m ≤ 9223372036854775808 ∧ q ≤ 9223372036854775807
      · refine .inl ⟨by simp [h], ?_⟩
        simp; omega
      · refine .inr ⟨?_, by simp; omega⟩
        rw [if_neg (by simpa using h)]

/-- Two numbers, their greatest divisor taken out. -/
theorem parts (a b : Nat) (h : 0 < Nat.gcd a b) : ∃ x y, a = Nat.gcd a b * x ∧ b = Nat.gcd a b * y ∧ Nat.Coprime x y ∧ a / Nat.gcd a b = x ∧ b / Nat.gcd a b = y :=
  ⟨a / Nat.gcd a b, b / Nat.gcd a b, (Nat.mul_div_cancel' (Nat.gcd_dvd_left _ _)).symm, (Nat.mul_div_cancel' (Nat.gcd_dvd_right _ _)).symm, Nat.coprime_div_gcd_div_gcd h, rfl, rfl⟩

theorem cop_of {a b x y : Nat} (c : Nat.Coprime a b) (ha : x ∣ a) (hb : y ∣ b) : Nat.Coprime x y :=
  Nat.Coprime.coprime_dvd_left ha (Nat.Coprime.symm (Nat.Coprime.coprime_dvd_left hb (Nat.Coprime.symm c)))

theorem mul_rat (a1 a2 b1 b2 : Int) (ha : 0 < a2) (hb : 0 < b2) (ca : Nat.Coprime a1.natAbs a2.natAbs) (cb : Nat.Coprime b1.natAbs b2.natAbs) (s : Bool)
    (hs : (!(decide (a1 < 0)) == (decide (b1 < 0))) = s) :
    Rat (a1 * b1) (a2 * b2) (res s ((a1.natAbs : Int) / Nat.gcd a1.natAbs b2.natAbs * (b1.natAbs / Nat.gcd b1.natAbs a2.natAbs))
        ((a2.natAbs : Int) / Nat.gcd b1.natAbs a2.natAbs * (b2.natAbs / Nat.gcd a1.natAbs b2.natAbs))) := by
  obtain ⟨x, y, e1, e2, c1, f1, f2⟩ := parts a1.natAbs b2.natAbs (Nat.gcd_pos_of_pos_right _ (by omega))
  obtain ⟨z, u, e3, e4, c2, f3, f4⟩ := parts b1.natAbs a2.natAbs (Nat.gcd_pos_of_pos_right _ (by omega))
  have k1 : x ∣ a1.natAbs := e1 ▸ Nat.dvd_mul_left _ _
  have k2 : y ∣ b2.natAbs := e2 ▸ Nat.dvd_mul_left _ _
  have k3 : z ∣ b1.natAbs := e3 ▸ Nat.dvd_mul_left _ _
  have k4 : u ∣ a2.natAbs := e4 ▸ Nat.dvd_mul_left _ _
  have hu : 0 < u := Nat.pos_of_ne_zero (by rintro rfl; simp at e4; omega)
  have hy : 0 < y := Nat.pos_of_ne_zero (by rintro rfl; simp at e2; omega)
  rw [← Int.natCast_ediv, ← Int.natCast_ediv, ← Int.natCast_ediv, ← Int.natCast_ediv, f1, f2, f3, f4, ← Int.natCast_mul, ← Int.natCast_mul]
  generalize Nat.gcd a1.natAbs b2.natAbs = g at *
  generalize Nat.gcd b1.natAbs a2.natAbs = h at *
  refine res_rat s _ _ _ _ (Int.natCast_nonneg _) (Int.natCast_pos.2 (Nat.mul_pos hu hy)) ?_ ?_
  · rw [Int.natAbs_natCast, Int.natAbs_natCast]
    exact Nat.Coprime.mul_left (Nat.Coprime.mul_right (cop_of ca k1 k4) c1) (Nat.Coprime.mul_right c2 (cop_of cb k3 k2))
  · have e2' : b2 = (g : Int) * y := by rw [← Int.natCast_mul, ← e2]; omega
    have e4' : a2 = (h : Int) * u := by rw [← Int.natCast_mul, ← e4]; omega
    have e1' : (a1.natAbs : Int) = (g : Int) * x := by rw [← Int.natCast_mul, ← e1]
    have e3' : (b1.natAbs : Int) = (h : Int) * z := by rw [← Int.natCast_mul, ← e3]
    rw [e2', e4', Int.natCast_mul, Int.natCast_mul]
    by_cases n1 : a1 < 0 <;> by_cases n2 : b1 < 0 <;> simp [n1, n2] at hs <;> subst hs
    · rw [show a1 = -((g : Int) * x) by omega, show b1 = -((h : Int) * z) by omega, Int.neg_mul_neg]
      simp only [Bool.false_eq_true, if_false]
      ac_rfl
    · rw [show a1 = -((g : Int) * x) by omega, show b1 = ((h : Int) * z) by omega]
      simp only [if_true, Int.neg_mul]
      congr 1
      ac_rfl
    · rw [show a1 = ((g : Int) * x) by omega, show b1 = -((h : Int) * z) by omega]
      simp only [if_true, Int.neg_mul, Int.mul_neg]
      congr 1
      ac_rfl
    · rw [show a1 = ((g : Int) * x) by omega, show b1 = ((h : Int) * z) by omega]
      simp only [Bool.false_eq_true, if_false]
      ac_rfl

theorem plus_signed (s t : Bool) (x y : Int) (hx : 0 ≤ x) (hy : 0 ≤ y) :
    0 ≤ pmag s t x y ∧ (if psgn s t x y then -pmag s t x y else pmag s t x y) = (if s then -x else x) + (if t then -y else y) := by
  unfold pmag psgn
  cases s <;> cases t <;> simp <;> (try split) <;> omega

theorem sum_rat (a1 a2 b1 b2 : Int) (minus : Bool) (ha : 0 < a2) (hb : 0 < b2) (ca : Nat.Coprime a1.natAbs a2.natAbs) (cb : Nat.Coprime b1.natAbs b2.natAbs) :
    Rat (a1 * b2 + (if minus then -b1 else b1) * a2) (a2 * b2) (sumR a1 a2 b1 b2 minus) := by
  obtain ⟨u, v, e1, e2, c1, f1, f2⟩ := parts a2.natAbs b2.natAbs (Nat.gcd_pos_of_pos_right _ (by omega))
  have k1 : u ∣ a2.natAbs := e1 ▸ Nat.dvd_mul_left _ _
  have k2 : v ∣ b2.natAbs := e2 ▸ Nat.dvd_mul_left _ _
  have hu : 0 < u := Nat.pos_of_ne_zero (by rintro rfl; simp at e1; omega)
  have hv : 0 < v := Nat.pos_of_ne_zero (by rintro rfl; simp at e2; omega)
  have g0 : 0 < Nat.gcd a2.natAbs b2.natAbs := Nat.gcd_pos_of_pos_right _ (by omega)
  unfold sumR
  have f0 : a2 / (Nat.gcd a2.natAbs b2.natAbs : Nat) = (u : Int) := by
    rw [← f1, Int.natCast_ediv, Int.natAbs_of_nonneg (by omega)]
  simp only [← Int.natCast_ediv, f1, f2, f0, Int.natAbs_natCast]
  generalize Nat.gcd a2.natAbs b2.natAbs = g at *
  have e1' : a2 = (g : Int) * u := by rw [← Int.natCast_mul, ← e1]; omega
  have e2' : b2 = (g : Int) * v := by rw [← Int.natCast_mul, ← e2]; omega
  obtain ⟨hm0, hT⟩ := plus_signed (decide (a1 < 0)) (!(decide (b1 < 0) == minus)) ((a1.natAbs : Int) * v) ((b1.natAbs : Int) * u) (Int.mul_nonneg (Int.natCast_nonneg _) (Int.natCast_nonneg _)) (Int.mul_nonneg (Int.natCast_nonneg _) (Int.natCast_nonneg _))
  generalize hsg : psgn (decide (a1 < 0)) (!(decide (b1 < 0) == minus)) ((a1.natAbs : Int) * v) ((b1.natAbs : Int) * u) = sg at *
  generalize hmm : pmag (decide (a1 < 0)) (!(decide (b1 < 0) == minus)) ((a1.natAbs : Int) * v) ((b1.natAbs : Int) * u) = m at *
  have hT' : (if sg then -m else m) = a1 * v + (if minus then -b1 else b1) * u := by
    rw [hT]
    congr 1
    · by_cases n1 : a1 < 0
      · simp only [n1, decide_true, if_true]
        rw [show (a1.natAbs : Int) = -a1 by omega, Int.neg_mul, Int.neg_neg]
      · simp only [n1, decide_false, Bool.false_eq_true, if_false]
        rw [show (a1.natAbs : Int) = a1 by omega]
    · by_cases n1 : b1 < 0 <;> cases minus <;> simp [n1] <;> rw [show (b1.natAbs : Int) = (if b1 < 0 then -b1 else b1) by split <;> omega] <;> simp [n1, Int.neg_mul]
  clear hT hsg hmm
  obtain ⟨M, rfl⟩ : ∃ M : Nat, m = M := ⟨m.toNat, by omega⟩
  have hg : Nat.gcd ((M : Int) % (g : Int)).natAbs g = Nat.gcd M g := by
    rw [← Int.natCast_emod, Int.natAbs_natCast, ← Nat.gcd_rec, Nat.gcd_comm]
  rw [hg]
  obtain ⟨n, k, e3, e4, c2, f3, f4⟩ := parts M g (Nat.gcd_pos_of_pos_right _ g0)
  have h0 : 0 < Nat.gcd M g := Nat.gcd_pos_of_pos_right _ g0
  have k3 : n ∣ M := ⟨_, e3.trans (Nat.mul_comm _ _)⟩
  have hk : 0 < k := Nat.pos_of_ne_zero (by rintro rfl; simp at e4; omega)
  have f5 : b2.natAbs / Nat.gcd M g = k * v := by
    apply Nat.div_eq_of_eq_mul_right h0
    rw [e2, ← Nat.mul_assoc, ← e4]
  rw [← Int.natCast_ediv, f3, f5]
  generalize Nat.gcd M g = h at *
  -- M is the magnitude of T
  have hM : (M : Int).natAbs = (a1 * v + (if minus then -b1 else b1) * u).natAbs := by rw [← hT']; cases sg <;> simp
  rw [Int.natAbs_natCast] at hM
  have cu : Nat.Coprime M u := by
    have d1 : Nat.gcd M u ∣ M := Nat.gcd_dvd_left _ _
    have d2 : Nat.gcd M u ∣ u := Nat.gcd_dvd_right _ _
    have d3 : ((Nat.gcd M u : Nat) : Int) ∣ a1 * v + (if minus then -b1 else b1) * u := Int.natAbs_dvd_natAbs.1 (by rw [Int.natAbs_natCast, ← hM]; exact d1)
    have d4 : ((Nat.gcd M u : Nat) : Int) ∣ a1 * v := by
      have := Int.dvd_sub d3 (Int.dvd_trans (Int.natCast_dvd_natCast.2 d2) (Int.dvd_mul_left (if minus then -b1 else b1) (u : Int)))
      rwa [Int.add_sub_cancel] at this
    have d5 : Nat.gcd M u ∣ a1.natAbs * v := by
      have := Int.natAbs_dvd_natAbs.2 d4
      rwa [Int.natAbs_natCast, Int.natAbs_mul, Int.natAbs_natCast] at this
    have cc : Nat.Coprime (a1.natAbs * v) u := Nat.Coprime.mul_left (cop_of ca (Nat.dvd_refl _) k1) (Nat.Coprime.symm c1)
    exact Nat.eq_one_of_dvd_one (cc ▸ Nat.dvd_gcd d5 d2)
  have cv : Nat.Coprime M v := by
    have d1 : Nat.gcd M v ∣ M := Nat.gcd_dvd_left _ _
    have d2 : Nat.gcd M v ∣ v := Nat.gcd_dvd_right _ _
    have d3 : ((Nat.gcd M v : Nat) : Int) ∣ a1 * v + (if minus then -b1 else b1) * u := Int.natAbs_dvd_natAbs.1 (by rw [Int.natAbs_natCast, ← hM]; exact d1)
    have d4 : ((Nat.gcd M v : Nat) : Int) ∣ (if minus then -b1 else b1) * u := by
      have := Int.dvd_sub d3 (Int.dvd_trans (Int.natCast_dvd_natCast.2 d2) (Int.dvd_mul_left a1 (v : Int)))
      rwa [Int.add_comm, Int.add_sub_cancel] at this
    have d5 : Nat.gcd M v ∣ b1.natAbs * u := by
      have := Int.natAbs_dvd_natAbs.2 d4
      rw [Int.natAbs_natCast, Int.natAbs_mul, Int.natAbs_natCast] at this
      cases minus <;> simpa using this
    have cc : Nat.Coprime (b1.natAbs * u) v := Nat.Coprime.mul_left (cop_of cb (Nat.dvd_refl _) k2) c1
    exact Nat.eq_one_of_dvd_one (cc ▸ Nat.dvd_gcd d5 d2)
  rw [← Int.natCast_mul]
  refine res_rat sg _ _ _ _ (Int.natCast_nonneg _) (Int.natCast_pos.2 (Nat.mul_pos hu (Nat.mul_pos hk hv))) ?_ ?_
  · rw [Int.natAbs_natCast, Int.natAbs_natCast]
    exact Nat.Coprime.mul_right (cop_of cu k3 (Nat.dvd_refl _)) (Nat.Coprime.mul_right c2 (cop_of cv k3 (Nat.dvd_refl _)))
  · have e3' : (M : Int) = h * n := by rw [← Int.natCast_mul, ← e3]
    have e4' : (g : Int) = h * k := by rw [← Int.natCast_mul, ← e4]
    have hp : (h : Int) * (if sg then -(n : Int) else n) = a1 * v + (if minus then -b1 else b1) * u := by
      rw [← hT', e3']; cases sg <;> simp [Int.mul_neg]
    generalize (if sg then -(n : Int) else n) = p at *
    generalize (if minus then -b1 else b1) = c at *
    rw [e1', e2', Int.natCast_mul, Int.natCast_mul]
    have : a1 * (g * v) + c * (g * u) = g * (h * p) := by rw [hp, Int.mul_add]; congr 1 <;> ac_rfl
    rw [this]
    calc p * (g * u * (g * v)) = p * g * (u * v) * g := by ac_rfl
      _ = p * g * (u * v) * (h * k) := congrArg (fun z => p * g * (u * v) * z) e4'
      _ = g * (h * p) * (u * (k * v)) := by ac_rfl
end Go.Proofs.YtifhgkdajnngnaaDoor
