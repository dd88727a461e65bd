/- The reference's contracts in plain terms: signed numbers, fractions in lowest terms. -/
import Derived.Test.YtifhgkdajnngnaaDoorRR5
import Derived.Test.YtifhgkdajnngnaaDoorRY
namespace Go.Proofs.YtifhgkdajnngnaaDoor
open Go.RowKit Go.Par

def sgI (s : Bool) (m : Nat) : Int := if s then -(m : Int) else m
theorem wv_small (s : Bool) (x : Nat) (h : x < 18446744073709551616) : wv s x = .agg #[.bool s, .int .u64 0, .int .u64 x] := by
  have e1 : hiW (x : Int) = 0 := by simp only [hiW]; omega
  have e2 : loW (x : Int) = x := by simp only [loW]; omega
  rw [wv, e1, e2]
theorem abs_lt {n : Int} (i : InI n) : n.natAbs ≤ 9223372036854775808 := by obtain ⟨a, b⟩ := i; omega
theorem prod_half {x y : Nat} (hx : x ≤ 9223372036854775808) (hy : y ≤ 9223372036854775808) : x * y ≤ 85070591730234615865843651857942052864 :=
  Nat.le_trans (Nat.mul_le_mul hx hy) (by decide)
theorem half_small {x : Nat} (hx : x ≤ 9223372036854775808) : HalfN x := by unfold HalfN; omega
theorem half_prod {x y : Nat} (hx : x ≤ 9223372036854775808) (hy : y ≤ 9223372036854775808) : HalfN (x * y) := by
  have := prod_half hx hy
  unfold HalfN; omega
theorem mulw_any (s t : Bool) (x y : Nat) (hx : x ≤ 9223372036854775808) (hy : y ≤ 9223372036854775808) (W : World) :
    Calls Tryd.prog 25 #[wv s x, wv t y] W fun e w' => e = .returned (wv (!s == t) (x * y : Nat)) ∧ Ext W w' := by
  rw [wv_small s x (by omega), wv_small t y (by omega)]
  exact mul_w s t x y (by omega) (by omega) W
theorem sg_mul (a b : Int) : sgI (!(decide (a < 0)) == decide (b < 0)) (a.natAbs * b.natAbs) = a * b := by
  unfold sgI
  by_cases h1 : a < 0 <;> by_cases h2 : b < 0 <;> simp [h1, h2]
  · rw [show a = -(a.natAbs : Int) by omega, show b = -(b.natAbs : Int) by omega, Int.neg_mul_neg]; simp
  · rw [show a = -(a.natAbs : Int) by omega, show b = (b.natAbs : Int) by omega, Int.neg_mul]; simp
  · rw [show a = (a.natAbs : Int) by omega, show b = -(b.natAbs : Int) by omega, Int.mul_neg]; simp
  · rw [show a = (a.natAbs : Int) by omega, show b = (b.natAbs : Int) by omega]; simp
theorem sg_of (n : Int) : sgI (decide (n < 0)) n.natAbs = n := by
  unfold sgI
  by_cases h : n < 0 <;> simp [h] <;> omega

theorem validref_any (n d : Int) (i : InI n) (j : InI d) (W : World) :
    Calls Tryd.prog 18 #[.int .i64 n, .int .i64 d] W fun e w' => e = .returned (.bool (validB n d)) ∧ Ext W w' := by
  by_cases hd : d = 0
  · subst hd
    have e : validB n 0 = (n == 0) := by simp [validB]
    rw [e]
    go_enter Tryd.func18, Tryd.ntmps18
    go_wp2
    all_goals
      go_ret
      exact ⟨ret_bool (by simp [*]), Ext.refl _⟩
  · have hn := abs_lt i
    have hd' := abs_lt j
    have h := valid_walk n d hd W _ _ _ _ _ _ _ _ (fun W => of_any n i W) (fun W => of_any d j W) (fun W => gcd_w _ _ n.natAbs d.natAbs (half_small hn).fit (half_small hd') W)
    have e : validB n d = (decide (0 < d) && (hiW (Nat.gcd n.natAbs d.natAbs : Nat) == 0 && loW (Nat.gcd n.natAbs d.natAbs : Nat) == 1)) := by
      have hg : Nat.gcd n.natAbs d.natAbs ≤ d.natAbs := Nat.gcd_le_right _ (by omega)
      have e1 : hiW (Nat.gcd n.natAbs d.natAbs : Nat) = 0 := by simp only [hiW]; omega
      have e2 : loW (Nat.gcd n.natAbs d.natAbs : Nat) = (Nat.gcd n.natAbs d.natAbs : Nat) := by simp only [loW]; omega
      rw [e1, e2]
      have e3 : (n == 0 && d == 0) = false := by simp [hd]
      rw [validB, e3, Bool.false_or]
      congr 1
      rw [Bool.eq_iff_iff]
      simp [Int.gcd]
      omega
    rw [e]
    exact h

theorem narrow_in (s : Bool) (m : Nat) : (narrowP s m = (sgI s m, true) ∧ InI (sgI s m)) ∨ (narrowP s m = (0, false) ∧ ¬ InI (sgI s m)) := by
  unfold narrowP sgI InI
  by_cases h : (m : Int) < 9223372036854775808 ∨ ((m : Int) = 9223372036854775808 ∧ s = true)
  · refine .inl ⟨by rw [if_pos h], ?_⟩
    cases s <;> simp at h ⊢ <;> omega
  · refine .inr ⟨by rw [if_neg h], ?_⟩
    cases s <;> simp at h ⊢ <;> omega

/-- What Reduce answers is what a fraction in lowest terms is. -/
theorem red_rat (s t : Bool) (m n : Nat) (hn : 0 < n) (r : Int × Int × Int) (h : Rat (sgI s m) (sgI t n) r) :
    ((redP s t m n).2.2 = true ∧ r = ((redP s t m n).1, (redP s t m n).2.1, 0)) ∨ ((redP s t m n).2.2 = false ∧ r = (0, 0, 3)) := by
  obtain ⟨p, q, q0, c, e, h⟩ := h
  obtain ⟨x, y, e1, e2, cxy, f1, f2⟩ := parts m n (Nat.gcd_pos_of_pos_right _ hn)
  have g0 : 0 < Nat.gcd m n := Nat.gcd_pos_of_pos_right _ hn
  have y0 : 0 < y := Nat.pos_of_ne_zero (by rintro rfl; simp at e2; omega)
  unfold redP
  rw [f1, f2]
  generalize Nat.gcd m n = g at *
  have D0 : sgI t n ≠ 0 := by unfold sgI; cases t <;> simp <;> omega
  have key : sgI ((!s == t) && !decide (m = 0)) x * sgI t n = sgI s m * (y : Int) := by
    have e1' : (m : Int) = g * x := by rw [← Int.natCast_mul, ← e1]
    have e2' : (n : Int) = g * y := by rw [← Int.natCast_mul, ← e2]
    unfold sgI
    by_cases hm : m = 0
    · have hx : x = 0 := by
        rcases Nat.mul_eq_zero.1 (e1.symm.trans hm) with h | h <;> omega
      subst hx hm
      cases s <;> cases t <;> simp
    · rw [e1', e2']
      cases s <;> cases t <;> simp [hm, Int.mul_neg, Int.neg_mul] <;> ac_rfl
  have hpq : p * (y : Int) = sgI ((!s == t) && !decide (m = 0)) x * q := by
    apply Int.eq_of_mul_eq_mul_right D0
    calc p * y * sgI t n = p * sgI t n * y := by ac_rfl
      _ = sgI s m * q * y := by rw [e]
      _ = sgI s m * y * q := by ac_rfl
      _ = sgI ((!s == t) && !decide (m = 0)) x * sgI t n * q := by rw [key]
      _ = _ := by ac_rfl
  have cc : Nat.Coprime (sgI ((!s == t) && !decide (m = 0)) x).natAbs (y : Int).natAbs := by
    rw [Int.natAbs_natCast]
    have : (sgI ((!s == t) && !decide (m = 0)) x).natAbs = x := by unfold sgI; split <;> simp
    rw [this]; exact cxy
  obtain ⟨rfl, rfl⟩ := low_unique q0 (by omega) c cc hpq
  have hy := narrow_in false y
  have sy : sgI false y = y := by simp [sgI]
  rw [sy] at hy
  rcases narrow_in ((!s == t) && !decide (m = 0)) x with ⟨n1, i1⟩ | ⟨n1, i1⟩ <;> rcases hy with ⟨n2, i2⟩ | ⟨n2, i2⟩ <;> rw [n1, n2] <;> rcases h with ⟨rfl, a, b⟩ | ⟨rfl, a⟩
  · exact .inl ⟨rfl, rfl⟩
  · exact absurd ⟨i1, i2⟩ a
  · exact absurd b i2
  · exact .inr ⟨rfl, rfl⟩
  · exact absurd a i1
  · exact .inr ⟨rfl, rfl⟩
  · exact absurd a i1
  · exact .inr ⟨rfl, rfl⟩

theorem is_any (s t : Bool) (m n : Nat) (hm : FitN m) (hn0 : 0 < n) (hn : HalfN n) (r : Int × Int × Int) (h : Rat (sgI s m) (sgI t n) r) (W : World) :
    Calls Tryd.prog 15 #[.agg #[.int .i64 r.1, .int .i64 r.2.1], .int .i64 r.2.2, wv s m, wv t n] W fun e w' => e = .returned (.bool true) ∧ Ext W w' := by
  have hR := fun W => reduce_w s t m n hm hn0 hn W
  have hr := red_rat s t m n hn0 r h
  generalize redP s t m n = P at *
  obtain ⟨x, y, o⟩ := P
  unfold wv at *
  generalize hiW (m : Int) = mh at *
  generalize loW (m : Int) = ml at *
  generalize hiW (n : Int) = nh at *
  generalize loW (n : Int) = nl at *
  rcases hr with ⟨h1, rfl⟩ | ⟨h1, rfl⟩
  · obtain rfl : o = true := h1
    exact is_yes x y W s t mh ml nh nl hR
  · obtain rfl : o = false := h1
    exact is_no x y W s t mh ml nh nl hR

theorem cmpref_any (a b c d : Int) (ia : InI a) (ib : InI b) (ic : InI c) (id : InI d) (W : World) :
    Calls Tryd.prog 29 #[.int .i64 a, .int .i64 b, .int .i64 c, .int .i64 d] W fun e w' => e = .returned (.int .i64 (cmpI (a * d) (c * b))) ∧ Ext W w' := by
  have la := abs_lt ia
  have lb := abs_lt ib
  have lc := abs_lt ic
  have ld := abs_lt id
  have p1 := prod_half la ld
  have p2 := prod_half lc lb
  have f1 : Fits ((a.natAbs * d.natAbs : Nat) : Int) := (half_prod la ld).fit.fits
  have f2 : Fits ((c.natAbs * b.natAbs : Nat) : Int) := (half_prod lc lb).fit.fits
  have f3 : Fits (((a.natAbs * d.natAbs : Nat) : Int) + ((c.natAbs * b.natAbs : Nat) : Int)) := by unfold Fits; omega
  have h7 := fun W => add_w (!(decide (a < 0)) == decide (d < 0)) (!(!(decide (c < 0)) == decide (b < 0))) _ _ f1 f2 f3 W
  obtain ⟨z0, hz⟩ := plus_signed (!(decide (a < 0)) == decide (d < 0)) (!(!(decide (c < 0)) == decide (b < 0))) ((a.natAbs * d.natAbs : Nat) : Int) ((c.natAbs * b.natAbs : Nat) : Int) (by omega) (by omega)
  have fz : Fits (pmag (!(decide (a < 0)) == decide (d < 0)) (!(!(decide (c < 0)) == decide (b < 0))) ((a.natAbs * d.natAbs : Nat) : Int) ((c.natAbs * b.natAbs : Nat) : Int)) := by
    refine ⟨z0, Int.lt_of_le_of_lt ?_ f3.2⟩
    unfold pmag
    split <;> omega
  have h8 := fun (s : Bool) W => zero_any s _ fz W
  have e1 := sg_mul a d
  have e2 := sg_mul c b
  unfold sgI at e1 e2
  have e2' : (if (!(!(decide (c < 0)) == decide (b < 0))) = true then -((c.natAbs * b.natAbs : Nat) : Int) else ((c.natAbs * b.natAbs : Nat) : Int)) = -(c * b) := by
    rw [← e2]
    cases (!(decide (c < 0)) == decide (b < 0)) <;> simp
  rw [e1, e2'] at hz
  have h3 := fun W => mulw_any (decide (a < 0)) (decide (d < 0)) a.natAbs d.natAbs la ld W
  have h6 := fun W => mulw_any (decide (c < 0)) (decide (b < 0)) c.natAbs b.natAbs lc lb W
  have h := cmp_walk a b c d W _ _ _ _ _ _ _ _ _ _ _ _ _ _ _ _ _ _ _ _ _ _ (fun W => of_any a ia W) (fun W => of_any d id W) h3 (fun W => of_any c ic W) (fun W => of_any b ib W) h6 h7 (h8 _)
  refine h.mono fun e w' ⟨he, hx⟩ => ⟨?_, hx⟩
  rw [he]
  refine ret_int ?_
  generalize pmag _ _ _ _ = Z at *
  generalize psgn _ _ _ _ = sg at *
  unfold cmpI
  by_cases hZ : Z = 0
  · subst hZ
    have : a * d = c * b := by
      have : a * d + -(c * b) = 0 := by rw [← hz]; simp
      omega
    rw [this]; simp
  · simp only [hZ, decide_false, Bool.false_eq_true, if_false]
    cases sg
    · have hz : Z = a * d + -(c * b) := by simpa using hz
      rw [if_neg (show ¬ a * d < c * b by omega), if_neg (show ¬ a * d = c * b by omega)]
      rfl
    · have hz : -Z = a * d + -(c * b) := by simpa using hz
      rw [if_pos (show a * d < c * b by omega)]
      rfl
end Go.Proofs.YtifhgkdajnngnaaDoor
