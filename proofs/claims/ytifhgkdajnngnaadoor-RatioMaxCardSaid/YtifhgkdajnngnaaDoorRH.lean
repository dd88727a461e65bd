/- Contracts of package ratio: plus as one; sum. -/
import Derived.Test.YtifhgkdajnngnaaDoorRG
namespace Go.Proofs.YtifhgkdajnngnaaDoor
open Go.RowKit Go.Par

def psgn (s t : Bool) (x y : Int) : Bool := if x < y then t else s
def pmag (s t : Bool) (x y : Int) : Int := if s = t then x + y else ((x - y).natAbs : Int)

theorem plus_any (s t : Bool) (ah al bh bl : Int) (a0 : 0 ≤ ah) (a1 : ah < 9223372036854775808) (a2 : 0 ≤ al) (a3 : al < 18446744073709551616) (b0 : 0 ≤ bh) (b1 : bh < 9223372036854775808) (b2 : 0 ≤ bl) (b3 : bl < 18446744073709551616) (w : World) :
    Calls Tryd.prog 56 #[.agg #[.bool s, .int .u64 ah, .int .u64 al], .agg #[.bool t, .int .u64 bh, .int .u64 bl]] w
      (RetW6 (psgn s t (ah * 18446744073709551616 + al) (bh * 18446744073709551616 + bl)) (pmag s t (ah * 18446744073709551616 + al) (bh * 18446744073709551616 + bl)) w) := by
  by_cases hst : s = t
  · subst hst
    have e1 : psgn s s (ah * 18446744073709551616 + al) (bh * 18446744073709551616 + bl) = s := by unfold psgn; split <;> rfl
    rw [e1, pmag, if_pos rfl]
    by_cases hlt : ah * 18446744073709551616 + al < bh * 18446744073709551616 + bl
    · exact plus_same_sw s ah al bh bl a0 a1 a2 a3 b0 b1 b2 b3 w hlt
    · exact plus_same_no s ah al bh bl a0 a1 a2 a3 b0 b1 b2 b3 w hlt
  · have hst' : (s == t) = false := by simp [hst]
    rw [pmag, if_neg hst, psgn]
    by_cases hlt : ah * 18446744073709551616 + al < bh * 18446744073709551616 + bl
    · rw [if_pos hlt, show (((ah * 18446744073709551616 + al) - (bh * 18446744073709551616 + bl)).natAbs : Int) = (bh * 18446744073709551616 + bl) - (ah * 18446744073709551616 + al) by omega]
      exact plus_diff_sw s t hst' ah al bh bl a0 a1 a2 a3 b0 b1 b2 b3 w hlt
    · rw [if_neg hlt, show (((ah * 18446744073709551616 + al) - (bh * 18446744073709551616 + bl)).natAbs : Int) = (ah * 18446744073709551616 + al) - (bh * 18446744073709551616 + bl) by omega]
      exact plus_diff_no s t hst' ah al bh bl a0 a1 a2 a3 b0 b1 b2 b3 w hlt

theorem quo_two (nh nl h : Int) (h0 : 0 < h) : nh / h * 18446744073709551616 + (nh % h * 18446744073709551616 + nl) / h = (nh * 18446744073709551616 + nl) / h := by
  have e := Int.mul_ediv_add_emod nh h
  have : nh * 18446744073709551616 + nl = (nh % h * 18446744073709551616 + nl) + h * (nh / h * 18446744073709551616) := by
    rw [← Int.mul_assoc]
    generalize h * (nh / h) = z at *
    omega
  rw [this, Int.add_mul_ediv_left _ _ (by omega)]
  omega
theorem quo_lo (nh nl h : Int) (h0 : 0 < h) (l0 : 0 ≤ nl) (l1 : nl < 18446744073709551616) : 0 ≤ (nh % h * 18446744073709551616 + nl) / h ∧ (nh % h * 18446744073709551616 + nl) / h < 18446744073709551616 := by
  have a := Int.emod_nonneg nh (b := h) (by omega)
  have b := Int.emod_lt_of_pos nh h0
  refine ⟨Int.ediv_nonneg (by omega) (by omega), (Int.ediv_lt_iff_lt_mul h0).2 ?_⟩
  rw [Int.mul_comm]
  omega

/-- What sum makes of two fractions with denominators above 0. -/
def sumR (a1 a2 b1 b2 : Int) (minus : Bool) : Int × Int × Int :=
  let g : Int := (Nat.gcd a2.natAbs b2.natAbs : Nat)
  let x := (a1.natAbs : Int) * ((b2.natAbs : Int) / g)
  let y := (b1.natAbs : Int) * ((a2.natAbs : Int) / g)
  let s := decide (a1 < 0)
  let t := !(decide (b1 < 0) == minus)
  let m := pmag s t x y
  let h : Int := (Nat.gcd (m % g).natAbs g.natAbs : Nat)
  res (psgn s t x y) (m / h) (((a2 / g).natAbs : Int) * ((b2.natAbs : Int) / h))

set_option maxRecDepth 100000 in
set_option maxHeartbeats 1000000 in
theorem sum_bad (an ad bn bd : Int) (minus : Bool) (w : World) (h : validB an ad = false ∨ validB bn bd = false) (ia : InI an) (ja : InI ad) (ib : InI bn) (jb : InI bd) :
    Calls Tryd.prog 41 #[.agg #[.int .i64 an, .int .i64 ad], .agg #[.int .i64 bn, .int .i64 bd], .bool minus] w (RetR (0, 0, 1) w) := by
  have HA := Lib.hid (fun W : World => valid_any an ad ia.1 ia.2 ja.1 ja.2 W)
  have HB := Lib.hid (fun W : World => valid_any bn bd ib.1 ib.2 jb.1 jb.2 W)
  cases hva : validB an ad with
  | false =>
    rw [hva] at HA
    clear h
    go_enter Tryd.func41, Tryd.ntmps41
    go_wp2_with fail
    refine (HA.out _).mono ?_
    rintro e w' ⟨rfl, o, k, rfl⟩
    go_wp2_with fail
    exact bodyPost_ret (v := .tuple #[.agg #[.int .i64 0, .int .i64 0], .int .i64 1]) (by simp [results, Tryd.results41, go_sem]) rfl ⟨rfl, (by repeat (first | (with_reducible exact Ext.refl _) | (with_reducible assumption) | (with_reducible refine Ext.alloc ?_ _) | (with_reducible refine Ext.drewN ?_ _) | (with_reducible refine Ext.drew ?_) | (with_reducible refine Ext.setCell ?_ (by simp <;> omega) _)))⟩
  | true =>
    have hvb : validB bn bd = false := by simpa [hva] using h
    rw [hva] at HA
    rw [hvb] at HB
    clear h
    go_enter Tryd.func41, Tryd.ntmps41
    go_wp2_with fail
    refine (HA.out _).mono ?_
    rintro e w' ⟨rfl, o, k, rfl⟩
    go_wp2_with fail
    refine (HB.out _).mono ?_
    rintro e w' ⟨rfl, o', k', rfl⟩
    go_wp2_with fail
    exact bodyPost_ret (v := .tuple #[.agg #[.int .i64 0, .int .i64 0], .int .i64 1]) (by simp [results, Tryd.results41, go_sem]) rfl ⟨rfl, (by repeat (first | (with_reducible exact Ext.refl _) | (with_reducible assumption) | (with_reducible refine Ext.alloc ?_ _) | (with_reducible refine Ext.drewN ?_ _) | (with_reducible refine Ext.drew ?_) | (with_reducible refine Ext.setCell ?_ (by simp <;> omega) _)))⟩

set_option maxRecDepth 100000 in
set_option maxHeartbeats 2000000 in
theorem sum_ok (an ad bn bd : Int) (minus : Bool) (w : World) (va : validB an ad = true) (vb : validB bn bd = true) (ia : InI an) (ja : InI ad) (ib : InI bn) (jb : InI bd) :
    Calls Tryd.prog 41 #[.agg #[.int .i64 an, .int .i64 ad], .agg #[.int .i64 bn, .int .i64 bd], .bool minus] w (RetR (sumR (oneP an ad).1 (oneP an ad).2 (oneP bn bd).1 (oneP bn bd).2 minus) w) := by
  have HA := Lib.hid (fun W : World => valid_any an ad ia.1 ia.2 ja.1 ja.2 W)
  have HB := Lib.hid (fun W : World => valid_any bn bd ib.1 ib.2 jb.1 jb.2 W)
  rw [va] at HA
  rw [vb] at HB
  obtain ⟨ba0, ba1, ba2, ba3⟩ := one_bounds an ad va ia.1 ia.2 ja.2
  obtain ⟨bb0, bb1, bb2, bb3⟩ := one_bounds bn bd vb ib.1 ib.2 jb.2
  have HOa := Lib.hid (one_any an ad)
  have HOb := Lib.hid (one_any bn bd)
  clear va vb ia ja ib jb
  generalize (oneP an ad).1 = a1 at *
  generalize (oneP an ad).2 = a2 at *
  generalize (oneP bn bd).1 = b1 at *
  generalize (oneP bn bd).2 = b2 at *
  have hg : 0 < Nat.gcd a2.natAbs b2.natAbs := Nat.gcd_pos_of_pos_right _ (by omega)
  have hg2 : Nat.gcd a2.natAbs b2.natAbs ≤ 9223372036854775807 := Nat.le_trans (Nat.gcd_le_left _ (by omega)) (by omega)
  generalize hr : sumR a1 a2 b1 b2 minus = r
  obtain ⟨rx, ry, rc⟩ := r
  have HR := Lib.hid hr
  clear hr
  generalize hgE : Nat.gcd a2.natAbs b2.natAbs = g at *
  have GE := Lib.hid hgE
  clear hgE
  have da0 : (0 : Int) ≤ (a2.natAbs : Int) / (g : Int) := Int.ediv_nonneg (by omega) (by omega)
  have da1 : (a2.natAbs : Int) / (g : Int) ≤ 9223372036854775807 := Int.le_trans (Int.ediv_le_self _ (by omega)) (by omega)
  have da2 : IntKind.u64.wrap ((a2.natAbs : Int) / (g : Int)) = (a2.natAbs : Int) / (g : Int) := by rw [IntKind.wrap_u64]; omega
  have db0 : (0 : Int) ≤ (b2.natAbs : Int) / (g : Int) := Int.ediv_nonneg (by omega) (by omega)
  have db1 : (b2.natAbs : Int) / (g : Int) ≤ 9223372036854775807 := Int.le_trans (Int.ediv_le_self _ (by omega)) (by omega)
  have db2 : IntKind.u64.wrap ((b2.natAbs : Int) / (g : Int)) = (b2.natAbs : Int) / (g : Int) := by rw [IntKind.wrap_u64]; omega
  obtain ⟨hx0, hx1⟩ : 0 ≤ (a1.natAbs : Int) * ((b2.natAbs : Int) / (g : Int)) ∧ (a1.natAbs : Int) * ((b2.natAbs : Int) / (g : Int)) < 170141183460469231731687303715884105728 := by
    refine ⟨Int.mul_nonneg (by omega) db0, ?_⟩
    have := Int.mul_le_mul (show (a1.natAbs : Int) ≤ 9223372036854775808 by omega) db1 db0 (by omega)
    omega
  obtain ⟨hy0, hy1⟩ : 0 ≤ (b1.natAbs : Int) * ((a2.natAbs : Int) / (g : Int)) ∧ (b1.natAbs : Int) * ((a2.natAbs : Int) / (g : Int)) < 170141183460469231731687303715884105728 := by
    refine ⟨Int.mul_nonneg (by omega) da0, ?_⟩
    have := Int.mul_le_mul (show (b1.natAbs : Int) ≤ 9223372036854775808 by omega) da1 da0 (by omega)
    omega
  go_enter Tryd.func41, Tryd.ntmps41
  go_wp2_with fail
  refine (HA.out _).mono ?_
  rintro e w' ⟨rfl, o, k, rfl⟩
  go_wp2_with fail
  refine (HB.out _).mono ?_
  rintro e w' ⟨rfl, o', k', rfl⟩
  go_wp2_with fail
  refine Go.Par.region 4 [] (by kernel_rfl) (by kernel_rfl) (fun _ _ _ _ _ h => h) ?_
  simp only [List.take_succ_cons, List.take_zero]
  repeat (first
    | (apply step_val; (case hf => rfl); (case hw => (go_simp; done)); (case h => (intro w' hx fc; go_simp; (first | exact rfl | (go_at_call_of 36 (Value.agg #[Value.int IntKind.i64 an, Value.int IntKind.i64 ad]); exact HOa.out _) | (go_at_call_of 36 (Value.agg #[Value.int IntKind.i64 bn, Value.int IntKind.i64 bd]); exact HOb.out _)))); intro K hK; go_simp; refine hK _ ?_; clear hK K)
    | (apply step_skip; (case hw => (go_simp; done)); intro K hK; go_simp; refine hK _ ?_; clear hK K)
    | (apply step_make (mk := fun b => Value.pointer (some ⟨b, 0, none⟩)); (case hf => rfl); (case hw => (go_simp; done)); (case h => (intro w' hx; go_simp; exact rfl)); (case hno => kernel_rfl); simp only [List.nil_append, List.cons_append]))
  refine fin_none (fun w1 hx => ?_)
  have fs : w.heap.size + 1 + 1 + 1 + 1 + 1 ≤ w1.heap.size := by simpa using hx.size
  obtain ⟨fc, ff⟩ := And.intro hx.cells hx.marks
  have C1a0 : w1.cell? ⟨w.heap.size, 0, none⟩ = some (.int .i64 an) := by rw [fc _ _ (by first | omega | (simp; omega) | simp)]; simp [go_sem, *]
  have F1a0 : w1.frozen? ⟨w.heap.size, 0, none⟩ = false := by rw [ff _ _ (by first | omega | (simp; omega) | simp)]; simp [go_sem, *]
  have C1a1 : w1.cell? ⟨w.heap.size, 1, none⟩ = some (.int .i64 ad) := by rw [fc _ _ (by first | omega | (simp; omega) | simp)]; simp [go_sem, *]
  have F1a1 : w1.frozen? ⟨w.heap.size, 1, none⟩ = false := by rw [ff _ _ (by first | omega | (simp; omega) | simp)]; simp [go_sem, *]
  have C1b0 : w1.cell? ⟨w.heap.size + 1, 0, none⟩ = some (.int .i64 bn) := by rw [fc _ _ (by first | omega | (simp; omega) | simp)]; simp [go_sem, *]
  have F1b0 : w1.frozen? ⟨w.heap.size + 1, 0, none⟩ = false := by rw [ff _ _ (by first | omega | (simp; omega) | simp)]; simp [go_sem, *]
  have C1b1 : w1.cell? ⟨w.heap.size + 1, 1, none⟩ = some (.int .i64 bd) := by rw [fc _ _ (by first | omega | (simp; omega) | simp)]; simp [go_sem, *]
  have F1b1 : w1.frozen? ⟨w.heap.size + 1, 1, none⟩ = false := by rw [ff _ _ (by first | omega | (simp; omega) | simp)]; simp [go_sem, *]
  have C1r0 : w1.cell? ⟨w.heap.size + 1 + 1, 0, none⟩ = some (.int .i64 0) := by rw [fc _ _ (by first | omega | (simp; omega) | simp)]; simp [go_sem, *]
  have F1r0 : w1.frozen? ⟨w.heap.size + 1 + 1, 0, none⟩ = false := by rw [ff _ _ (by first | omega | (simp; omega) | simp)]; simp [go_sem, *]
  have C1r1 : w1.cell? ⟨w.heap.size + 1 + 1, 1, none⟩ = some (.int .i64 0) := by rw [fc _ _ (by first | omega | (simp; omega) | simp)]; simp [go_sem, *]
  have F1r1 : w1.frozen? ⟨w.heap.size + 1 + 1, 1, none⟩ = false := by rw [ff _ _ (by first | omega | (simp; omega) | simp)]; simp [go_sem, *]
  clear fc ff
  have X1 : Ext w w1 := Ext.trans (by repeat (first | (with_reducible exact Ext.refl _) | (with_reducible assumption) | (with_reducible refine Ext.alloc ?_ _) | (with_reducible refine Ext.drewN ?_ _) | (with_reducible refine Ext.drew ?_) | (with_reducible refine Ext.setCell ?_ (by simp <;> omega) _))) hx
  clear hx
  have fs0 : w.heap.size < w1.heap.size := by omega
  have fs1 : w.heap.size + 1 < w1.heap.size := by omega
  have fs2 : w.heap.size + 1 + 1 < w1.heap.size := by omega
  simp only [List.drop_succ_cons, List.drop_zero]
  go_wp2_with fail
  refine Go.Par.region 7 [] (by kernel_rfl) (by kernel_rfl) (fun _ _ _ _ _ h => h) ?_
  simp only [List.take_succ_cons, List.take_zero]
  repeat (first
    | (apply step_val; (case hf => rfl); (case hw => (go_simp; done)); (case h => (intro w' hx fc; go_simp; (first | exact rfl | (go_at_call 32; exact (size_any _ (by omega) (by omega) _).mono (fun _ _ h => ⟨h.1, h.2 ▸ Ext.refl _⟩)) | (go_at_call 31; exact (gcd_any _ _ (by omega) (by omega) (by omega) (by omega) _).mono (fun _ _ h => ⟨h.1, h.2 ▸ Ext.refl _⟩))))); intro K hK; go_simp; refine hK _ ?_; clear hK K)
    | (apply step_skip; (case hw => (go_simp; done)); intro K hK; go_simp; refine hK _ ?_; clear hK K)
    | (apply step_make (mk := fun b => Value.pointer (some ⟨b, 0, none⟩)); (case hf => rfl); (case hw => (go_simp; done)); (case h => (intro w' hx; go_simp; exact rfl)); (case hno => kernel_rfl); simp only [List.nil_append, List.cons_append]))
  refine fin_none (fun w2 hx => ?_)
  have gs : w1.heap.size ≤ w2.heap.size := by simpa using hx.size
  obtain ⟨fc, ff⟩ := And.intro hx.cells hx.marks
  have C2a0 : w2.cell? ⟨w.heap.size, 0, none⟩ = some (.int .i64 a1) := by rw [fc _ _ (by first | omega | (simp; omega) | simp)]; simp [go_sem, *]
  have F2a0 : w2.frozen? ⟨w.heap.size, 0, none⟩ = false := by rw [ff _ _ (by first | omega | (simp; omega) | simp)]; simp [go_sem, *]
  have C2a1 : w2.cell? ⟨w.heap.size, 1, none⟩ = some (.int .i64 a2) := by rw [fc _ _ (by first | omega | (simp; omega) | simp)]; simp [go_sem, *]
  have F2a1 : w2.frozen? ⟨w.heap.size, 1, none⟩ = false := by rw [ff _ _ (by first | omega | (simp; omega) | simp)]; simp [go_sem, *]
  have C2b0 : w2.cell? ⟨w.heap.size + 1, 0, none⟩ = some (.int .i64 b1) := by rw [fc _ _ (by first | omega | (simp; omega) | simp)]; simp [go_sem, *]
  have F2b0 : w2.frozen? ⟨w.heap.size + 1, 0, none⟩ = false := by rw [ff _ _ (by first | omega | (simp; omega) | simp)]; simp [go_sem, *]
  have C2b1 : w2.cell? ⟨w.heap.size + 1, 1, none⟩ = some (.int .i64 b2) := by rw [fc _ _ (by first | omega | (simp; omega) | simp)]; simp [go_sem, *]
  have F2b1 : w2.frozen? ⟨w.heap.size + 1, 1, none⟩ = false := by rw [ff _ _ (by first | omega | (simp; omega) | simp)]; simp [go_sem, *]
  have C2r0 : w2.cell? ⟨w.heap.size + 1 + 1, 0, none⟩ = some (.int .i64 0) := by rw [fc _ _ (by first | omega | (simp; omega) | simp)]; simp [go_sem, *]
  have F2r0 : w2.frozen? ⟨w.heap.size + 1 + 1, 0, none⟩ = false := by rw [ff _ _ (by first | omega | (simp; omega) | simp)]; simp [go_sem, *]
  have C2r1 : w2.cell? ⟨w.heap.size + 1 + 1, 1, none⟩ = some (.int .i64 0) := by rw [fc _ _ (by first | omega | (simp; omega) | simp)]; simp [go_sem, *]
  have F2r1 : w2.frozen? ⟨w.heap.size + 1 + 1, 1, none⟩ = false := by rw [ff _ _ (by first | omega | (simp; omega) | simp)]; simp [go_sem, *]
  clear fc ff
  have X2 : Ext w w2 := Ext.trans (by repeat (first | (with_reducible exact Ext.refl _) | (with_reducible assumption) | (with_reducible refine Ext.alloc ?_ _) | (with_reducible refine Ext.drewN ?_ _) | (with_reducible refine Ext.drew ?_) | (with_reducible refine Ext.setCell ?_ (by simp <;> omega) _))) hx
  clear hx C1a0 F1a0 C1a1 F1a1 C1b0 F1b0 C1b1 F1b1 C1r0 F1r0 C1r1 F1r1 X1
  have gs0 : w.heap.size < w2.heap.size := by omega
  have gs1 : w.heap.size + 1 < w2.heap.size := by omega
  have gs2 : w.heap.size + 1 + 1 < w2.heap.size := by omega
  clear fs fs0 fs1 fs2 gs
  simp only [List.drop_succ_cons, List.drop_zero, GE.out]
  go_wp2_with fail
  have hgN : ¬ g = 0 := by omega
  refine Go.Par.region 18 [] (by kernel_rfl) (by kernel_rfl) (fun _ _ _ _ _ h => h) ?_
  simp only [List.take_succ_cons, List.take_zero]
  repeat (first
    | (apply step_val; (case hf => rfl); (case hw => (go_simp; done)); (case h => (intro w' hx fc; go_simp; (first | exact rfl | (go_at_call 32; exact (size_any _ (by omega) (by omega) _).mono (fun _ _ h => ⟨h.1, h.2 ▸ Ext.refl _⟩)) | (go_at_call 47; exact times_det _ _ (by omega) (by omega) (by omega) (by omega) _)))); intro K hK; go_simp; refine hK _ ?_; clear hK K)
    | (apply step_skip; (case hw => (go_simp; done)); intro K hK; go_simp; refine hK _ ?_; clear hK K)
    | (apply step_make (mk := fun b => Value.pointer (some ⟨b, 0, none⟩)); (case hf => rfl); (case hw => (go_simp; done)); (case h => (intro w' hx; go_simp; exact rfl)); (case hno => kernel_rfl); simp only [List.nil_append, List.cons_append]))
  refine fin_two (fun w3 b c hx hb hc hne eb ec K hK => ?_)
  go_simp
  refine hK _ ?_
  clear hK K
  have gs3 : w2.heap.size ≤ w3.heap.size := by simpa using hx.size
  obtain ⟨fc, ff⟩ := And.intro hx.cells hx.marks
  have C3a0 : w3.cell? ⟨w.heap.size, 0, none⟩ = some (.int .i64 a1) := by rw [fc _ _ (by first | omega | (simp; omega) | simp)]; simp [go_sem, *]
  have F3a0 : w3.frozen? ⟨w.heap.size, 0, none⟩ = false := by rw [ff _ _ (by first | omega | (simp; omega) | simp)]; simp [go_sem, *]
  have C3a1 : w3.cell? ⟨w.heap.size, 1, none⟩ = some (.int .i64 a2) := by rw [fc _ _ (by first | omega | (simp; omega) | simp)]; simp [go_sem, *]
  have F3a1 : w3.frozen? ⟨w.heap.size, 1, none⟩ = false := by rw [ff _ _ (by first | omega | (simp; omega) | simp)]; simp [go_sem, *]
  have C3b0 : w3.cell? ⟨w.heap.size + 1, 0, none⟩ = some (.int .i64 b1) := by rw [fc _ _ (by first | omega | (simp; omega) | simp)]; simp [go_sem, *]
  have F3b0 : w3.frozen? ⟨w.heap.size + 1, 0, none⟩ = false := by rw [ff _ _ (by first | omega | (simp; omega) | simp)]; simp [go_sem, *]
  have C3b1 : w3.cell? ⟨w.heap.size + 1, 1, none⟩ = some (.int .i64 b2) := by rw [fc _ _ (by first | omega | (simp; omega) | simp)]; simp [go_sem, *]
  have F3b1 : w3.frozen? ⟨w.heap.size + 1, 1, none⟩ = false := by rw [ff _ _ (by first | omega | (simp; omega) | simp)]; simp [go_sem, *]
  have C3r0 : w3.cell? ⟨w.heap.size + 1 + 1, 0, none⟩ = some (.int .i64 0) := by rw [fc _ _ (by first | omega | (simp; omega) | simp)]; simp [go_sem, *]
  have F3r0 : w3.frozen? ⟨w.heap.size + 1 + 1, 0, none⟩ = false := by rw [ff _ _ (by first | omega | (simp; omega) | simp)]; simp [go_sem, *]
  have C3r1 : w3.cell? ⟨w.heap.size + 1 + 1, 1, none⟩ = some (.int .i64 0) := by rw [fc _ _ (by first | omega | (simp; omega) | simp)]; simp [go_sem, *]
  have F3r1 : w3.frozen? ⟨w.heap.size + 1 + 1, 1, none⟩ = false := by rw [ff _ _ (by first | omega | (simp; omega) | simp)]; simp [go_sem, *]
  clear fc ff
  have X3 : Ext w w3 := Ext.trans (by repeat (first | (with_reducible exact Ext.refl _) | (with_reducible assumption) | (with_reducible refine Ext.alloc ?_ _) | (with_reducible refine Ext.drewN ?_ _) | (with_reducible refine Ext.drew ?_) | (with_reducible refine Ext.setCell ?_ (by simp <;> omega) _))) hx
  clear hx C2a0 F2a0 C2a1 F2a1 C2b0 F2b0 C2b1 F2b1 C2r0 F2r0 C2r1 F2r1 X2
  obtain ⟨p0, p1, p2, p3, p4, p5⟩ := box3 eb
  obtain ⟨q0, q1, q2, q3, q4, q5⟩ := box3 ec
  have hb' : w.heap.size + 1 + 1 < b := by omega
  have hc' : w.heap.size + 1 + 1 < c := by omega
  have lb := block_lt eb
  have lc := block_lt ec
  have hne' : ¬ c = b := fun e => hne e.symm
  clear eb ec hb hc gs0 gs1 gs2
  simp only [List.drop_succ_cons, List.drop_zero]
  generalize hXE : (a1.natAbs : Int) * ((b2.natAbs : Int) / (g : Int)) = X at *
  generalize hYE : (b1.natAbs : Int) * ((a2.natAbs : Int) / (g : Int)) = Y at *
  have XE := Lib.hid hXE
  have YE := Lib.hid hYE
  clear hXE hYE
  have nb0 : ¬ b = w.heap.size := by omega
  have nb1 : ¬ b = w.heap.size + 1 := by omega
  have nb2 : ¬ b = w.heap.size + 1 + 1 := by omega
  have nc0 : ¬ c = w.heap.size := by omega
  have nc1 : ¬ c = w.heap.size + 1 := by omega
  have nc2 : ¬ c = w.heap.size + 1 + 1 := by omega
  generalize hsE : decide (a1 < 0) = s at *
  generalize htE : decide (b1 < 0) = t at *
  have SE := Lib.hid hsE
  have TE := Lib.hid htE
  clear hsE htE
  go_upto_region 6 with (fail)
  have ew4s : ((((((w3.setCell ⟨b, 0, none⟩ (.bool s)).setCell ⟨b, 1, none⟩ (.int .u64 (X / 18446744073709551616))).setCell ⟨b, 2, none⟩ (.int .u64 (X % 18446744073709551616))).setCell ⟨c, 0, none⟩ (.bool t)).setCell ⟨c, 1, none⟩ (.int .u64 (Y / 18446744073709551616))).setCell ⟨c, 2, none⟩ (.int .u64 (Y % 18446744073709551616))).heap.size = w3.heap.size := by simp
  have Xw4 : Ext w ((((((w3.setCell ⟨b, 0, none⟩ (.bool s)).setCell ⟨b, 1, none⟩ (.int .u64 (X / 18446744073709551616))).setCell ⟨b, 2, none⟩ (.int .u64 (X % 18446744073709551616))).setCell ⟨c, 0, none⟩ (.bool t)).setCell ⟨c, 1, none⟩ (.int .u64 (Y / 18446744073709551616))).setCell ⟨c, 2, none⟩ (.int .u64 (Y % 18446744073709551616))) := (by repeat (first | (with_reducible exact Ext.refl _) | (with_reducible assumption) | (with_reducible refine Ext.alloc ?_ _) | (with_reducible refine Ext.drewN ?_ _) | (with_reducible refine Ext.drew ?_) | (with_reducible refine Ext.setCell ?_ (by simp <;> omega) _)))
  have C4a0 : ((((((w3.setCell ⟨b, 0, none⟩ (.bool s)).setCell ⟨b, 1, none⟩ (.int .u64 (X / 18446744073709551616))).setCell ⟨b, 2, none⟩ (.int .u64 (X % 18446744073709551616))).setCell ⟨c, 0, none⟩ (.bool t)).setCell ⟨c, 1, none⟩ (.int .u64 (Y / 18446744073709551616))).setCell ⟨c, 2, none⟩ (.int .u64 (Y % 18446744073709551616))).cell? ⟨w.heap.size, 0, none⟩ = some (.int .i64 a1) := by simp [go_sem, *]
  have F4a0 : ((((((w3.setCell ⟨b, 0, none⟩ (.bool s)).setCell ⟨b, 1, none⟩ (.int .u64 (X / 18446744073709551616))).setCell ⟨b, 2, none⟩ (.int .u64 (X % 18446744073709551616))).setCell ⟨c, 0, none⟩ (.bool t)).setCell ⟨c, 1, none⟩ (.int .u64 (Y / 18446744073709551616))).setCell ⟨c, 2, none⟩ (.int .u64 (Y % 18446744073709551616))).frozen? ⟨w.heap.size, 0, none⟩ = false := by simp [go_sem, *]
  have C4a1 : ((((((w3.setCell ⟨b, 0, none⟩ (.bool s)).setCell ⟨b, 1, none⟩ (.int .u64 (X / 18446744073709551616))).setCell ⟨b, 2, none⟩ (.int .u64 (X % 18446744073709551616))).setCell ⟨c, 0, none⟩ (.bool t)).setCell ⟨c, 1, none⟩ (.int .u64 (Y / 18446744073709551616))).setCell ⟨c, 2, none⟩ (.int .u64 (Y % 18446744073709551616))).cell? ⟨w.heap.size, 1, none⟩ = some (.int .i64 a2) := by simp [go_sem, *]
  have F4a1 : ((((((w3.setCell ⟨b, 0, none⟩ (.bool s)).setCell ⟨b, 1, none⟩ (.int .u64 (X / 18446744073709551616))).setCell ⟨b, 2, none⟩ (.int .u64 (X % 18446744073709551616))).setCell ⟨c, 0, none⟩ (.bool t)).setCell ⟨c, 1, none⟩ (.int .u64 (Y / 18446744073709551616))).setCell ⟨c, 2, none⟩ (.int .u64 (Y % 18446744073709551616))).frozen? ⟨w.heap.size, 1, none⟩ = false := by simp [go_sem, *]
  have C4b0 : ((((((w3.setCell ⟨b, 0, none⟩ (.bool s)).setCell ⟨b, 1, none⟩ (.int .u64 (X / 18446744073709551616))).setCell ⟨b, 2, none⟩ (.int .u64 (X % 18446744073709551616))).setCell ⟨c, 0, none⟩ (.bool t)).setCell ⟨c, 1, none⟩ (.int .u64 (Y / 18446744073709551616))).setCell ⟨c, 2, none⟩ (.int .u64 (Y % 18446744073709551616))).cell? ⟨w.heap.size + 1, 0, none⟩ = some (.int .i64 b1) := by simp [go_sem, *]
  have F4b0 : ((((((w3.setCell ⟨b, 0, none⟩ (.bool s)).setCell ⟨b, 1, none⟩ (.int .u64 (X / 18446744073709551616))).setCell ⟨b, 2, none⟩ (.int .u64 (X % 18446744073709551616))).setCell ⟨c, 0, none⟩ (.bool t)).setCell ⟨c, 1, none⟩ (.int .u64 (Y / 18446744073709551616))).setCell ⟨c, 2, none⟩ (.int .u64 (Y % 18446744073709551616))).frozen? ⟨w.heap.size + 1, 0, none⟩ = false := by simp [go_sem, *]
  have C4b1 : ((((((w3.setCell ⟨b, 0, none⟩ (.bool s)).setCell ⟨b, 1, none⟩ (.int .u64 (X / 18446744073709551616))).setCell ⟨b, 2, none⟩ (.int .u64 (X % 18446744073709551616))).setCell ⟨c, 0, none⟩ (.bool t)).setCell ⟨c, 1, none⟩ (.int .u64 (Y / 18446744073709551616))).setCell ⟨c, 2, none⟩ (.int .u64 (Y % 18446744073709551616))).cell? ⟨w.heap.size + 1, 1, none⟩ = some (.int .i64 b2) := by simp [go_sem, *]
  have F4b1 : ((((((w3.setCell ⟨b, 0, none⟩ (.bool s)).setCell ⟨b, 1, none⟩ (.int .u64 (X / 18446744073709551616))).setCell ⟨b, 2, none⟩ (.int .u64 (X % 18446744073709551616))).setCell ⟨c, 0, none⟩ (.bool t)).setCell ⟨c, 1, none⟩ (.int .u64 (Y / 18446744073709551616))).setCell ⟨c, 2, none⟩ (.int .u64 (Y % 18446744073709551616))).frozen? ⟨w.heap.size + 1, 1, none⟩ = false := by simp [go_sem, *]
  have C4r0 : ((((((w3.setCell ⟨b, 0, none⟩ (.bool s)).setCell ⟨b, 1, none⟩ (.int .u64 (X / 18446744073709551616))).setCell ⟨b, 2, none⟩ (.int .u64 (X % 18446744073709551616))).setCell ⟨c, 0, none⟩ (.bool t)).setCell ⟨c, 1, none⟩ (.int .u64 (Y / 18446744073709551616))).setCell ⟨c, 2, none⟩ (.int .u64 (Y % 18446744073709551616))).cell? ⟨w.heap.size + 1 + 1, 0, none⟩ = some (.int .i64 0) := by simp [go_sem, *]
  have F4r0 : ((((((w3.setCell ⟨b, 0, none⟩ (.bool s)).setCell ⟨b, 1, none⟩ (.int .u64 (X / 18446744073709551616))).setCell ⟨b, 2, none⟩ (.int .u64 (X % 18446744073709551616))).setCell ⟨c, 0, none⟩ (.bool t)).setCell ⟨c, 1, none⟩ (.int .u64 (Y / 18446744073709551616))).setCell ⟨c, 2, none⟩ (.int .u64 (Y % 18446744073709551616))).frozen? ⟨w.heap.size + 1 + 1, 0, none⟩ = false := by simp [go_sem, *]
  have C4r1 : ((((((w3.setCell ⟨b, 0, none⟩ (.bool s)).setCell ⟨b, 1, none⟩ (.int .u64 (X / 18446744073709551616))).setCell ⟨b, 2, none⟩ (.int .u64 (X % 18446744073709551616))).setCell ⟨c, 0, none⟩ (.bool t)).setCell ⟨c, 1, none⟩ (.int .u64 (Y / 18446744073709551616))).setCell ⟨c, 2, none⟩ (.int .u64 (Y % 18446744073709551616))).cell? ⟨w.heap.size + 1 + 1, 1, none⟩ = some (.int .i64 0) := by simp [go_sem, *]
  have F4r1 : ((((((w3.setCell ⟨b, 0, none⟩ (.bool s)).setCell ⟨b, 1, none⟩ (.int .u64 (X / 18446744073709551616))).setCell ⟨b, 2, none⟩ (.int .u64 (X % 18446744073709551616))).setCell ⟨c, 0, none⟩ (.bool t)).setCell ⟨c, 1, none⟩ (.int .u64 (Y / 18446744073709551616))).setCell ⟨c, 2, none⟩ (.int .u64 (Y % 18446744073709551616))).frozen? ⟨w.heap.size + 1 + 1, 1, none⟩ = false := by simp [go_sem, *]
  have C4x0 : ((((((w3.setCell ⟨b, 0, none⟩ (.bool s)).setCell ⟨b, 1, none⟩ (.int .u64 (X / 18446744073709551616))).setCell ⟨b, 2, none⟩ (.int .u64 (X % 18446744073709551616))).setCell ⟨c, 0, none⟩ (.bool t)).setCell ⟨c, 1, none⟩ (.int .u64 (Y / 18446744073709551616))).setCell ⟨c, 2, none⟩ (.int .u64 (Y % 18446744073709551616))).cell? ⟨b, 0, none⟩ = some (.bool s) := by simp [go_sem, *]
  have F4x0 : ((((((w3.setCell ⟨b, 0, none⟩ (.bool s)).setCell ⟨b, 1, none⟩ (.int .u64 (X / 18446744073709551616))).setCell ⟨b, 2, none⟩ (.int .u64 (X % 18446744073709551616))).setCell ⟨c, 0, none⟩ (.bool t)).setCell ⟨c, 1, none⟩ (.int .u64 (Y / 18446744073709551616))).setCell ⟨c, 2, none⟩ (.int .u64 (Y % 18446744073709551616))).frozen? ⟨b, 0, none⟩ = false := by simp [go_sem, *]
  have C4x1 : ((((((w3.setCell ⟨b, 0, none⟩ (.bool s)).setCell ⟨b, 1, none⟩ (.int .u64 (X / 18446744073709551616))).setCell ⟨b, 2, none⟩ (.int .u64 (X % 18446744073709551616))).setCell ⟨c, 0, none⟩ (.bool t)).setCell ⟨c, 1, none⟩ (.int .u64 (Y / 18446744073709551616))).setCell ⟨c, 2, none⟩ (.int .u64 (Y % 18446744073709551616))).cell? ⟨b, 1, none⟩ = some (.int .u64 (X / 18446744073709551616)) := by simp [go_sem, *]
  have F4x1 : ((((((w3.setCell ⟨b, 0, none⟩ (.bool s)).setCell ⟨b, 1, none⟩ (.int .u64 (X / 18446744073709551616))).setCell ⟨b, 2, none⟩ (.int .u64 (X % 18446744073709551616))).setCell ⟨c, 0, none⟩ (.bool t)).setCell ⟨c, 1, none⟩ (.int .u64 (Y / 18446744073709551616))).setCell ⟨c, 2, none⟩ (.int .u64 (Y % 18446744073709551616))).frozen? ⟨b, 1, none⟩ = false := by simp [go_sem, *]
  have C4x2 : ((((((w3.setCell ⟨b, 0, none⟩ (.bool s)).setCell ⟨b, 1, none⟩ (.int .u64 (X / 18446744073709551616))).setCell ⟨b, 2, none⟩ (.int .u64 (X % 18446744073709551616))).setCell ⟨c, 0, none⟩ (.bool t)).setCell ⟨c, 1, none⟩ (.int .u64 (Y / 18446744073709551616))).setCell ⟨c, 2, none⟩ (.int .u64 (Y % 18446744073709551616))).cell? ⟨b, 2, none⟩ = some (.int .u64 (X % 18446744073709551616)) := by simp [go_sem, *]
  have F4x2 : ((((((w3.setCell ⟨b, 0, none⟩ (.bool s)).setCell ⟨b, 1, none⟩ (.int .u64 (X / 18446744073709551616))).setCell ⟨b, 2, none⟩ (.int .u64 (X % 18446744073709551616))).setCell ⟨c, 0, none⟩ (.bool t)).setCell ⟨c, 1, none⟩ (.int .u64 (Y / 18446744073709551616))).setCell ⟨c, 2, none⟩ (.int .u64 (Y % 18446744073709551616))).frozen? ⟨b, 2, none⟩ = false := by simp [go_sem, *]
  have C4y0 : ((((((w3.setCell ⟨b, 0, none⟩ (.bool s)).setCell ⟨b, 1, none⟩ (.int .u64 (X / 18446744073709551616))).setCell ⟨b, 2, none⟩ (.int .u64 (X % 18446744073709551616))).setCell ⟨c, 0, none⟩ (.bool t)).setCell ⟨c, 1, none⟩ (.int .u64 (Y / 18446744073709551616))).setCell ⟨c, 2, none⟩ (.int .u64 (Y % 18446744073709551616))).cell? ⟨c, 0, none⟩ = some (.bool t) := by simp [go_sem, *]
  have F4y0 : ((((((w3.setCell ⟨b, 0, none⟩ (.bool s)).setCell ⟨b, 1, none⟩ (.int .u64 (X / 18446744073709551616))).setCell ⟨b, 2, none⟩ (.int .u64 (X % 18446744073709551616))).setCell ⟨c, 0, none⟩ (.bool t)).setCell ⟨c, 1, none⟩ (.int .u64 (Y / 18446744073709551616))).setCell ⟨c, 2, none⟩ (.int .u64 (Y % 18446744073709551616))).frozen? ⟨c, 0, none⟩ = false := by simp [go_sem, *]
  have C4y1 : ((((((w3.setCell ⟨b, 0, none⟩ (.bool s)).setCell ⟨b, 1, none⟩ (.int .u64 (X / 18446744073709551616))).setCell ⟨b, 2, none⟩ (.int .u64 (X % 18446744073709551616))).setCell ⟨c, 0, none⟩ (.bool t)).setCell ⟨c, 1, none⟩ (.int .u64 (Y / 18446744073709551616))).setCell ⟨c, 2, none⟩ (.int .u64 (Y % 18446744073709551616))).cell? ⟨c, 1, none⟩ = some (.int .u64 (Y / 18446744073709551616)) := by simp [go_sem, *]
  have F4y1 : ((((((w3.setCell ⟨b, 0, none⟩ (.bool s)).setCell ⟨b, 1, none⟩ (.int .u64 (X / 18446744073709551616))).setCell ⟨b, 2, none⟩ (.int .u64 (X % 18446744073709551616))).setCell ⟨c, 0, none⟩ (.bool t)).setCell ⟨c, 1, none⟩ (.int .u64 (Y / 18446744073709551616))).setCell ⟨c, 2, none⟩ (.int .u64 (Y % 18446744073709551616))).frozen? ⟨c, 1, none⟩ = false := by simp [go_sem, *]
  have C4y2 : ((((((w3.setCell ⟨b, 0, none⟩ (.bool s)).setCell ⟨b, 1, none⟩ (.int .u64 (X / 18446744073709551616))).setCell ⟨b, 2, none⟩ (.int .u64 (X % 18446744073709551616))).setCell ⟨c, 0, none⟩ (.bool t)).setCell ⟨c, 1, none⟩ (.int .u64 (Y / 18446744073709551616))).setCell ⟨c, 2, none⟩ (.int .u64 (Y % 18446744073709551616))).cell? ⟨c, 2, none⟩ = some (.int .u64 (Y % 18446744073709551616)) := by simp [go_sem, *]
  have F4y2 : ((((((w3.setCell ⟨b, 0, none⟩ (.bool s)).setCell ⟨b, 1, none⟩ (.int .u64 (X / 18446744073709551616))).setCell ⟨b, 2, none⟩ (.int .u64 (X % 18446744073709551616))).setCell ⟨c, 0, none⟩ (.bool t)).setCell ⟨c, 1, none⟩ (.int .u64 (Y / 18446744073709551616))).setCell ⟨c, 2, none⟩ (.int .u64 (Y % 18446744073709551616))).frozen? ⟨c, 2, none⟩ = false := by simp [go_sem, *]
  generalize ((((((w3.setCell ⟨b, 0, none⟩ (.bool s)).setCell ⟨b, 1, none⟩ (.int .u64 (X / 18446744073709551616))).setCell ⟨b, 2, none⟩ (.int .u64 (X % 18446744073709551616))).setCell ⟨c, 0, none⟩ (.bool t)).setCell ⟨c, 1, none⟩ (.int .u64 (Y / 18446744073709551616))).setCell ⟨c, 2, none⟩ (.int .u64 (Y % 18446744073709551616))) = w4 at *
  clear p0 p1 p2 p3 p4 p5 q0 q1 q2 q3 q4 q5 C3a0 F3a0 C3a1 F3a1 C3b0 F3b0 C3b1 F3b1 C3r0 F3r0 C3r1 F3r1 X3
  rw [← ew4s] at lb lc
  clear ew4s
  go_wp2_with fail
  refine (plus_any s (!t == minus) _ _ _ _ (by omega) (by omega) (by omega) (by omega) (by omega) (by omega) (by omega) (by omega) _).mono ?_
  rw [show X / 18446744073709551616 * 18446744073709551616 + X % 18446744073709551616 = X by omega, show Y / 18446744073709551616 * 18446744073709551616 + Y % 18446744073709551616 = Y by omega]
  generalize hsgE : psgn s (!t == minus) X Y = sg
  generalize hmE : pmag s (!t == minus) X Y = m
  have SGE := Lib.hid hsgE
  have ME := Lib.hid hmE
  clear hsgE hmE
  rintro e w5 ⟨nh, nl, rfl, nh0, nh1, nl0, nl1, hnm, o1, o2, o3, o4, o5, o6, rfl⟩
  have wl : w.heap.size + 1 + 1 < w4.heap.size := by omega
  have wa0 : w.heap.size < w4.heap.size := by omega
  have wb0 : w.heap.size + 1 < w4.heap.size := by omega
  have wc0 : w.heap.size + 1 + 1 < w4.heap.size := by omega
  have wa1 : w.heap.size < w4.heap.size + 1 := by omega
  have wb1 : w.heap.size + 1 < w4.heap.size + 1 := by omega
  have wc1 : w.heap.size + 1 + 1 < w4.heap.size + 1 := by omega
  have wa2 : w.heap.size < w4.heap.size + 1 + 1 := by omega
  have wb2 : w.heap.size + 1 < w4.heap.size + 1 + 1 := by omega
  have wc2 : w.heap.size + 1 + 1 < w4.heap.size + 1 + 1 := by omega
  have wa3 : w.heap.size < w4.heap.size + 1 + 1 + 1 := by omega
  have wb3 : w.heap.size + 1 < w4.heap.size + 1 + 1 + 1 := by omega
  have wc3 : w.heap.size + 1 + 1 < w4.heap.size + 1 + 1 + 1 := by omega
  have wa4 : w.heap.size < w4.heap.size + 1 + 1 + 1 + 1 := by omega
  have wb4 : w.heap.size + 1 < w4.heap.size + 1 + 1 + 1 + 1 := by omega
  have wc4 : w.heap.size + 1 + 1 < w4.heap.size + 1 + 1 + 1 + 1 := by omega
  have wa5 : w.heap.size < w4.heap.size + 1 + 1 + 1 + 1 + 1 := by omega
  have wb5 : w.heap.size + 1 < w4.heap.size + 1 + 1 + 1 + 1 + 1 := by omega
  have wc5 : w.heap.size + 1 + 1 < w4.heap.size + 1 + 1 + 1 + 1 + 1 := by omega
  have ew5s : (((((((w4.setCell ⟨c, 0, none⟩ (.bool (!t == minus))).alloc o1).alloc o2).alloc o3).alloc o4).alloc o5).alloc o6).heap.size = w4.heap.size + 1 + 1 + 1 + 1 + 1 + 1 := by simp
  have Xw5 : Ext w (((((((w4.setCell ⟨c, 0, none⟩ (.bool (!t == minus))).alloc o1).alloc o2).alloc o3).alloc o4).alloc o5).alloc o6) := (by repeat (first | (with_reducible exact Ext.refl _) | (with_reducible assumption) | (with_reducible refine Ext.alloc ?_ _) | (with_reducible refine Ext.drewN ?_ _) | (with_reducible refine Ext.drew ?_) | (with_reducible refine Ext.setCell ?_ (by simp <;> omega) _)))
  have C5a0 : (((((((w4.setCell ⟨c, 0, none⟩ (.bool (!t == minus))).alloc o1).alloc o2).alloc o3).alloc o4).alloc o5).alloc o6).cell? ⟨w.heap.size, 0, none⟩ = some (.int .i64 a1) := by simp [go_sem, *]
  have F5a0 : (((((((w4.setCell ⟨c, 0, none⟩ (.bool (!t == minus))).alloc o1).alloc o2).alloc o3).alloc o4).alloc o5).alloc o6).frozen? ⟨w.heap.size, 0, none⟩ = false := by simp [go_sem, *]
  have C5a1 : (((((((w4.setCell ⟨c, 0, none⟩ (.bool (!t == minus))).alloc o1).alloc o2).alloc o3).alloc o4).alloc o5).alloc o6).cell? ⟨w.heap.size, 1, none⟩ = some (.int .i64 a2) := by simp [go_sem, *]
  have F5a1 : (((((((w4.setCell ⟨c, 0, none⟩ (.bool (!t == minus))).alloc o1).alloc o2).alloc o3).alloc o4).alloc o5).alloc o6).frozen? ⟨w.heap.size, 1, none⟩ = false := by simp [go_sem, *]
  have C5b0 : (((((((w4.setCell ⟨c, 0, none⟩ (.bool (!t == minus))).alloc o1).alloc o2).alloc o3).alloc o4).alloc o5).alloc o6).cell? ⟨w.heap.size + 1, 0, none⟩ = some (.int .i64 b1) := by simp [go_sem, *]
  have F5b0 : (((((((w4.setCell ⟨c, 0, none⟩ (.bool (!t == minus))).alloc o1).alloc o2).alloc o3).alloc o4).alloc o5).alloc o6).frozen? ⟨w.heap.size + 1, 0, none⟩ = false := by simp [go_sem, *]
  have C5b1 : (((((((w4.setCell ⟨c, 0, none⟩ (.bool (!t == minus))).alloc o1).alloc o2).alloc o3).alloc o4).alloc o5).alloc o6).cell? ⟨w.heap.size + 1, 1, none⟩ = some (.int .i64 b2) := by simp [go_sem, *]
  have F5b1 : (((((((w4.setCell ⟨c, 0, none⟩ (.bool (!t == minus))).alloc o1).alloc o2).alloc o3).alloc o4).alloc o5).alloc o6).frozen? ⟨w.heap.size + 1, 1, none⟩ = false := by simp [go_sem, *]
  have C5r0 : (((((((w4.setCell ⟨c, 0, none⟩ (.bool (!t == minus))).alloc o1).alloc o2).alloc o3).alloc o4).alloc o5).alloc o6).cell? ⟨w.heap.size + 1 + 1, 0, none⟩ = some (.int .i64 0) := by simp [go_sem, *]
  have F5r0 : (((((((w4.setCell ⟨c, 0, none⟩ (.bool (!t == minus))).alloc o1).alloc o2).alloc o3).alloc o4).alloc o5).alloc o6).frozen? ⟨w.heap.size + 1 + 1, 0, none⟩ = false := by simp [go_sem, *]
  have C5r1 : (((((((w4.setCell ⟨c, 0, none⟩ (.bool (!t == minus))).alloc o1).alloc o2).alloc o3).alloc o4).alloc o5).alloc o6).cell? ⟨w.heap.size + 1 + 1, 1, none⟩ = some (.int .i64 0) := by simp [go_sem, *]
  have F5r1 : (((((((w4.setCell ⟨c, 0, none⟩ (.bool (!t == minus))).alloc o1).alloc o2).alloc o3).alloc o4).alloc o5).alloc o6).frozen? ⟨w.heap.size + 1 + 1, 1, none⟩ = false := by simp [go_sem, *]
  generalize (((((((w4.setCell ⟨c, 0, none⟩ (.bool (!t == minus))).alloc o1).alloc o2).alloc o3).alloc o4).alloc o5).alloc o6) = w5 at *
  have ww : w.heap.size + 1 + 1 < w5.heap.size := by omega
  clear C4a0 F4a0 C4a1 F4a1 C4b0 F4b0 C4b1 F4b1 C4r0 F4r0 C4r1 F4r1 C4x0 F4x0 C4x1 F4x1 C4x2 F4x2 C4y0 F4y0 C4y1 F4y1 C4y2 F4y2 Xw4 ew5s lb lc nb0 nb1 nb2 nc0 nc1 nc2 wl hne hne' hb' hc' wa0 wb0 wc0 wa1 wb1 wc1 wa2 wb2 wc2 wa3 wb3 wc3 wa4 wb4 wc4 wa5 wb5 wc5
  go_upto_region 9 with (first | (go_at_call 57; refine (rem_any _ _ _ nh0 nh1 (by omega) (by omega) nl0 nl1 _).mono ?_; rintro e w' ⟨rfl, k1, rfl⟩) | (go_at_call 31; refine (gcd_any _ _ (Int.emod_nonneg _ (by omega)) (by omega) (Int.lt_trans (Int.emod_lt_of_pos _ (by omega)) (by omega)) (by omega) _).mono ?_; rintro e w' ⟨rfl, rfl⟩))
  have hh : 0 < Int.gcd ((nh * 18446744073709551616 + nl) % (g : Int)) (g : Int) := by
    rw [Nat.pos_iff_ne_zero]
    intro e
    have := (Int.gcd_eq_zero_iff.1 e).2
    omega
  have hh2 : Int.gcd ((nh * 18446744073709551616 + nl) % (g : Int)) (g : Int) ≤ g := Nat.le_trans (Nat.gcd_le_right _ (by omega)) (by omega)
  generalize hhE : Int.gcd ((nh * 18446744073709551616 + nl) % (g : Int)) (g : Int) = h at *
  have HE := Lib.hid hhE
  clear hhE
  have hhN : ¬ h = 0 := by omega
  have hq0 : 0 ≤ nh % (h : Int) := Int.emod_nonneg _ (by omega)
  have hq1 : nh % (h : Int) < (h : Int) := Int.emod_lt_of_pos _ (by omega)
  have qa0 : 0 ≤ nh / (h : Int) := Int.ediv_nonneg nh0 (by omega)
  have qa1 : nh / (h : Int) ≤ nh := Int.ediv_le_self _ nh0
  have qa2 : IntKind.u64.wrap (nh / (h : Int)) = nh / (h : Int) := by rw [IntKind.wrap_u64]; omega
  have qa3 : nh.tdiv (h : Int) = nh / (h : Int) := Int.tdiv_eq_ediv_of_nonneg nh0
  have qb2 : nh.tmod (h : Int) = nh % (h : Int) := Int.tmod_eq_emod_of_nonneg nh0
  have ww0 : w.heap.size < w5.heap.size := by omega
  have ww1 : w.heap.size + 1 < w5.heap.size := by omega
  have wx0 : w.heap.size < w5.heap.size + 1 := by omega
  have wx1 : w.heap.size + 1 < w5.heap.size + 1 := by omega
  have wx2 : w.heap.size + 1 + 1 < w5.heap.size + 1 := by omega
  refine Go.Par.region 13 [] (by kernel_rfl) (by kernel_rfl) (fun _ _ _ _ _ h => h) ?_
  simp only [List.take_succ_cons, List.take_zero]
  repeat (first
    | (apply step_val; (case hf => rfl); (case hw => (go_simp; done)); (case h => (intro w' hx fc; go_simp; (first | exact rfl | (go_at_call 58; exact (quotient_any _ _ _ hq0 hq1 (by omega) nl0 nl1 _).mono (fun _ _ h => ⟨h.1, h.2.elim fun n e => e ▸ (Ext.refl _).drewN n⟩))))); intro K hK; go_simp; refine hK _ ?_; clear hK K)
    | (apply step_skip; (case hw => (go_simp; done)); intro K hK; go_simp; refine hK _ ?_; clear hK K)
    | (apply step_make (mk := fun b => Value.pointer (some ⟨b, 0, none⟩)); (case hf => rfl); (case hw => (go_simp; done)); (case h => (intro w' hx; go_simp; exact rfl)); (case hno => kernel_rfl); simp only [List.nil_append, List.cons_append]))
  refine fin_none (fun w6 hx => ?_)
  have gs6 : w5.heap.size + 1 ≤ w6.heap.size := by simpa using hx.size
  obtain ⟨fc, ff⟩ := And.intro hx.cells hx.marks
  have C6a0 : w6.cell? ⟨w.heap.size, 0, none⟩ = some (.int .i64 a1) := by rw [fc _ _ (by first | omega | (simp; omega) | simp)]; simp [go_sem, *]
  have F6a0 : w6.frozen? ⟨w.heap.size, 0, none⟩ = false := by rw [ff _ _ (by first | omega | (simp; omega) | simp)]; simp [go_sem, *]
  have C6a1 : w6.cell? ⟨w.heap.size, 1, none⟩ = some (.int .i64 a2) := by rw [fc _ _ (by first | omega | (simp; omega) | simp)]; simp [go_sem, *]
  have F6a1 : w6.frozen? ⟨w.heap.size, 1, none⟩ = false := by rw [ff _ _ (by first | omega | (simp; omega) | simp)]; simp [go_sem, *]
  have C6b0 : w6.cell? ⟨w.heap.size + 1, 0, none⟩ = some (.int .i64 b1) := by rw [fc _ _ (by first | omega | (simp; omega) | simp)]; simp [go_sem, *]
  have F6b0 : w6.frozen? ⟨w.heap.size + 1, 0, none⟩ = false := by rw [ff _ _ (by first | omega | (simp; omega) | simp)]; simp [go_sem, *]
  have C6b1 : w6.cell? ⟨w.heap.size + 1, 1, none⟩ = some (.int .i64 b2) := by rw [fc _ _ (by first | omega | (simp; omega) | simp)]; simp [go_sem, *]
  have F6b1 : w6.frozen? ⟨w.heap.size + 1, 1, none⟩ = false := by rw [ff _ _ (by first | omega | (simp; omega) | simp)]; simp [go_sem, *]
  have C6r0 : w6.cell? ⟨w.heap.size + 1 + 1, 0, none⟩ = some (.int .i64 0) := by rw [fc _ _ (by first | omega | (simp; omega) | simp)]; simp [go_sem, *]
  have F6r0 : w6.frozen? ⟨w.heap.size + 1 + 1, 0, none⟩ = false := by rw [ff _ _ (by first | omega | (simp; omega) | simp)]; simp [go_sem, *]
  have C6r1 : w6.cell? ⟨w.heap.size + 1 + 1, 1, none⟩ = some (.int .i64 0) := by rw [fc _ _ (by first | omega | (simp; omega) | simp)]; simp [go_sem, *]
  have F6r1 : w6.frozen? ⟨w.heap.size + 1 + 1, 1, none⟩ = false := by rw [ff _ _ (by first | omega | (simp; omega) | simp)]; simp [go_sem, *]
  have C6n0 : w6.cell? ⟨w5.heap.size, 0, none⟩ = some (.bool sg) := by rw [fc _ _ (by first | omega | (simp; omega) | simp)]; simp [go_sem, *]
  have F6n0 : w6.frozen? ⟨w5.heap.size, 0, none⟩ = false := by rw [ff _ _ (by first | omega | (simp; omega) | simp)]; simp [go_sem, *]
  have C6n1 : w6.cell? ⟨w5.heap.size, 1, none⟩ = some (.int .u64 (nh)) := by rw [fc _ _ (by first | omega | (simp; omega) | simp)]; simp [go_sem, *]
  have F6n1 : w6.frozen? ⟨w5.heap.size, 1, none⟩ = false := by rw [ff _ _ (by first | omega | (simp; omega) | simp)]; simp [go_sem, *]
  have C6n2 : w6.cell? ⟨w5.heap.size, 2, none⟩ = some (.int .u64 (nl)) := by rw [fc _ _ (by first | omega | (simp; omega) | simp)]; simp [go_sem, *]
  have F6n2 : w6.frozen? ⟨w5.heap.size, 2, none⟩ = false := by rw [ff _ _ (by first | omega | (simp; omega) | simp)]; simp [go_sem, *]
  clear fc ff
  have X6 : Ext w w6 := Ext.trans (by repeat (first | (with_reducible exact Ext.refl _) | (with_reducible assumption) | (with_reducible refine Ext.alloc ?_ _) | (with_reducible refine Ext.drewN ?_ _) | (with_reducible refine Ext.drew ?_) | (with_reducible refine Ext.setCell ?_ (by simp <;> omega) _))) hx
  clear hx C5a0 F5a0 C5a1 F5a1 C5b0 F5b0 C5b1 F5b1 C5r0 F5r0 C5r1 F5r1 Xw5
  clear qa3 qb2
  generalize hqhE : nh / (h : Int) = qh at *
  generalize hqlE : (nh % (h : Int) * 18446744073709551616 + nl) / (h : Int) = ql at *
  have QH := Lib.hid hqhE
  have QL := Lib.hid hqlE
  clear hqhE hqlE
  have nn0 : ¬ w5.heap.size = w.heap.size := by omega
  have nn1 : ¬ w5.heap.size = w.heap.size + 1 := by omega
  have nn2 : ¬ w5.heap.size = w.heap.size + 1 + 1 := by omega
  simp only [List.drop_succ_cons, List.drop_zero]
  go_upto_region 10 with (fail)
  have ew7s : ((w6.setCell ⟨w5.heap.size, 1, none⟩ (.int .u64 (qh))).setCell ⟨w5.heap.size, 2, none⟩ (.int .u64 (ql))).heap.size = w6.heap.size := by simp
  have Xw7 : Ext w ((w6.setCell ⟨w5.heap.size, 1, none⟩ (.int .u64 (qh))).setCell ⟨w5.heap.size, 2, none⟩ (.int .u64 (ql))) := (by repeat (first | (with_reducible exact Ext.refl _) | (with_reducible assumption) | (with_reducible refine Ext.alloc ?_ _) | (with_reducible refine Ext.drewN ?_ _) | (with_reducible refine Ext.drew ?_) | (with_reducible refine Ext.setCell ?_ (by simp <;> omega) _)))
  have C7a0 : ((w6.setCell ⟨w5.heap.size, 1, none⟩ (.int .u64 (qh))).setCell ⟨w5.heap.size, 2, none⟩ (.int .u64 (ql))).cell? ⟨w.heap.size, 0, none⟩ = some (.int .i64 a1) := by simp [go_sem, *]
  have F7a0 : ((w6.setCell ⟨w5.heap.size, 1, none⟩ (.int .u64 (qh))).setCell ⟨w5.heap.size, 2, none⟩ (.int .u64 (ql))).frozen? ⟨w.heap.size, 0, none⟩ = false := by simp [go_sem, *]
  have C7a1 : ((w6.setCell ⟨w5.heap.size, 1, none⟩ (.int .u64 (qh))).setCell ⟨w5.heap.size, 2, none⟩ (.int .u64 (ql))).cell? ⟨w.heap.size, 1, none⟩ = some (.int .i64 a2) := by simp [go_sem, *]
  have F7a1 : ((w6.setCell ⟨w5.heap.size, 1, none⟩ (.int .u64 (qh))).setCell ⟨w5.heap.size, 2, none⟩ (.int .u64 (ql))).frozen? ⟨w.heap.size, 1, none⟩ = false := by simp [go_sem, *]
  have C7b0 : ((w6.setCell ⟨w5.heap.size, 1, none⟩ (.int .u64 (qh))).setCell ⟨w5.heap.size, 2, none⟩ (.int .u64 (ql))).cell? ⟨w.heap.size + 1, 0, none⟩ = some (.int .i64 b1) := by simp [go_sem, *]
  have F7b0 : ((w6.setCell ⟨w5.heap.size, 1, none⟩ (.int .u64 (qh))).setCell ⟨w5.heap.size, 2, none⟩ (.int .u64 (ql))).frozen? ⟨w.heap.size + 1, 0, none⟩ = false := by simp [go_sem, *]
  have C7b1 : ((w6.setCell ⟨w5.heap.size, 1, none⟩ (.int .u64 (qh))).setCell ⟨w5.heap.size, 2, none⟩ (.int .u64 (ql))).cell? ⟨w.heap.size + 1, 1, none⟩ = some (.int .i64 b2) := by simp [go_sem, *]
  have F7b1 : ((w6.setCell ⟨w5.heap.size, 1, none⟩ (.int .u64 (qh))).setCell ⟨w5.heap.size, 2, none⟩ (.int .u64 (ql))).frozen? ⟨w.heap.size + 1, 1, none⟩ = false := by simp [go_sem, *]
  have C7r0 : ((w6.setCell ⟨w5.heap.size, 1, none⟩ (.int .u64 (qh))).setCell ⟨w5.heap.size, 2, none⟩ (.int .u64 (ql))).cell? ⟨w.heap.size + 1 + 1, 0, none⟩ = some (.int .i64 0) := by simp [go_sem, *]
  have F7r0 : ((w6.setCell ⟨w5.heap.size, 1, none⟩ (.int .u64 (qh))).setCell ⟨w5.heap.size, 2, none⟩ (.int .u64 (ql))).frozen? ⟨w.heap.size + 1 + 1, 0, none⟩ = false := by simp [go_sem, *]
  have C7r1 : ((w6.setCell ⟨w5.heap.size, 1, none⟩ (.int .u64 (qh))).setCell ⟨w5.heap.size, 2, none⟩ (.int .u64 (ql))).cell? ⟨w.heap.size + 1 + 1, 1, none⟩ = some (.int .i64 0) := by simp [go_sem, *]
  have F7r1 : ((w6.setCell ⟨w5.heap.size, 1, none⟩ (.int .u64 (qh))).setCell ⟨w5.heap.size, 2, none⟩ (.int .u64 (ql))).frozen? ⟨w.heap.size + 1 + 1, 1, none⟩ = false := by simp [go_sem, *]
  have C7n0 : ((w6.setCell ⟨w5.heap.size, 1, none⟩ (.int .u64 (qh))).setCell ⟨w5.heap.size, 2, none⟩ (.int .u64 (ql))).cell? ⟨w5.heap.size, 0, none⟩ = some (.bool sg) := by simp [go_sem, *]
  have F7n0 : ((w6.setCell ⟨w5.heap.size, 1, none⟩ (.int .u64 (qh))).setCell ⟨w5.heap.size, 2, none⟩ (.int .u64 (ql))).frozen? ⟨w5.heap.size, 0, none⟩ = false := by simp [go_sem, *]
  have C7n1 : ((w6.setCell ⟨w5.heap.size, 1, none⟩ (.int .u64 (qh))).setCell ⟨w5.heap.size, 2, none⟩ (.int .u64 (ql))).cell? ⟨w5.heap.size, 1, none⟩ = some (.int .u64 (qh)) := by simp [go_sem, *]
  have F7n1 : ((w6.setCell ⟨w5.heap.size, 1, none⟩ (.int .u64 (qh))).setCell ⟨w5.heap.size, 2, none⟩ (.int .u64 (ql))).frozen? ⟨w5.heap.size, 1, none⟩ = false := by simp [go_sem, *]
  have C7n2 : ((w6.setCell ⟨w5.heap.size, 1, none⟩ (.int .u64 (qh))).setCell ⟨w5.heap.size, 2, none⟩ (.int .u64 (ql))).cell? ⟨w5.heap.size, 2, none⟩ = some (.int .u64 (ql)) := by simp [go_sem, *]
  have F7n2 : ((w6.setCell ⟨w5.heap.size, 1, none⟩ (.int .u64 (qh))).setCell ⟨w5.heap.size, 2, none⟩ (.int .u64 (ql))).frozen? ⟨w5.heap.size, 2, none⟩ = false := by simp [go_sem, *]
  generalize ((w6.setCell ⟨w5.heap.size, 1, none⟩ (.int .u64 (qh))).setCell ⟨w5.heap.size, 2, none⟩ (.int .u64 (ql))) = w7 at *
  clear X6 C6a0 F6a0 C6a1 F6a1 C6b0 F6b0 C6b1 F6b1 C6r0 F6r0 C6r1 F6r1 C6n0 F6n0 C6n1 F6n1 C6n2 F6n2
  have ga0 : 0 ≤ a2 / (g : Int) := Int.ediv_nonneg (by omega) (by omega)
  have ga1 : a2 / (g : Int) ≤ a2 := Int.ediv_le_self _ (by omega)
  have ga2 : IntKind.i64.wrap (g : Int) = (g : Int) := by rw [IntKind.wrap_i64]; omega
  have ga3 : a2.tdiv (g : Int) = a2 / (g : Int) := Int.tdiv_eq_ediv_of_nonneg (by omega)
  have ga4 : IntKind.i64.wrap (a2 / (g : Int)) = a2 / (g : Int) := by rw [IntKind.wrap_i64]; omega
  have ga5 : decide (a2 / (g : Int) < 0) = false := by simp; omega
  have gb0 : (0 : Int) ≤ (b2.natAbs : Int) / (h : Int) := Int.ediv_nonneg (by omega) (by omega)
  have gb1 : (b2.natAbs : Int) / (h : Int) ≤ 9223372036854775807 := Int.le_trans (Int.ediv_le_self _ (by omega)) (by omega)
  have gb2 : IntKind.u64.wrap ((b2.natAbs : Int) / (h : Int)) = (b2.natAbs : Int) / (h : Int) := by rw [IntKind.wrap_u64]; omega
  have wy0 : w.heap.size < w7.heap.size := by omega
  have wy1 : w.heap.size + 1 < w7.heap.size := by omega
  have wy2 : w.heap.size + 1 + 1 < w7.heap.size := by omega
  have wy3 : w5.heap.size < w7.heap.size := by omega
  clear ew7s gs6
  refine Go.Par.region 12 [] (by kernel_rfl) (by kernel_rfl) (fun _ _ _ _ _ h => h) ?_
  simp only [List.take_succ_cons, List.take_zero]
  repeat (first
    | (apply step_val; (case hf => rfl); (case hw => (go_simp; done)); (case h => (intro w' hx fc; go_simp; (first | exact rfl | (go_at_call 32; exact (size_any _ (by omega) (by omega) _).mono (fun _ _ h => ⟨h.1, h.2 ▸ Ext.refl _⟩)) | (go_at_call 47; exact times_det _ _ (by omega) (by omega) (by omega) (by omega) _)))); intro K hK; go_simp; refine hK _ ?_; clear hK K)
    | (apply step_skip; (case hw => (go_simp; done)); intro K hK; go_simp; refine hK _ ?_; clear hK K)
    | (apply step_make (mk := fun b => Value.pointer (some ⟨b, 0, none⟩)); (case hf => rfl); (case hw => (go_simp; done)); (case h => (intro w' hx; go_simp; exact rfl)); (case hno => kernel_rfl); simp only [List.nil_append]))
  refine fin_one (fun w8 e hx he ee K hK => ?_)
  go_simp
  refine hK _ ?_
  clear hK K
  obtain ⟨fc, ff⟩ := And.intro hx.cells hx.marks
  have C8r0 : w8.cell? ⟨w.heap.size + 1 + 1, 0, none⟩ = some (.int .i64 0) := by rw [fc _ _ (by first | omega | (simp; omega) | simp)]; simp [go_sem, *]
  have F8r0 : w8.frozen? ⟨w.heap.size + 1 + 1, 0, none⟩ = false := by rw [ff _ _ (by first | omega | (simp; omega) | simp)]; simp [go_sem, *]
  have C8r1 : w8.cell? ⟨w.heap.size + 1 + 1, 1, none⟩ = some (.int .i64 0) := by rw [fc _ _ (by first | omega | (simp; omega) | simp)]; simp [go_sem, *]
  have F8r1 : w8.frozen? ⟨w.heap.size + 1 + 1, 1, none⟩ = false := by rw [ff _ _ (by first | omega | (simp; omega) | simp)]; simp [go_sem, *]
  have C8n0 : w8.cell? ⟨w5.heap.size, 0, none⟩ = some (.bool sg) := by rw [fc _ _ (by first | omega | (simp; omega) | simp)]; simp [go_sem, *]
  have F8n0 : w8.frozen? ⟨w5.heap.size, 0, none⟩ = false := by rw [ff _ _ (by first | omega | (simp; omega) | simp)]; simp [go_sem, *]
  have C8n1 : w8.cell? ⟨w5.heap.size, 1, none⟩ = some (.int .u64 (qh)) := by rw [fc _ _ (by first | omega | (simp; omega) | simp)]; simp [go_sem, *]
  have F8n1 : w8.frozen? ⟨w5.heap.size, 1, none⟩ = false := by rw [ff _ _ (by first | omega | (simp; omega) | simp)]; simp [go_sem, *]
  have C8n2 : w8.cell? ⟨w5.heap.size, 2, none⟩ = some (.int .u64 (ql)) := by rw [fc _ _ (by first | omega | (simp; omega) | simp)]; simp [go_sem, *]
  have F8n2 : w8.frozen? ⟨w5.heap.size, 2, none⟩ = false := by rw [ff _ _ (by first | omega | (simp; omega) | simp)]; simp [go_sem, *]
  clear fc ff
  have X8 : Ext w w8 := Ext.trans (by repeat (first | (with_reducible exact Ext.refl _) | (with_reducible assumption) | (with_reducible refine Ext.alloc ?_ _) | (with_reducible refine Ext.drewN ?_ _) | (with_reducible refine Ext.drew ?_) | (with_reducible refine Ext.setCell ?_ (by simp <;> omega) _))) hx
  have gs8 : w7.heap.size ≤ w8.heap.size := by simpa using hx.size
  clear hx C7a0 F7a0 C7a1 F7a1 C7b0 F7b0 C7b1 F7b1 C7r0 F7r0 C7r1 F7r1 C7n0 F7n0 C7n1 F7n1 C7n2 F7n2 Xw7
  obtain ⟨p0, p1, p2, p3, p4, p5⟩ := box3 ee
  have le := block_lt ee
  have he0 : w5.heap.size < e := by omega
  have he1 : w.heap.size + 1 + 1 < e := by omega
  have he2 : ¬ e = w5.heap.size := by omega
  have he3 : ¬ e = w.heap.size + 1 + 1 := by omega
  clear ee he
  generalize hdmE : ((a2 / (g : Int)).natAbs : Int) * ((b2.natAbs : Int) / (h : Int)) = dm at *
  have DM := Lib.hid hdmE
  clear hdmE
  simp only [List.drop_succ_cons, List.drop_zero]
  go_upto_region 11 with (fail)
  have ew9s : (((w8.setCell ⟨e, 0, none⟩ (.bool false)).setCell ⟨e, 1, none⟩ (.int .u64 (dm / 18446744073709551616))).setCell ⟨e, 2, none⟩ (.int .u64 (dm % 18446744073709551616))).heap.size = w8.heap.size := by simp
  have Xw9 : Ext w (((w8.setCell ⟨e, 0, none⟩ (.bool false)).setCell ⟨e, 1, none⟩ (.int .u64 (dm / 18446744073709551616))).setCell ⟨e, 2, none⟩ (.int .u64 (dm % 18446744073709551616))) := (by repeat (first | (with_reducible exact Ext.refl _) | (with_reducible assumption) | (with_reducible refine Ext.alloc ?_ _) | (with_reducible refine Ext.drewN ?_ _) | (with_reducible refine Ext.drew ?_) | (with_reducible refine Ext.setCell ?_ (by simp <;> omega) _)))
  have C9r0 : (((w8.setCell ⟨e, 0, none⟩ (.bool false)).setCell ⟨e, 1, none⟩ (.int .u64 (dm / 18446744073709551616))).setCell ⟨e, 2, none⟩ (.int .u64 (dm % 18446744073709551616))).cell? ⟨w.heap.size + 1 + 1, 0, none⟩ = some (.int .i64 0) := by simp [go_sem, *]
  have F9r0 : (((w8.setCell ⟨e, 0, none⟩ (.bool false)).setCell ⟨e, 1, none⟩ (.int .u64 (dm / 18446744073709551616))).setCell ⟨e, 2, none⟩ (.int .u64 (dm % 18446744073709551616))).frozen? ⟨w.heap.size + 1 + 1, 0, none⟩ = false := by simp [go_sem, *]
  have C9r1 : (((w8.setCell ⟨e, 0, none⟩ (.bool false)).setCell ⟨e, 1, none⟩ (.int .u64 (dm / 18446744073709551616))).setCell ⟨e, 2, none⟩ (.int .u64 (dm % 18446744073709551616))).cell? ⟨w.heap.size + 1 + 1, 1, none⟩ = some (.int .i64 0) := by simp [go_sem, *]
  have F9r1 : (((w8.setCell ⟨e, 0, none⟩ (.bool false)).setCell ⟨e, 1, none⟩ (.int .u64 (dm / 18446744073709551616))).setCell ⟨e, 2, none⟩ (.int .u64 (dm % 18446744073709551616))).frozen? ⟨w.heap.size + 1 + 1, 1, none⟩ = false := by simp [go_sem, *]
  have C9n0 : (((w8.setCell ⟨e, 0, none⟩ (.bool false)).setCell ⟨e, 1, none⟩ (.int .u64 (dm / 18446744073709551616))).setCell ⟨e, 2, none⟩ (.int .u64 (dm % 18446744073709551616))).cell? ⟨w5.heap.size, 0, none⟩ = some (.bool sg) := by simp [go_sem, *]
  have F9n0 : (((w8.setCell ⟨e, 0, none⟩ (.bool false)).setCell ⟨e, 1, none⟩ (.int .u64 (dm / 18446744073709551616))).setCell ⟨e, 2, none⟩ (.int .u64 (dm % 18446744073709551616))).frozen? ⟨w5.heap.size, 0, none⟩ = false := by simp [go_sem, *]
  have C9n1 : (((w8.setCell ⟨e, 0, none⟩ (.bool false)).setCell ⟨e, 1, none⟩ (.int .u64 (dm / 18446744073709551616))).setCell ⟨e, 2, none⟩ (.int .u64 (dm % 18446744073709551616))).cell? ⟨w5.heap.size, 1, none⟩ = some (.int .u64 (qh)) := by simp [go_sem, *]
  have F9n1 : (((w8.setCell ⟨e, 0, none⟩ (.bool false)).setCell ⟨e, 1, none⟩ (.int .u64 (dm / 18446744073709551616))).setCell ⟨e, 2, none⟩ (.int .u64 (dm % 18446744073709551616))).frozen? ⟨w5.heap.size, 1, none⟩ = false := by simp [go_sem, *]
  have C9n2 : (((w8.setCell ⟨e, 0, none⟩ (.bool false)).setCell ⟨e, 1, none⟩ (.int .u64 (dm / 18446744073709551616))).setCell ⟨e, 2, none⟩ (.int .u64 (dm % 18446744073709551616))).cell? ⟨w5.heap.size, 2, none⟩ = some (.int .u64 (ql)) := by simp [go_sem, *]
  have F9n2 : (((w8.setCell ⟨e, 0, none⟩ (.bool false)).setCell ⟨e, 1, none⟩ (.int .u64 (dm / 18446744073709551616))).setCell ⟨e, 2, none⟩ (.int .u64 (dm % 18446744073709551616))).frozen? ⟨w5.heap.size, 2, none⟩ = false := by simp [go_sem, *]
  have C9d0 : (((w8.setCell ⟨e, 0, none⟩ (.bool false)).setCell ⟨e, 1, none⟩ (.int .u64 (dm / 18446744073709551616))).setCell ⟨e, 2, none⟩ (.int .u64 (dm % 18446744073709551616))).cell? ⟨e, 0, none⟩ = some (.bool false) := by simp [go_sem, *]
  have F9d0 : (((w8.setCell ⟨e, 0, none⟩ (.bool false)).setCell ⟨e, 1, none⟩ (.int .u64 (dm / 18446744073709551616))).setCell ⟨e, 2, none⟩ (.int .u64 (dm % 18446744073709551616))).frozen? ⟨e, 0, none⟩ = false := by simp [go_sem, *]
  have C9d1 : (((w8.setCell ⟨e, 0, none⟩ (.bool false)).setCell ⟨e, 1, none⟩ (.int .u64 (dm / 18446744073709551616))).setCell ⟨e, 2, none⟩ (.int .u64 (dm % 18446744073709551616))).cell? ⟨e, 1, none⟩ = some (.int .u64 (dm / 18446744073709551616)) := by simp [go_sem, *]
  have F9d1 : (((w8.setCell ⟨e, 0, none⟩ (.bool false)).setCell ⟨e, 1, none⟩ (.int .u64 (dm / 18446744073709551616))).setCell ⟨e, 2, none⟩ (.int .u64 (dm % 18446744073709551616))).frozen? ⟨e, 1, none⟩ = false := by simp [go_sem, *]
  have C9d2 : (((w8.setCell ⟨e, 0, none⟩ (.bool false)).setCell ⟨e, 1, none⟩ (.int .u64 (dm / 18446744073709551616))).setCell ⟨e, 2, none⟩ (.int .u64 (dm % 18446744073709551616))).cell? ⟨e, 2, none⟩ = some (.int .u64 (dm % 18446744073709551616)) := by simp [go_sem, *]
  have F9d2 : (((w8.setCell ⟨e, 0, none⟩ (.bool false)).setCell ⟨e, 1, none⟩ (.int .u64 (dm / 18446744073709551616))).setCell ⟨e, 2, none⟩ (.int .u64 (dm % 18446744073709551616))).frozen? ⟨e, 2, none⟩ = false := by simp [go_sem, *]
  generalize (((w8.setCell ⟨e, 0, none⟩ (.bool false)).setCell ⟨e, 1, none⟩ (.int .u64 (dm / 18446744073709551616))).setCell ⟨e, 2, none⟩ (.int .u64 (dm % 18446744073709551616))) = w9 at *
  clear X8 C8r0 F8r0 C8r1 F8r1 C8n0 F8n0 C8n1 F8n1 C8n2 F8n2 p0 p1 p2 p3 p4 p5
  go_wp2_with fail
  have hdm0 : 0 ≤ dm := by have := DM.out; rw [← this]; exact Int.mul_nonneg (by omega) gb0
  obtain ⟨ql0, ql1⟩ := quo_lo nh nl h (by omega) nl0 nl1
  rw [QL.out] at ql0 ql1
  refine (result_any sg false qh ql _ _ qa0 ql0 ql1 (by omega) (by omega) (by omega) _).mono ?_
  rw [show dm / 18446744073709551616 * 18446744073709551616 + dm % 18446744073709551616 = dm by omega]
  have hfin : res sg (qh * 18446744073709551616 + ql) dm = (rx, ry, rc) := by
    rw [← HR.out]
    unfold sumR
    simp only [GE.out, XE.out, YE.out, SE.out, TE.out, SGE.out, ME.out]
    have hm : nh * 18446744073709551616 + nl = m := hnm.out
    have hh' : (Nat.gcd (m % (g : Int)).natAbs (g : Int).natAbs) = h := by rw [← HE.out, hm]; rfl
    rw [hh', DM.out, ← QH.out, ← QL.out, quo_two nh nl h (by omega), hm]
  rw [hfin]
  clear hfin
  rintro e' w10 ⟨rfl, o1, o2, o3, rfl⟩
  have wz0 : w.heap.size + 1 + 1 < w9.heap.size := by omega
  have lt1 : w.heap.size + 1 + 1 < w9.heap.size + 1 := by omega
  have lt2 : w.heap.size + 1 + 1 < w9.heap.size + 1 + 1 := by omega
  have lt3 : w.heap.size + 1 + 1 < w9.heap.size + 1 + 1 + 1 := by omega
  have ne1 : ¬ w.heap.size + 1 + 1 = w9.heap.size := by omega
  have ne2 : ¬ w.heap.size + 1 + 1 = w9.heap.size + 1 := by omega
  have ne3 : ¬ w.heap.size + 1 + 1 = w9.heap.size + 1 + 1 := by omega
  clear ew9s
  go_wp2_with fail
  refine bodyPost_ret (v := .tuple #[.agg #[.int .i64 rx, .int .i64 ry], .int .i64 rc]) ?_ rfl ⟨rfl, (by repeat (first | (with_reducible exact Ext.refl _) | (with_reducible assumption) | (with_reducible refine Ext.alloc ?_ _) | (with_reducible refine Ext.drewN ?_ _) | (with_reducible refine Ext.drew ?_) | (with_reducible refine Ext.setCell ?_ (by simp <;> omega) _)))⟩
  simp [results, Tryd.results41, go_sem, *]

end Go.Proofs.YtifhgkdajnngnaaDoor
