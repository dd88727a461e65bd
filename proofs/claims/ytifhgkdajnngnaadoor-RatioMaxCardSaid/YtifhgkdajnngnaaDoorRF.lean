/- Contracts of package ratio: Cmp. -/
import Derived.Test.YtifhgkdajnngnaaDoorRE
namespace Go.Proofs.YtifhgkdajnngnaaDoor
open Go.RowKit Go.Par

/-- a.one(): its two numbers. -/
def oneP (n d : Int) : Int × Int := if n = 0 ∧ d = 0 then (0, 1) else (n, d)

theorem one_any (n d : Int) (w : World) :
    Calls Tryd.prog 36 #[.agg #[.int .i64 n, .int .i64 d]] w fun e w' => e = .returned (.agg #[.int .i64 (oneP n d).1, .int .i64 (oneP n d).2]) ∧ Ext w w' := by
  by_cases h : n = 0 ∧ d = 0
  · obtain ⟨rfl, rfl⟩ := h
    exact (one_zero w).mono fun e w' ⟨he, o1, o2, hw⟩ => ⟨he, hw ▸ ((Ext.refl _).alloc _).alloc _⟩
  · refine (one_not n d h w).mono fun e w' ⟨he, o1, o2, hw⟩ => ⟨?_, hw ▸ ((Ext.refl _).alloc _).alloc _⟩
    rw [he, oneP, if_neg h]

theorem times_det (v n : Int) (h0 : -9223372036854775808 ≤ v) (h1 : v ≤ 9223372036854775807) (hn0 : 0 ≤ n) (hn1 : n < 18446744073709551616) (w : World) :
    Calls Tryd.prog 47 #[.int .i64 v, .int .u64 n] w fun e w' => e = .returned (.agg #[.bool (decide (v < 0)), .int .u64 ((v.natAbs : Int) * n / 18446744073709551616), .int .u64 ((v.natAbs : Int) * n % 18446744073709551616)]) ∧ Ext w w' := by
  refine (times_any v n _ rfl h0 h1 hn0 hn1 w).mono fun e w' ⟨h, l, he, a, b, c, d, hm, o, hw⟩ => ⟨?_, hw ▸ (Ext.refl _).alloc _⟩
  have := hm.out
  rw [he, show h = (v.natAbs : Int) * n / 18446744073709551616 by omega, show l = (v.natAbs : Int) * n % 18446744073709551616 by omega]

theorem cmp_nn (a1 a2 b1 b2 m1 m2 : Int) (h1 : (a1.natAbs : Int) * b2.natAbs = m1) (h2 : (b1.natAbs : Int) * a2.natAbs = m2) (ha : a1 < 0) (hb : b1 < 0) (ha2 : 0 < a2) (hb2 : 0 < b2) :
    cmpI (m2 / 18446744073709551616 * 18446744073709551616 + m2 % 18446744073709551616) (m1 / 18446744073709551616 * 18446744073709551616 + m1 % 18446744073709551616) = cmpI (a1 * b2) (b1 * a2) := by
  rw [show m2 / 18446744073709551616 * 18446744073709551616 + m2 % 18446744073709551616 = m2 by omega, show m1 / 18446744073709551616 * 18446744073709551616 + m1 % 18446744073709551616 = m1 by omega]
  rw [show (a1.natAbs : Int) = -a1 by omega, show (b2.natAbs : Int) = b2 by omega, Int.neg_mul] at h1
  rw [show (b1.natAbs : Int) = -b1 by omega, show (a2.natAbs : Int) = a2 by omega, Int.neg_mul] at h2
  unfold cmpI
  generalize a1 * b2 = x at *
  generalize b1 * a2 = y at *
  by_cases c : x < y
  · rw [if_pos c, if_pos (by omega)]
  · by_cases d : x = y
    · rw [if_neg c, if_neg (by omega), if_pos d, if_pos (by omega)]
    · rw [if_neg c, if_neg (by omega), if_neg d, if_neg (by omega)]
theorem cmp_pp (a1 a2 b1 b2 m1 m2 : Int) (h1 : (a1.natAbs : Int) * b2.natAbs = m1) (h2 : (b1.natAbs : Int) * a2.natAbs = m2) (ha : ¬ a1 < 0) (hb : ¬ b1 < 0) (ha2 : 0 < a2) (hb2 : 0 < b2) :
    cmpI (m1 / 18446744073709551616 * 18446744073709551616 + m1 % 18446744073709551616) (m2 / 18446744073709551616 * 18446744073709551616 + m2 % 18446744073709551616) = cmpI (a1 * b2) (b1 * a2) := by
  rw [show m2 / 18446744073709551616 * 18446744073709551616 + m2 % 18446744073709551616 = m2 by omega, show m1 / 18446744073709551616 * 18446744073709551616 + m1 % 18446744073709551616 = m1 by omega]
  rw [show (a1.natAbs : Int) = a1 by omega, show (b2.natAbs : Int) = b2 by omega] at h1
  rw [show (b1.natAbs : Int) = b1 by omega, show (a2.natAbs : Int) = a2 by omega] at h2
  rw [h1, h2]
theorem cmp_np (a1 a2 b1 b2 : Int) (ha : a1 < 0) (hb : ¬ b1 < 0) (ha2 : 0 < a2) (hb2 : 0 < b2) : cmpI (a1 * b2) (b1 * a2) = -1 := by
  have h1 := Int.mul_neg_of_neg_of_pos ha hb2
  have h2 := Int.mul_nonneg (show 0 ≤ b1 by omega) (Int.le_of_lt ha2)
  unfold cmpI
  rw [if_pos (by omega)]
theorem cmp_pn (a1 a2 b1 b2 : Int) (ha : ¬ a1 < 0) (hb : b1 < 0) (ha2 : 0 < a2) (hb2 : 0 < b2) : cmpI (a1 * b2) (b1 * a2) = 1 := by
  have h1 := Int.mul_neg_of_neg_of_pos hb ha2
  have h2 := Int.mul_nonneg (show 0 ≤ a1 by omega) (Int.le_of_lt hb2)
  unfold cmpI
  rw [if_neg (by omega), if_neg (by omega)]

theorem one_bounds (n d : Int) (v : validB n d = true) (hn0 : -9223372036854775808 ≤ n) (hn1 : n ≤ 9223372036854775807) (hd1 : d ≤ 9223372036854775807) :
    -9223372036854775808 ≤ (oneP n d).1 ∧ (oneP n d).1 ≤ 9223372036854775807 ∧ 0 < (oneP n d).2 ∧ (oneP n d).2 ≤ 9223372036854775807 := by
  unfold oneP
  by_cases h : n = 0 ∧ d = 0
  · rw [if_pos h]; decide
  · rw [if_neg h]
    unfold validB at v
    simp at v
    refine ⟨hn0, hn1, ?_, hd1⟩
    show 0 < d
    omega

set_option maxRecDepth 100000 in
set_option maxHeartbeats 1000000 in
theorem cmp_ok (an ad bn bd : Int) (w : World) (va : validB an ad = true) (vb : validB bn bd = true)
    (an0 : -9223372036854775808 ≤ an) (an1 : an ≤ 9223372036854775807) (ad0 : -9223372036854775808 ≤ ad) (ad1 : ad ≤ 9223372036854775807)
    (bn0 : -9223372036854775808 ≤ bn) (bn1 : bn ≤ 9223372036854775807) (bd0 : -9223372036854775808 ≤ bd) (bd1 : bd ≤ 9223372036854775807) :
    Calls Tryd.prog 28 #[.agg #[.int .i64 an, .int .i64 ad], .agg #[.int .i64 bn, .int .i64 bd]] w fun e w' => e = .returned (.int .i64 (cmpI ((oneP an ad).1 * (oneP bn bd).2) ((oneP bn bd).1 * (oneP an ad).2))) ∧ Ext w w' := by
  have HA := Lib.hid (fun W : World => valid_any an ad an0 an1 ad0 ad1 W)
  have HB := Lib.hid (fun W : World => valid_any bn bd bn0 bn1 bd0 bd1 W)
  rw [va] at HA
  rw [vb] at HB
  obtain ⟨ba0, ba1, ba2, ba3⟩ := one_bounds an ad va an0 an1 ad1
  obtain ⟨bb0, bb1, bb2, bb3⟩ := one_bounds bn bd vb bn0 bn1 bd1
  have HOa := Lib.hid (one_any an ad)
  have HOb := Lib.hid (one_any bn bd)
  clear va vb
  generalize (oneP an ad).1 = a1 at *
  generalize (oneP an ad).2 = a2 at *
  generalize (oneP bn bd).1 = b1 at *
  generalize (oneP bn bd).2 = b2 at *
  go_enter Tryd.func28, Tryd.ntmps28
  go_wp2_with fail
  refine (HA.out _).mono ?_
  rintro e w' ⟨rfl, o, k, rfl⟩
  go_wp2_with fail
  refine (HB.out _).mono ?_
  rintro e w' ⟨rfl, o', k', rfl⟩
  go_wp2_with fail
  refine Go.Par.region 4 [] (by kernel_rfl) (by kernel_rfl) (fun _ _ _ _ _ h => h) ?_
  simp only [List.take_succ_cons, List.take_zero]
  repeat (first
    | (apply step_val; (case hf => rfl); (case hw => (go_simp; done)); (case h => (intro w' hx fc; go_simp; (first | exact rfl | (go_at_call_of 36 (Value.agg #[Value.int IntKind.i64 an, Value.int IntKind.i64 ad]); exact HOa.out _) | (go_at_call_of 36 (Value.agg #[Value.int IntKind.i64 bn, Value.int IntKind.i64 bd]); exact HOb.out _)))); intro K hK; go_simp; refine hK _ ?_; clear hK K)
    | (apply step_skip; (case hw => (go_simp; done)); intro K hK; go_simp; refine hK _ ?_; clear hK K)
    | (apply step_make (mk := fun b => Value.pointer (some ⟨b, 0, none⟩)); (case hf => rfl); (case hw => (go_simp; done)); (case h => (intro w' hx; go_simp; exact rfl)); (case hno => kernel_rfl); simp only [List.nil_append, List.cons_append]))
  refine fin_none (fun w1 hx => ?_)
  obtain ⟨fc, ff⟩ := And.intro hx.cells hx.marks
  have fs : w.heap.size + 1 + 1 + 1 + 1 ≤ w1.heap.size := by simpa using hx.size
  have c00 : w1.cell? ⟨w.heap.size, 0, none⟩ = some (.int .i64 an) := by rw [fc _ _ (by simp; omega)]; simp [go_sem]
  have c01 : w1.cell? ⟨w.heap.size, 1, none⟩ = some (.int .i64 ad) := by rw [fc _ _ (by simp; omega)]; simp [go_sem]
  have c10 : w1.cell? ⟨w.heap.size + 1, 0, none⟩ = some (.int .i64 bn) := by rw [fc _ _ (by simp)]; simp [go_sem]
  have c11 : w1.cell? ⟨w.heap.size + 1, 1, none⟩ = some (.int .i64 bd) := by rw [fc _ _ (by simp)]; simp [go_sem]
  have f00 : w1.frozen? ⟨w.heap.size, 0, none⟩ = false := by rw [ff _ _ (by simp; omega)]; simp [go_sem]
  have f01 : w1.frozen? ⟨w.heap.size, 1, none⟩ = false := by rw [ff _ _ (by simp; omega)]; simp [go_sem]
  have f10 : w1.frozen? ⟨w.heap.size + 1, 0, none⟩ = false := by rw [ff _ _ (by simp)]; simp [go_sem]
  have f11 : w1.frozen? ⟨w.heap.size + 1, 1, none⟩ = false := by rw [ff _ _ (by simp)]; simp [go_sem]
  have X1 : Ext w w1 := Ext.trans (by repeat (first | exact Ext.refl _ | apply Ext.alloc | apply Ext.drewN)) hx
  clear fc ff hx
  have fs0 : w.heap.size < w1.heap.size := by omega
  have fs1 : w.heap.size + 1 < w1.heap.size := by omega
  simp only [List.drop_succ_cons, List.drop_zero]
  go_wp2
  refine Go.Par.region 14 [] (by kernel_rfl) (by kernel_rfl) (fun _ _ _ _ _ h => h) ?_
  simp only [List.take_succ_cons, List.take_zero]
  repeat (first
    | (apply step_val; (case hf => rfl); (case hw => (go_simp; done)); (case h => (intro w' hx fc; go_simp; (first | exact rfl | (go_at_call 32; exact (size_any _ (by omega) (by omega) _).mono (fun _ _ h => ⟨h.1, h.2 ▸ Ext.refl _⟩)) | (go_at_call 47; exact times_det _ _ (by omega) (by omega) (by omega) (by omega) _)))); intro K hK; go_simp; refine hK _ ?_; clear hK K)
    | (apply step_skip; (case hw => (go_simp; done)); intro K hK; go_simp; refine hK _ ?_; clear hK K)
    | (apply step_make (mk := fun b => Value.pointer (some ⟨b, 0, none⟩)); (case hf => rfl); (case hw => (go_simp; done)); (case h => (intro w' hx; go_simp; exact rfl)); (case hno => kernel_rfl); simp only [List.nil_append, List.cons_append]))
  refine fin_two (fun w2 b c hx2 hb hc hne eb ec K hK => ?_)
  go_simp
  refine hK _ ?_
  clear hK K
  simp only [List.drop_succ_cons, List.drop_zero]
  have X2 : Ext w w2 := Ext.trans (by repeat (first | (with_reducible exact X1) | (with_reducible refine Ext.setCell ?_ (by simp) _))) hx2
  obtain ⟨p0, p1, p2, p3, p4, p5⟩ := box3 eb
  obtain ⟨q0, q1, q2, q3, q4, q5⟩ := box3 ec
  have hb' : w.heap.size ≤ b := by simp at hb; omega
  have hc' : w.heap.size ≤ c := by simp at hc; omega
  have lb := block_lt eb
  have lc := block_lt ec
  have hne' : ¬ c = b := fun e => hne e.symm
  clear hx2 eb ec hb hc c00 c01 c10 c11 f00 f01 f10 f11 fs fs0 fs1 X1
  generalize hm1 : (a1.natAbs : Int) * b2.natAbs = m1
  generalize hm2 : (b1.natAbs : Int) * a2.natAbs = m2
  have M1 := Lib.hid hm1
  have M2 := Lib.hid hm2
  clear hm1 hm2
  have k1 : 0 ≤ m1 % 18446744073709551616 := by omega
  have k2 : m1 % 18446744073709551616 < 18446744073709551616 := by omega
  have k3 : 0 ≤ m2 % 18446744073709551616 := by omega
  have k4 : m2 % 18446744073709551616 < 18446744073709551616 := by omega
  by_cases ha : a1 < 0
  · by_cases hb1 : b1 < 0
    · go_wp2_with fail
      refine (order_any true true _ _ _ _ k3 k4 k1 k2 _).mono ?_
      rw [cmp_nn a1 a2 b1 b2 m1 m2 M1.out M2.out ha hb1 ba2 bb2]
      rintro e w' ⟨rfl, o1, o2, rfl⟩
      go_wp2_with fail
      go_ret
      exact ⟨rfl, (by repeat (first | (with_reducible exact X2) | (with_reducible refine Ext.alloc ?_ _) | (with_reducible refine Ext.setCell ?_ (by simp; omega) _)))⟩
    · go_wp2_with fail
      go_ret
      exact ⟨ret_int (cmp_np a1 a2 b1 b2 ha (by omega) ba2 bb2).symm, (by repeat (first | (with_reducible exact X2) | (with_reducible refine Ext.alloc ?_ _) | (with_reducible refine Ext.setCell ?_ (by simp; omega) _)))⟩
  · by_cases hb1 : b1 < 0
    · go_wp2_with fail
      go_ret
      exact ⟨ret_int (cmp_pn a1 a2 b1 b2 (by omega) hb1 ba2 bb2).symm, (by repeat (first | (with_reducible exact X2) | (with_reducible refine Ext.alloc ?_ _) | (with_reducible refine Ext.setCell ?_ (by simp; omega) _)))⟩
    · go_wp2_with fail
      refine (order_any false false _ _ _ _ k1 k2 k3 k4 _).mono ?_
      rw [cmp_pp a1 a2 b1 b2 m1 m2 M1.out M2.out (by omega) (by omega) ba2 bb2]
      rintro e w' ⟨rfl, o1, o2, rfl⟩
      go_wp2_with fail
      go_ret
      exact ⟨rfl, (by repeat (first | (with_reducible exact X2) | (with_reducible refine Ext.alloc ?_ _) | (with_reducible refine Ext.setCell ?_ (by simp; omega) _)))⟩

end Go.Proofs.YtifhgkdajnngnaaDoor
