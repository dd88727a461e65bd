/- Contracts of package ratio: Cmp and Mul where an argument is invalid; Mul. -/
import Derived.Test.YtifhgkdajnngnaaDoorRF
namespace Go.Proofs.YtifhgkdajnngnaaDoor
open Go.RowKit Go.Par

def InI (n : Int) : Prop := -9223372036854775808 ≤ n ∧ n ≤ 9223372036854775807

set_option maxRecDepth 100000 in
set_option maxHeartbeats 1000000 in
theorem cmp_bad (an ad bn bd : Int) (w : World) (h : validB an ad = false ∨ validB bn bd = false) (ia : InI an) (ja : InI ad) (ib : InI bn) (jb : InI bd) :
    Calls Tryd.prog 28 #[.agg #[.int .i64 an, .int .i64 ad], .agg #[.int .i64 bn, .int .i64 bd]] w fun e w' => e = .returned (.int .i64 0) ∧ Ext w w' := by
  have HA := Lib.hid (fun W : World => valid_any an ad ia.1 ia.2 ja.1 ja.2 W)
  have HB := Lib.hid (fun W : World => valid_any bn bd ib.1 ib.2 jb.1 jb.2 W)
  cases hva : validB an ad with
  | false =>
    rw [hva] at HA
    clear h
    go_enter Tryd.func28, Tryd.ntmps28
    go_wp2_with fail
    refine (HA.out _).mono ?_
    rintro e w' ⟨rfl, o, k, rfl⟩
    go_wp2_with fail
    go_ret
    exact ⟨rfl, (by repeat (first | (with_reducible exact Ext.refl _) | (with_reducible assumption) | (with_reducible refine Ext.alloc ?_ _) | (with_reducible refine Ext.drewN ?_ _) | (with_reducible refine Ext.drew ?_) | (with_reducible refine Ext.setCell ?_ (by simp <;> omega) _)))⟩
  | true =>
    have hvb : validB bn bd = false := by simpa [hva] using h
    rw [hva] at HA
    rw [hvb] at HB
    clear h
    go_enter Tryd.func28, Tryd.ntmps28
    go_wp2_with fail
    refine (HA.out _).mono ?_
    rintro e w' ⟨rfl, o, k, rfl⟩
    go_wp2_with fail
    refine (HB.out _).mono ?_
    rintro e w' ⟨rfl, o', k', rfl⟩
    go_wp2_with fail
    go_ret
    exact ⟨rfl, (by repeat (first | (with_reducible exact Ext.refl _) | (with_reducible assumption) | (with_reducible refine Ext.alloc ?_ _) | (with_reducible refine Ext.drewN ?_ _) | (with_reducible refine Ext.drew ?_) | (with_reducible refine Ext.setCell ?_ (by simp <;> omega) _)))⟩

set_option maxRecDepth 100000 in
set_option maxHeartbeats 1000000 in
theorem mul_bad (an ad bn bd : Int) (w : World) (h : validB an ad = false ∨ validB bn bd = false) (ia : InI an) (ja : InI ad) (ib : InI bn) (jb : InI bd) :
    Calls Tryd.prog 27 #[.agg #[.int .i64 an, .int .i64 ad], .agg #[.int .i64 bn, .int .i64 bd]] w (RetR (0, 0, 1) w) := by
  have HA := Lib.hid (fun W : World => valid_any an ad ia.1 ia.2 ja.1 ja.2 W)
  have HB := Lib.hid (fun W : World => valid_any bn bd ib.1 ib.2 jb.1 jb.2 W)
  cases hva : validB an ad with
  | false =>
    rw [hva] at HA
    clear h
    go_enter Tryd.func27, Tryd.ntmps27
    go_wp2_with fail
    refine (HA.out _).mono ?_
    rintro e w' ⟨rfl, o, k, rfl⟩
    go_wp2_with fail
    exact bodyPost_ret (v := .tuple #[.agg #[.int .i64 0, .int .i64 0], .int .i64 1]) (by simp [results, Tryd.results27, go_sem]) rfl ⟨rfl, (by repeat (first | (with_reducible exact Ext.refl _) | (with_reducible assumption) | (with_reducible refine Ext.alloc ?_ _) | (with_reducible refine Ext.drewN ?_ _) | (with_reducible refine Ext.drew ?_) | (with_reducible refine Ext.setCell ?_ (by simp <;> omega) _)))⟩
  | true =>
    have hvb : validB bn bd = false := by simpa [hva] using h
    rw [hva] at HA
    rw [hvb] at HB
    clear h
    go_enter Tryd.func27, Tryd.ntmps27
    go_wp2_with fail
    refine (HA.out _).mono ?_
    rintro e w' ⟨rfl, o, k, rfl⟩
    go_wp2_with fail
    refine (HB.out _).mono ?_
    rintro e w' ⟨rfl, o', k', rfl⟩
    go_wp2_with fail
    exact bodyPost_ret (v := .tuple #[.agg #[.int .i64 0, .int .i64 0], .int .i64 1]) (by simp [results, Tryd.results27, go_sem]) rfl ⟨rfl, (by repeat (first | (with_reducible exact Ext.refl _) | (with_reducible assumption) | (with_reducible refine Ext.alloc ?_ _) | (with_reducible refine Ext.drewN ?_ _) | (with_reducible refine Ext.drew ?_) | (with_reducible refine Ext.setCell ?_ (by simp <;> omega) _)))⟩

set_option maxRecDepth 100000 in
set_option maxHeartbeats 2000000 in
theorem mul_ok (an ad bn bd : Int) (w : World) (va : validB an ad = true) (vb : validB bn bd = true) (ia : InI an) (ja : InI ad) (ib : InI bn) (jb : InI bd) (s : Bool)
    (hs : (!(decide ((oneP an ad).1 < 0)) == (decide ((oneP bn bd).1 < 0))) = s) :
    Calls Tryd.prog 27 #[.agg #[.int .i64 an, .int .i64 ad], .agg #[.int .i64 bn, .int .i64 bd]] w
      (RetR (res s (((oneP an ad).1.natAbs : Int) / Nat.gcd (oneP an ad).1.natAbs (oneP bn bd).2.natAbs * ((oneP bn bd).1.natAbs / Nat.gcd (oneP bn bd).1.natAbs (oneP an ad).2.natAbs))
        (((oneP an ad).2.natAbs : Int) / Nat.gcd (oneP bn bd).1.natAbs (oneP an ad).2.natAbs * ((oneP bn bd).2.natAbs / Nat.gcd (oneP an ad).1.natAbs (oneP bn bd).2.natAbs))) w) := by
  have HA := Lib.hid (fun W : World => valid_any an ad ia.1 ia.2 ja.1 ja.2 W)
  have HB := Lib.hid (fun W : World => valid_any bn bd ib.1 ib.2 jb.1 jb.2 W)
  rw [va] at HA
  rw [vb] at HB
  obtain ⟨ba0, ba1, ba2, ba3⟩ := one_bounds an ad va ia.1 ia.2 ja.2
  obtain ⟨bb0, bb1, bb2, bb3⟩ := one_bounds bn bd vb ib.1 ib.2 jb.2
  have HOa := Lib.hid (one_any an ad)
  have HOb := Lib.hid (one_any bn bd)
  clear va vb ia ja ib jb
  generalize (oneP an ad).1 = a1 at *
  generalize (oneP an ad).2 = a2 at *
  generalize (oneP bn bd).1 = b1 at *
  generalize (oneP bn bd).2 = b2 at *
  have hg : 0 < Nat.gcd a1.natAbs b2.natAbs := Nat.gcd_pos_of_pos_right _ (by omega)
  have hh : 0 < Nat.gcd b1.natAbs a2.natAbs := Nat.gcd_pos_of_pos_right _ (by omega)
  generalize hgE : Nat.gcd a1.natAbs b2.natAbs = g at *
  generalize hhE : Nat.gcd b1.natAbs a2.natAbs = h at *
  have GE := Lib.hid hgE
  have HE := Lib.hid hhE
  clear hgE hhE
  go_enter Tryd.func27, Tryd.ntmps27
  go_wp2_with fail
  refine (HA.out _).mono ?_
  rintro e w' ⟨rfl, o, k, rfl⟩
  go_wp2_with fail
  refine (HB.out _).mono ?_
  rintro e w' ⟨rfl, o', k', rfl⟩
  go_wp2_with fail
  refine Go.Par.region 4 [] (by kernel_rfl) (by kernel_rfl) (fun _ _ _ _ _ h => h) ?_
  simp only [List.take_succ_cons, List.take_zero]
  repeat (first
    | (apply step_val; (case hf => rfl); (case hw => (go_simp; done)); (case h => (intro w' hx fc; go_simp; (first | exact rfl | (go_at_call_of 36 (Value.agg #[Value.int IntKind.i64 an, Value.int IntKind.i64 ad]); exact HOa.out _) | (go_at_call_of 36 (Value.agg #[Value.int IntKind.i64 bn, Value.int IntKind.i64 bd]); exact HOb.out _)))); intro K hK; go_simp; refine hK _ ?_; clear hK K)
    | (apply step_skip; (case hw => (go_simp; done)); intro K hK; go_simp; refine hK _ ?_; clear hK K)
    | (apply step_make (mk := fun b => Value.pointer (some ⟨b, 0, none⟩)); (case hf => rfl); (case hw => (go_simp; done)); (case h => (intro w' hx; go_simp; exact rfl)); (case hno => kernel_rfl); simp only [List.nil_append, List.cons_append]))
  refine fin_none (fun w1 hx => ?_)
  have fs : w.heap.size + 1 + 1 + 1 + 1 + 1 ≤ w1.heap.size := by simpa using hx.size
  obtain ⟨fc, ff⟩ := And.intro hx.cells hx.marks
  have C1a0 : w1.cell? ⟨w.heap.size, 0, none⟩ = some (.int .i64 an) := by rw [fc _ _ (by simp <;> omega)]; simp [go_sem, *]
  have F1a0 : w1.frozen? ⟨w.heap.size, 0, none⟩ = false := by rw [ff _ _ (by simp <;> omega)]; simp [go_sem, *]
  have C1a1 : w1.cell? ⟨w.heap.size, 1, none⟩ = some (.int .i64 ad) := by rw [fc _ _ (by simp <;> omega)]; simp [go_sem, *]
  have F1a1 : w1.frozen? ⟨w.heap.size, 1, none⟩ = false := by rw [ff _ _ (by simp <;> omega)]; simp [go_sem, *]
  have C1b0 : w1.cell? ⟨w.heap.size + 1, 0, none⟩ = some (.int .i64 bn) := by rw [fc _ _ (by simp <;> omega)]; simp [go_sem, *]
  have F1b0 : w1.frozen? ⟨w.heap.size + 1, 0, none⟩ = false := by rw [ff _ _ (by simp <;> omega)]; simp [go_sem, *]
  have C1b1 : w1.cell? ⟨w.heap.size + 1, 1, none⟩ = some (.int .i64 bd) := by rw [fc _ _ (by simp <;> omega)]; simp [go_sem, *]
  have F1b1 : w1.frozen? ⟨w.heap.size + 1, 1, none⟩ = false := by rw [ff _ _ (by simp <;> omega)]; simp [go_sem, *]
  have C1r0 : w1.cell? ⟨w.heap.size + 1 + 1, 0, none⟩ = some (.int .i64 0) := by rw [fc _ _ (by simp <;> omega)]; simp [go_sem, *]
  have F1r0 : w1.frozen? ⟨w.heap.size + 1 + 1, 0, none⟩ = false := by rw [ff _ _ (by simp <;> omega)]; simp [go_sem, *]
  have C1r1 : w1.cell? ⟨w.heap.size + 1 + 1, 1, none⟩ = some (.int .i64 0) := by rw [fc _ _ (by simp <;> omega)]; simp [go_sem, *]
  have F1r1 : w1.frozen? ⟨w.heap.size + 1 + 1, 1, none⟩ = false := by rw [ff _ _ (by simp <;> omega)]; simp [go_sem, *]
  clear fc ff
  have X1 : Ext w w1 := Ext.trans (by repeat (first | (with_reducible exact Ext.refl _) | (with_reducible assumption) | (with_reducible refine Ext.alloc ?_ _) | (with_reducible refine Ext.drewN ?_ _) | (with_reducible refine Ext.drew ?_) | (with_reducible refine Ext.setCell ?_ (by simp <;> omega) _))) hx
  clear hx
  have fs0 : w.heap.size < w1.heap.size := by omega
  have fs1 : w.heap.size + 1 < w1.heap.size := by omega
  have fs2 : w.heap.size + 1 + 1 < w1.heap.size := by omega
  simp only [List.drop_succ_cons, List.drop_zero]
  go_wp2_with fail
  refine Go.Par.region 14 [] (by kernel_rfl) (by kernel_rfl) (fun _ _ _ _ _ h => h) ?_
  simp only [List.take_succ_cons, List.take_zero]
  repeat (first
    | (apply step_val; (case hf => rfl); (case hw => (go_simp; done)); (case h => (intro w' hx fc; go_simp; (first | exact rfl | (go_at_call 32; exact (size_any _ (by omega) (by omega) _).mono (fun _ _ h => ⟨h.1, h.2 ▸ Ext.refl _⟩)) | (go_at_call 31; exact (gcd_any _ _ (by omega) (by omega) (by omega) (by omega) _).mono (fun _ _ h => ⟨h.1, h.2 ▸ Ext.refl _⟩))))); intro K hK; go_simp; refine hK _ ?_; clear hK K)
    | (apply step_skip; (case hw => (go_simp; done)); intro K hK; go_simp; refine hK _ ?_; clear hK K)
    | (apply step_make (mk := fun b => Value.pointer (some ⟨b, 0, none⟩)); (case hf => rfl); (case hw => (go_simp; done)); (case h => (intro w' hx; go_simp; exact rfl)); (case hno => kernel_rfl); simp only [List.nil_append, List.cons_append]))
  refine fin_none (fun w2 hx => ?_)
  have gs : w1.heap.size ≤ w2.heap.size := by simpa using hx.size
  obtain ⟨fc, ff⟩ := And.intro hx.cells hx.marks
  have C2a0 : w2.cell? ⟨w.heap.size, 0, none⟩ = some (.int .i64 a1) := by rw [fc _ _ (by simp <;> omega)]; simp [go_sem, *]
  have F2a0 : w2.frozen? ⟨w.heap.size, 0, none⟩ = false := by rw [ff _ _ (by simp <;> omega)]; simp [go_sem, *]
  have C2a1 : w2.cell? ⟨w.heap.size, 1, none⟩ = some (.int .i64 a2) := by rw [fc _ _ (by simp <;> omega)]; simp [go_sem, *]
  have F2a1 : w2.frozen? ⟨w.heap.size, 1, none⟩ = false := by rw [ff _ _ (by simp <;> omega)]; simp [go_sem, *]
  have C2b0 : w2.cell? ⟨w.heap.size + 1, 0, none⟩ = some (.int .i64 b1) := by rw [fc _ _ (by simp <;> omega)]; simp [go_sem, *]
  have F2b0 : w2.frozen? ⟨w.heap.size + 1, 0, none⟩ = false := by rw [ff _ _ (by simp <;> omega)]; simp [go_sem, *]
  have C2b1 : w2.cell? ⟨w.heap.size + 1, 1, none⟩ = some (.int .i64 b2) := by rw [fc _ _ (by simp <;> omega)]; simp [go_sem, *]
  have F2b1 : w2.frozen? ⟨w.heap.size + 1, 1, none⟩ = false := by rw [ff _ _ (by simp <;> omega)]; simp [go_sem, *]
  have C2r0 : w2.cell? ⟨w.heap.size + 1 + 1, 0, none⟩ = some (.int .i64 0) := by rw [fc _ _ (by simp <;> omega)]; simp [go_sem, *]
  have F2r0 : w2.frozen? ⟨w.heap.size + 1 + 1, 0, none⟩ = false := by rw [ff _ _ (by simp <;> omega)]; simp [go_sem, *]
  have C2r1 : w2.cell? ⟨w.heap.size + 1 + 1, 1, none⟩ = some (.int .i64 0) := by rw [fc _ _ (by simp <;> omega)]; simp [go_sem, *]
  have F2r1 : w2.frozen? ⟨w.heap.size + 1 + 1, 1, none⟩ = false := by rw [ff _ _ (by simp <;> omega)]; simp [go_sem, *]
  clear fc ff
  have X2 : Ext w w2 := Ext.trans (by repeat (first | (with_reducible exact Ext.refl _) | (with_reducible assumption) | (with_reducible refine Ext.alloc ?_ _) | (with_reducible refine Ext.drewN ?_ _) | (with_reducible refine Ext.drew ?_) | (with_reducible refine Ext.setCell ?_ (by simp <;> omega) _))) hx
  clear hx C1a0 F1a0 C1a1 F1a1 C1b0 F1b0 C1b1 F1b1 C1r0 F1r0 C1r1 F1r1 X1
  have gs0 : w.heap.size < w2.heap.size := by omega
  have gs1 : w.heap.size + 1 < w2.heap.size := by omega
  have gs2 : w.heap.size + 1 + 1 < w2.heap.size := by omega
  clear fs fs0 fs1 fs2 gs
  simp only [List.drop_succ_cons, List.drop_zero, GE.out, HE.out]
  go_wp2_with fail
  have ks0 : w.heap.size < w2.heap.size + 1 + 1 := by omega
  have ks1 : w.heap.size + 1 < w2.heap.size + 1 + 1 := by omega
  have ks2 : w.heap.size + 1 + 1 < w2.heap.size + 1 + 1 := by omega
  have hgN : ¬ g = 0 := by omega
  have hhN : ¬ h = 0 := by omega
  have da0 : (0 : Int) ≤ (a1.natAbs : Int) / (g : Int) := Int.ediv_nonneg (by omega) (by omega)
  have da1 : (a1.natAbs : Int) / (g : Int) ≤ 9223372036854775808 := Int.le_trans (Int.ediv_le_self _ (by omega)) (by omega)
  have da2 : IntKind.u64.wrap ((a1.natAbs : Int) / (g : Int)) = (a1.natAbs : Int) / (g : Int) := by rw [IntKind.wrap_u64]; omega
  have db0 : (0 : Int) ≤ (b1.natAbs : Int) / (h : Int) := Int.ediv_nonneg (by omega) (by omega)
  have db1 : (b1.natAbs : Int) / (h : Int) ≤ 9223372036854775808 := Int.le_trans (Int.ediv_le_self _ (by omega)) (by omega)
  have db2 : IntKind.u64.wrap ((b1.natAbs : Int) / (h : Int)) = (b1.natAbs : Int) / (h : Int) := by rw [IntKind.wrap_u64]; omega
  have dc0 : (0 : Int) ≤ (a2.natAbs : Int) / (h : Int) := Int.ediv_nonneg (by omega) (by omega)
  have dc1 : (a2.natAbs : Int) / (h : Int) ≤ 9223372036854775808 := Int.le_trans (Int.ediv_le_self _ (by omega)) (by omega)
  have dc2 : IntKind.u64.wrap ((a2.natAbs : Int) / (h : Int)) = (a2.natAbs : Int) / (h : Int) := by rw [IntKind.wrap_u64]; omega
  have dd0 : (0 : Int) ≤ (b2.natAbs : Int) / (g : Int) := Int.ediv_nonneg (by omega) (by omega)
  have dd1 : (b2.natAbs : Int) / (g : Int) ≤ 9223372036854775808 := Int.le_trans (Int.ediv_le_self _ (by omega)) (by omega)
  have dd2 : IntKind.u64.wrap ((b2.natAbs : Int) / (g : Int)) = (b2.natAbs : Int) / (g : Int) := by rw [IntKind.wrap_u64]; omega
  refine Go.Par.region 15 [13] (by kernel_rfl) (by kernel_rfl) (fun _ _ _ _ _ h => h) ?_
  simp only [List.take_succ_cons, List.take_zero]
  repeat (first
    | (apply step_val; (case hf => rfl); (case hw => (go_simp; done)); (case h => (intro w' hx fc; go_simp; (first | exact rfl | (go_at_call 32; exact (size_any _ (by omega) (by omega) _).mono (fun _ _ h => ⟨h.1, h.2 ▸ Ext.refl _⟩)) | (go_at_call 46; exact (mul64_any _ _ (by omega) (by omega) (by omega) (by omega) _).mono (fun _ _ h => ⟨h.1, h.2 ▸ Ext.refl _⟩))))); intro K hK; go_simp; refine hK _ ?_; clear hK K)
    | (apply step_skip; (case hw => (go_simp; done)); intro K hK; go_simp; refine hK _ ?_; clear hK K)
    | (apply step_pure; (case hw => (go_simp; done)); (case h => (intro w'; go_simp; exact rfl)); intro K hK; go_simp; refine hK _ ?_; clear hK K)
    | (apply step_make (mk := fun b => Value.pointer (some ⟨b, 0, none⟩)); (case hf => rfl); (case hw => (go_simp; done)); (case h => (intro w' hx; go_simp; exact rfl)); (case hno => kernel_rfl); simp only [List.nil_append, List.cons_append]))
  refine fin_none (fun w3 hx => ?_)
  have hs3 : w2.heap.size + 1 + 1 ≤ w3.heap.size := by simpa using hx.size
  obtain ⟨fc, ff⟩ := And.intro hx.cells hx.marks
  have C3a0 : w3.cell? ⟨w.heap.size, 0, none⟩ = some (.int .i64 a1) := by rw [fc _ _ (by simp <;> omega)]; simp [go_sem, *]
  have F3a0 : w3.frozen? ⟨w.heap.size, 0, none⟩ = false := by rw [ff _ _ (by simp <;> omega)]; simp [go_sem, *]
  have C3a1 : w3.cell? ⟨w.heap.size, 1, none⟩ = some (.int .i64 a2) := by rw [fc _ _ (by simp <;> omega)]; simp [go_sem, *]
  have F3a1 : w3.frozen? ⟨w.heap.size, 1, none⟩ = false := by rw [ff _ _ (by simp <;> omega)]; simp [go_sem, *]
  have C3b0 : w3.cell? ⟨w.heap.size + 1, 0, none⟩ = some (.int .i64 b1) := by rw [fc _ _ (by simp <;> omega)]; simp [go_sem, *]
  have F3b0 : w3.frozen? ⟨w.heap.size + 1, 0, none⟩ = false := by rw [ff _ _ (by simp <;> omega)]; simp [go_sem, *]
  have C3b1 : w3.cell? ⟨w.heap.size + 1, 1, none⟩ = some (.int .i64 b2) := by rw [fc _ _ (by simp <;> omega)]; simp [go_sem, *]
  have F3b1 : w3.frozen? ⟨w.heap.size + 1, 1, none⟩ = false := by rw [ff _ _ (by simp <;> omega)]; simp [go_sem, *]
  have C3r0 : w3.cell? ⟨w.heap.size + 1 + 1, 0, none⟩ = some (.int .i64 0) := by rw [fc _ _ (by simp <;> omega)]; simp [go_sem, *]
  have F3r0 : w3.frozen? ⟨w.heap.size + 1 + 1, 0, none⟩ = false := by rw [ff _ _ (by simp <;> omega)]; simp [go_sem, *]
  have C3r1 : w3.cell? ⟨w.heap.size + 1 + 1, 1, none⟩ = some (.int .i64 0) := by rw [fc _ _ (by simp <;> omega)]; simp [go_sem, *]
  have F3r1 : w3.frozen? ⟨w.heap.size + 1 + 1, 1, none⟩ = false := by rw [ff _ _ (by simp <;> omega)]; simp [go_sem, *]
  have C3n0 : w3.cell? ⟨w2.heap.size, 0, none⟩ = some (.bool s) := by rw [fc _ _ (by simp <;> omega)]; simp [go_sem, *]
  have F3n0 : w3.frozen? ⟨w2.heap.size, 0, none⟩ = false := by rw [ff _ _ (by simp <;> omega)]; simp [go_sem, *]
  have C3n1 : w3.cell? ⟨w2.heap.size, 1, none⟩ = some (.int .u64 (0)) := by rw [fc _ _ (by simp <;> omega)]; simp [go_sem, *]
  have F3n1 : w3.frozen? ⟨w2.heap.size, 1, none⟩ = false := by rw [ff _ _ (by simp <;> omega)]; simp [go_sem, *]
  have C3n2 : w3.cell? ⟨w2.heap.size, 2, none⟩ = some (.int .u64 (0)) := by rw [fc _ _ (by simp <;> omega)]; simp [go_sem, *]
  have F3n2 : w3.frozen? ⟨w2.heap.size, 2, none⟩ = false := by rw [ff _ _ (by simp <;> omega)]; simp [go_sem, *]
  have C3d0 : w3.cell? ⟨w2.heap.size + 1, 0, none⟩ = some (.bool false) := by rw [fc _ _ (by simp <;> omega)]; simp [go_sem, *]
  have F3d0 : w3.frozen? ⟨w2.heap.size + 1, 0, none⟩ = false := by rw [ff _ _ (by simp <;> omega)]; simp [go_sem, *]
  have C3d1 : w3.cell? ⟨w2.heap.size + 1, 1, none⟩ = some (.int .u64 (0)) := by rw [fc _ _ (by simp <;> omega)]; simp [go_sem, *]
  have F3d1 : w3.frozen? ⟨w2.heap.size + 1, 1, none⟩ = false := by rw [ff _ _ (by simp <;> omega)]; simp [go_sem, *]
  have C3d2 : w3.cell? ⟨w2.heap.size + 1, 2, none⟩ = some (.int .u64 (0)) := by rw [fc _ _ (by simp <;> omega)]; simp [go_sem, *]
  have F3d2 : w3.frozen? ⟨w2.heap.size + 1, 2, none⟩ = false := by rw [ff _ _ (by simp <;> omega)]; simp [go_sem, *]
  clear fc ff
  have X3 : Ext w w3 := Ext.trans (by repeat (first | (with_reducible exact Ext.refl _) | (with_reducible assumption) | (with_reducible refine Ext.alloc ?_ _) | (with_reducible refine Ext.drewN ?_ _) | (with_reducible refine Ext.drew ?_) | (with_reducible refine Ext.setCell ?_ (by simp <;> omega) _))) hx
  clear hx C2a0 F2a0 C2a1 F2a1 C2b0 F2b0 C2b1 F2b1 C2r0 F2r0 C2r1 F2r1 X2
  have js0 : w.heap.size < w3.heap.size := by omega
  have js1 : w.heap.size + 1 < w3.heap.size := by omega
  have js2 : w.heap.size + 1 + 1 < w3.heap.size := by omega
  have js3 : w2.heap.size < w3.heap.size := by omega
  have js4 : w2.heap.size + 1 < w3.heap.size := by omega
  have jn0 : ¬ w2.heap.size = w.heap.size := by omega
  have jn1 : ¬ w2.heap.size = w.heap.size + 1 := by omega
  have jn2 : ¬ w2.heap.size = w.heap.size + 1 + 1 := by omega
  generalize hmE : (a1.natAbs : Int) / (g : Int) * ((b1.natAbs : Int) / (h : Int)) = m at *
  have ME := Lib.hid hmE
  clear hmE
  simp only [List.drop_succ_cons, List.drop_zero]
  go_wp2_with fail
  refine Go.Par.region 15 [13] (by kernel_rfl) (by kernel_rfl) (fun _ _ _ _ _ h => h) ?_
  simp only [List.take_succ_cons, List.take_zero]
  repeat (first
    | (apply step_val; (case hf => rfl); (case hw => (go_simp; done)); (case h => (intro w' hx fc; go_simp; (first | exact rfl | (go_at_call 32; exact (size_any _ (by omega) (by omega) _).mono (fun _ _ h => ⟨h.1, h.2 ▸ Ext.refl _⟩)) | (go_at_call 46; exact (mul64_any _ _ (by omega) (by omega) (by omega) (by omega) _).mono (fun _ _ h => ⟨h.1, h.2 ▸ Ext.refl _⟩))))); intro K hK; go_simp; refine hK _ ?_; clear hK K)
    | (apply step_skip; (case hw => (go_simp; done)); intro K hK; go_simp; refine hK _ ?_; clear hK K)
    | (apply step_pure; (case hw => (go_simp; done)); (case h => (intro w'; go_simp; exact rfl)); intro K hK; go_simp; refine hK _ ?_; clear hK K)
    | (apply step_make (mk := fun b => Value.pointer (some ⟨b, 0, none⟩)); (case hf => rfl); (case hw => (go_simp; done)); (case h => (intro w' hx; go_simp; exact rfl)); (case hno => kernel_rfl); simp only [List.nil_append, List.cons_append]))
  refine fin_none (fun w4 hx => ?_)
  have hs4 : w3.heap.size ≤ w4.heap.size := by simpa using hx.size
  obtain ⟨fc, ff⟩ := And.intro hx.cells hx.marks
  have C4r0 : w4.cell? ⟨w.heap.size + 1 + 1, 0, none⟩ = some (.int .i64 0) := by rw [fc _ _ (by simp <;> omega)]; simp [go_sem, *]
  have F4r0 : w4.frozen? ⟨w.heap.size + 1 + 1, 0, none⟩ = false := by rw [ff _ _ (by simp <;> omega)]; simp [go_sem, *]
  have C4r1 : w4.cell? ⟨w.heap.size + 1 + 1, 1, none⟩ = some (.int .i64 0) := by rw [fc _ _ (by simp <;> omega)]; simp [go_sem, *]
  have F4r1 : w4.frozen? ⟨w.heap.size + 1 + 1, 1, none⟩ = false := by rw [ff _ _ (by simp <;> omega)]; simp [go_sem, *]
  have C4n0 : w4.cell? ⟨w2.heap.size, 0, none⟩ = some (.bool s) := by rw [fc _ _ (by simp <;> omega)]; simp [go_sem, *]
  have F4n0 : w4.frozen? ⟨w2.heap.size, 0, none⟩ = false := by rw [ff _ _ (by simp <;> omega)]; simp [go_sem, *]
  have C4n1 : w4.cell? ⟨w2.heap.size, 1, none⟩ = some (.int .u64 (m / 18446744073709551616)) := by rw [fc _ _ (by simp <;> omega)]; simp [go_sem, *]
  have F4n1 : w4.frozen? ⟨w2.heap.size, 1, none⟩ = false := by rw [ff _ _ (by simp <;> omega)]; simp [go_sem, *]
  have C4n2 : w4.cell? ⟨w2.heap.size, 2, none⟩ = some (.int .u64 (m % 18446744073709551616)) := by rw [fc _ _ (by simp <;> omega)]; simp [go_sem, *]
  have F4n2 : w4.frozen? ⟨w2.heap.size, 2, none⟩ = false := by rw [ff _ _ (by simp <;> omega)]; simp [go_sem, *]
  have C4d0 : w4.cell? ⟨w2.heap.size + 1, 0, none⟩ = some (.bool false) := by rw [fc _ _ (by simp <;> omega)]; simp [go_sem, *]
  have F4d0 : w4.frozen? ⟨w2.heap.size + 1, 0, none⟩ = false := by rw [ff _ _ (by simp <;> omega)]; simp [go_sem, *]
  have C4d1 : w4.cell? ⟨w2.heap.size + 1, 1, none⟩ = some (.int .u64 (0)) := by rw [fc _ _ (by simp <;> omega)]; simp [go_sem, *]
  have F4d1 : w4.frozen? ⟨w2.heap.size + 1, 1, none⟩ = false := by rw [ff _ _ (by simp <;> omega)]; simp [go_sem, *]
  have C4d2 : w4.cell? ⟨w2.heap.size + 1, 2, none⟩ = some (.int .u64 (0)) := by rw [fc _ _ (by simp <;> omega)]; simp [go_sem, *]
  have F4d2 : w4.frozen? ⟨w2.heap.size + 1, 2, none⟩ = false := by rw [ff _ _ (by simp <;> omega)]; simp [go_sem, *]
  clear fc ff
  have X4 : Ext w w4 := Ext.trans (by repeat (first | (with_reducible exact Ext.refl _) | (with_reducible assumption) | (with_reducible refine Ext.alloc ?_ _) | (with_reducible refine Ext.drewN ?_ _) | (with_reducible refine Ext.drew ?_) | (with_reducible refine Ext.setCell ?_ (by simp <;> omega) _))) hx
  clear hx C3a0 F3a0 C3a1 F3a1 C3b0 F3b0 C3b1 F3b1 C3r0 F3r0 C3r1 F3r1 C3n0 F3n0 C3n1 F3n1 C3n2 F3n2 C3d0 F3d0 C3d1 F3d1 C3d2 F3d2 X3
  have ls2 : w.heap.size + 1 + 1 < w4.heap.size := by omega
  have ls3 : w2.heap.size < w4.heap.size := by omega
  have ls4 : w2.heap.size + 1 < w4.heap.size := by omega
  generalize hdE : (a2.natAbs : Int) / (h : Int) * ((b2.natAbs : Int) / (g : Int)) = d at *
  have DE := Lib.hid hdE
  clear hdE
  simp only [List.drop_succ_cons, List.drop_zero]
  go_wp2_with fail
  have hm0 : 0 ≤ m := by have := ME.out; rw [← this]; exact Int.mul_nonneg da0 db0
  have hd0 : 0 ≤ d := by have := DE.out; rw [← this]; exact Int.mul_nonneg dc0 dd0
  refine (result_any s false _ _ _ _ (by omega) (by omega) (by omega) (by omega) (by omega) (by omega) _).mono ?_
  rw [show m / 18446744073709551616 * 18446744073709551616 + m % 18446744073709551616 = m by omega, show d / 18446744073709551616 * 18446744073709551616 + d % 18446744073709551616 = d by omega]
  generalize hr : res s m d = r
  obtain ⟨x, y, c⟩ := r
  have HR := Lib.hid hr
  clear hr
  rintro e w' ⟨rfl, o1, o2, o3, rfl⟩
  have lt1 : w.heap.size + 1 + 1 < w4.heap.size + 1 := by omega
  have lt2 : w.heap.size + 1 + 1 < w4.heap.size + 1 + 1 := by omega
  have lt3 : w.heap.size + 1 + 1 < w4.heap.size + 1 + 1 + 1 := by omega
  have ne1 : ¬ w.heap.size + 1 + 1 = w4.heap.size := by omega
  have ne2 : ¬ w.heap.size + 1 + 1 = w4.heap.size + 1 := by omega
  have ne3 : ¬ w.heap.size + 1 + 1 = w4.heap.size + 1 + 1 := by omega
  have ne4 : ¬ w2.heap.size + 1 = w.heap.size + 1 + 1 := by omega
  go_wp2_with fail
  refine bodyPost_ret (v := .tuple #[.agg #[.int .i64 x, .int .i64 y], .int .i64 c]) ?_ rfl ⟨by rw [HR.out], (by repeat (first | (with_reducible exact Ext.refl _) | (with_reducible assumption) | (with_reducible refine Ext.alloc ?_ _) | (with_reducible refine Ext.drewN ?_ _) | (with_reducible refine Ext.drew ?_) | (with_reducible refine Ext.setCell ?_ (by simp <;> omega) _)))⟩
  simp [results, Tryd.results27, go_sem, *]
end Go.Proofs.YtifhgkdajnngnaaDoor
