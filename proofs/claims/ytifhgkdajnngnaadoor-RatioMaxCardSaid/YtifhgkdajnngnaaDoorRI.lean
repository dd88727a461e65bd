/- Contracts of package ratio: Add, Sub; the codes of what they hand back. -/
import Derived.Test.YtifhgkdajnngnaaDoorRH
namespace Go.Proofs.YtifhgkdajnngnaaDoor
open Go.RowKit Go.Par

set_option maxHeartbeats 400000 in
theorem add_ok (an ad bn bd : Int) (w : World) (va : validB an ad = true) (vb : validB bn bd = true) (ia : InI an) (ja : InI ad) (ib : InI bn) (jb : InI bd) :
    Calls Tryd.prog 23 #[.agg #[.int .i64 an, .int .i64 ad], .agg #[.int .i64 bn, .int .i64 bd]] w (RetR (sumR (oneP an ad).1 (oneP an ad).2 (oneP bn bd).1 (oneP bn bd).2 false) w) := by
  have HC := Lib.hid (fun W : World => sum_ok an ad bn bd false W va vb ia ja ib jb)
  clear va vb ia ja ib jb
  generalize hr : (sumR (oneP an ad).1 (oneP an ad).2 (oneP bn bd).1 (oneP bn bd).2 false : Int × Int × Int) = r at *
  obtain ⟨rx, ry, rc⟩ := r
  clear hr
  go_enter Tryd.func23, Tryd.ntmps23
  go_wp2_with fail
  refine (HC.out _).mono ?_
  rintro e' w1 ⟨rfl, hx⟩
  have fs : w.heap.size + 1 + 1 + 1 ≤ w1.heap.size := by simpa using hx.size
  obtain ⟨fc, ff⟩ := And.intro hx.cells hx.marks
  have C1r0 : w1.cell? ⟨w.heap.size + 1 + 1, 0, none⟩ = some (.int .i64 0) := by rw [fc _ _ (by first | omega | (simp; omega) | simp)]; simp [go_sem, *]
  have F1r0 : w1.frozen? ⟨w.heap.size + 1 + 1, 0, none⟩ = false := by rw [ff _ _ (by first | omega | (simp; omega) | simp)]; simp [go_sem, *]
  have C1r1 : w1.cell? ⟨w.heap.size + 1 + 1, 1, none⟩ = some (.int .i64 0) := by rw [fc _ _ (by first | omega | (simp; omega) | simp)]; simp [go_sem, *]
  have F1r1 : w1.frozen? ⟨w.heap.size + 1 + 1, 1, none⟩ = false := by rw [ff _ _ (by first | omega | (simp; omega) | simp)]; simp [go_sem, *]
  clear fc ff
  have X1 : Ext w w1 := Ext.trans (by repeat (first | (with_reducible exact Ext.refl _) | (with_reducible assumption) | (with_reducible refine Ext.alloc ?_ _) | (with_reducible refine Ext.drewN ?_ _) | (with_reducible refine Ext.drew ?_) | (with_reducible refine Ext.setCell ?_ (by simp <;> omega) _))) hx
  clear hx
  go_wp2_with fail
  refine bodyPost_ret (v := .tuple #[.agg #[.int .i64 rx, .int .i64 ry], .int .i64 rc]) ?_ rfl ⟨rfl, (by repeat (first | (with_reducible exact Ext.refl _) | (with_reducible assumption) | (with_reducible refine Ext.alloc ?_ _) | (with_reducible refine Ext.drewN ?_ _) | (with_reducible refine Ext.drew ?_) | (with_reducible refine Ext.setCell ?_ (by simp <;> omega) _)))⟩
  simp [results, Tryd.results23, go_sem, *]

set_option maxHeartbeats 400000 in
theorem add_bad (an ad bn bd : Int) (w : World) (h : validB an ad = false ∨ validB bn bd = false) (ia : InI an) (ja : InI ad) (ib : InI bn) (jb : InI bd) :
    Calls Tryd.prog 23 #[.agg #[.int .i64 an, .int .i64 ad], .agg #[.int .i64 bn, .int .i64 bd]] w (RetR ((0, 0, 1)) w) := by
  have HC := Lib.hid (fun W : World => sum_bad an ad bn bd false W h ia ja ib jb)
  clear h ia ja ib jb
  generalize hr : ((0, 0, 1) : Int × Int × Int) = r at *
  obtain ⟨rx, ry, rc⟩ := r
  clear hr
  go_enter Tryd.func23, Tryd.ntmps23
  go_wp2_with fail
  refine (HC.out _).mono ?_
  rintro e' w1 ⟨rfl, hx⟩
  have fs : w.heap.size + 1 + 1 + 1 ≤ w1.heap.size := by simpa using hx.size
  obtain ⟨fc, ff⟩ := And.intro hx.cells hx.marks
  have C1r0 : w1.cell? ⟨w.heap.size + 1 + 1, 0, none⟩ = some (.int .i64 0) := by rw [fc _ _ (by first | omega | (simp; omega) | simp)]; simp [go_sem, *]
  have F1r0 : w1.frozen? ⟨w.heap.size + 1 + 1, 0, none⟩ = false := by rw [ff _ _ (by first | omega | (simp; omega) | simp)]; simp [go_sem, *]
  have C1r1 : w1.cell? ⟨w.heap.size + 1 + 1, 1, none⟩ = some (.int .i64 0) := by rw [fc _ _ (by first | omega | (simp; omega) | simp)]; simp [go_sem, *]
  have F1r1 : w1.frozen? ⟨w.heap.size + 1 + 1, 1, none⟩ = false := by rw [ff _ _ (by first | omega | (simp; omega) | simp)]; simp [go_sem, *]
  clear fc ff
  have X1 : Ext w w1 := Ext.trans (by repeat (first | (with_reducible exact Ext.refl _) | (with_reducible assumption) | (with_reducible refine Ext.alloc ?_ _) | (with_reducible refine Ext.drewN ?_ _) | (with_reducible refine Ext.drew ?_) | (with_reducible refine Ext.setCell ?_ (by simp <;> omega) _))) hx
  clear hx
  go_wp2_with fail
  refine bodyPost_ret (v := .tuple #[.agg #[.int .i64 rx, .int .i64 ry], .int .i64 rc]) ?_ rfl ⟨rfl, (by repeat (first | (with_reducible exact Ext.refl _) | (with_reducible assumption) | (with_reducible refine Ext.alloc ?_ _) | (with_reducible refine Ext.drewN ?_ _) | (with_reducible refine Ext.drew ?_) | (with_reducible refine Ext.setCell ?_ (by simp <;> omega) _)))⟩
  simp [results, Tryd.results23, go_sem, *]

set_option maxHeartbeats 400000 in
theorem sub_ok (an ad bn bd : Int) (w : World) (va : validB an ad = true) (vb : validB bn bd = true) (ia : InI an) (ja : InI ad) (ib : InI bn) (jb : InI bd) :
    Calls Tryd.prog 24 #[.agg #[.int .i64 an, .int .i64 ad], .agg #[.int .i64 bn, .int .i64 bd]] w (RetR (sumR (oneP an ad).1 (oneP an ad).2 (oneP bn bd).1 (oneP bn bd).2 true) w) := by
  have HC := Lib.hid (fun W : World => sum_ok an ad bn bd true W va vb ia ja ib jb)
  clear va vb ia ja ib jb
  generalize hr : (sumR (oneP an ad).1 (oneP an ad).2 (oneP bn bd).1 (oneP bn bd).2 true : Int × Int × Int) = r at *
  obtain ⟨rx, ry, rc⟩ := r
  clear hr
  go_enter Tryd.func24, Tryd.ntmps24
  go_wp2_with fail
  refine (HC.out _).mono ?_
  rintro e' w1 ⟨rfl, hx⟩
  have fs : w.heap.size + 1 + 1 + 1 ≤ w1.heap.size := by simpa using hx.size
  obtain ⟨fc, ff⟩ := And.intro hx.cells hx.marks
  have C1r0 : w1.cell? ⟨w.heap.size + 1 + 1, 0, none⟩ = some (.int .i64 0) := by rw [fc _ _ (by first | omega | (simp; omega) | simp)]; simp [go_sem, *]
  have F1r0 : w1.frozen? ⟨w.heap.size + 1 + 1, 0, none⟩ = false := by rw [ff _ _ (by first | omega | (simp; omega) | simp)]; simp [go_sem, *]
  have C1r1 : w1.cell? ⟨w.heap.size + 1 + 1, 1, none⟩ = some (.int .i64 0) := by rw [fc _ _ (by first | omega | (simp; omega) | simp)]; simp [go_sem, *]
  have F1r1 : w1.frozen? ⟨w.heap.size + 1 + 1, 1, none⟩ = false := by rw [ff _ _ (by first | omega | (simp; omega) | simp)]; simp [go_sem, *]
  clear fc ff
  have X1 : Ext w w1 := Ext.trans (by repeat (first | (with_reducible exact Ext.refl _) | (with_reducible assumption) | (with_reducible refine Ext.alloc ?_ _) | (with_reducible refine Ext.drewN ?_ _) | (with_reducible refine Ext.drew ?_) | (with_reducible refine Ext.setCell ?_ (by simp <;> omega) _))) hx
  clear hx
  go_wp2_with fail
  refine bodyPost_ret (v := .tuple #[.agg #[.int .i64 rx, .int .i64 ry], .int .i64 rc]) ?_ rfl ⟨rfl, (by repeat (first | (with_reducible exact Ext.refl _) | (with_reducible assumption) | (with_reducible refine Ext.alloc ?_ _) | (with_reducible refine Ext.drewN ?_ _) | (with_reducible refine Ext.drew ?_) | (with_reducible refine Ext.setCell ?_ (by simp <;> omega) _)))⟩
  simp [results, Tryd.results24, go_sem, *]

set_option maxHeartbeats 400000 in
theorem sub_bad (an ad bn bd : Int) (w : World) (h : validB an ad = false ∨ validB bn bd = false) (ia : InI an) (ja : InI ad) (ib : InI bn) (jb : InI bd) :
    Calls Tryd.prog 24 #[.agg #[.int .i64 an, .int .i64 ad], .agg #[.int .i64 bn, .int .i64 bd]] w (RetR ((0, 0, 1)) w) := by
  have HC := Lib.hid (fun W : World => sum_bad an ad bn bd true W h ia ja ib jb)
  clear h ia ja ib jb
  generalize hr : ((0, 0, 1) : Int × Int × Int) = r at *
  obtain ⟨rx, ry, rc⟩ := r
  clear hr
  go_enter Tryd.func24, Tryd.ntmps24
  go_wp2_with fail
  refine (HC.out _).mono ?_
  rintro e' w1 ⟨rfl, hx⟩
  have fs : w.heap.size + 1 + 1 + 1 ≤ w1.heap.size := by simpa using hx.size
  obtain ⟨fc, ff⟩ := And.intro hx.cells hx.marks
  have C1r0 : w1.cell? ⟨w.heap.size + 1 + 1, 0, none⟩ = some (.int .i64 0) := by rw [fc _ _ (by first | omega | (simp; omega) | simp)]; simp [go_sem, *]
  have F1r0 : w1.frozen? ⟨w.heap.size + 1 + 1, 0, none⟩ = false := by rw [ff _ _ (by first | omega | (simp; omega) | simp)]; simp [go_sem, *]
  have C1r1 : w1.cell? ⟨w.heap.size + 1 + 1, 1, none⟩ = some (.int .i64 0) := by rw [fc _ _ (by first | omega | (simp; omega) | simp)]; simp [go_sem, *]
  have F1r1 : w1.frozen? ⟨w.heap.size + 1 + 1, 1, none⟩ = false := by rw [ff _ _ (by first | omega | (simp; omega) | simp)]; simp [go_sem, *]
  clear fc ff
  have X1 : Ext w w1 := Ext.trans (by repeat (first | (with_reducible exact Ext.refl _) | (with_reducible assumption) | (with_reducible refine Ext.alloc ?_ _) | (with_reducible refine Ext.drewN ?_ _) | (with_reducible refine Ext.drew ?_) | (with_reducible refine Ext.setCell ?_ (by simp <;> omega) _))) hx
  clear hx
  go_wp2_with fail
  refine bodyPost_ret (v := .tuple #[.agg #[.int .i64 rx, .int .i64 ry], .int .i64 rc]) ?_ rfl ⟨rfl, (by repeat (first | (with_reducible exact Ext.refl _) | (with_reducible assumption) | (with_reducible refine Ext.alloc ?_ _) | (with_reducible refine Ext.drewN ?_ _) | (with_reducible refine Ext.drew ?_) | (with_reducible refine Ext.setCell ?_ (by simp <;> omega) _)))⟩
  simp [results, Tryd.results24, go_sem, *]

end Go.Proofs.YtifhgkdajnngnaaDoor
