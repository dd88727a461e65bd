/- The walks of RatioLaws (function 9), under contracts of its callees. -/
import Derived.Test.YtifhgkdajnngnaaDoorRW
namespace Go.Proofs.YtifhgkdajnngnaaDoor
open Go.RowKit Go.Par

set_option maxRecDepth 100000 in
set_option maxHeartbeats 1000000 in
theorem laws_va (an ad bn bd cn cd : Int) (w : World) (G : Globs w) (hVa : ∀ W : World, Calls Tryd.prog 17 #[.agg #[.int .i64 an, .int .i64 ad]] W fun e w' => e = .returned (.bool false) ∧ Ext W w')  :
    Calls Tryd.prog 9 #[.agg #[.int .i64 an, .int .i64 ad], .agg #[.int .i64 bn, .int .i64 bd], .agg #[.int .i64 cn, .int .i64 cd]] w fun e w' => e = .returned (.bool true) ∧ Ext w w' := by
  have HA := Lib.hid (fun W (G : Globs W) => awake_any W G)
  have HG := Lib.hid G
  have HVa := Lib.hid hVa
  clear G hVa
  go_enter Tryd.func9, Tryd.ntmps9
  go_wp2_with fail
  refine (HA.out _ (HG.out.ext (by repeat (first | (with_reducible exact Ext.refl _) | (with_reducible assumption) | (with_reducible refine Ext.alloc ?_ _) | (with_reducible refine Ext.drewN ?_ _) | (with_reducible refine Ext.drew ?_) | (with_reducible refine Ext.setCell ?_ (by simp <;> omega) _))))).mono ?_
  rintro e w1 ⟨rfl, hx⟩
  have fs1 : w.heap.size + 1 + 1 + 1 ≤ w1.heap.size := by simpa using hx.size
  obtain ⟨fc, ff⟩ := And.intro hx.cells hx.marks
  have C1a0 : w1.cell? ⟨w.heap.size, 0, none⟩ = some (.int .i64 an) := by rw [fc _ _ (by first | omega | (simp; omega) | simp)]; simp [go_sem, *]
  have F1a0 : w1.frozen? ⟨w.heap.size, 0, none⟩ = false := by rw [ff _ _ (by first | omega | (simp; omega) | simp)]; simp [go_sem, *]
  have C1a1 : w1.cell? ⟨w.heap.size, 1, none⟩ = some (.int .i64 ad) := by rw [fc _ _ (by first | omega | (simp; omega) | simp)]; simp [go_sem, *]
  have F1a1 : w1.frozen? ⟨w.heap.size, 1, none⟩ = false := by rw [ff _ _ (by first | omega | (simp; omega) | simp)]; simp [go_sem, *]
  have C1b0 : w1.cell? ⟨w.heap.size + 1, 0, none⟩ = some (.int .i64 bn) := by rw [fc _ _ (by first | omega | (simp; omega) | simp)]; simp [go_sem, *]
  have F1b0 : w1.frozen? ⟨w.heap.size + 1, 0, none⟩ = false := by rw [ff _ _ (by first | omega | (simp; omega) | simp)]; simp [go_sem, *]
  have C1b1 : w1.cell? ⟨w.heap.size + 1, 1, none⟩ = some (.int .i64 bd) := by rw [fc _ _ (by first | omega | (simp; omega) | simp)]; simp [go_sem, *]
  have F1b1 : w1.frozen? ⟨w.heap.size + 1, 1, none⟩ = false := by rw [ff _ _ (by first | omega | (simp; omega) | simp)]; simp [go_sem, *]
  have C1c0 : w1.cell? ⟨w.heap.size + 1 + 1, 0, none⟩ = some (.int .i64 cn) := by rw [fc _ _ (by first | omega | (simp; omega) | simp)]; simp [go_sem, *]
  have F1c0 : w1.frozen? ⟨w.heap.size + 1 + 1, 0, none⟩ = false := by rw [ff _ _ (by first | omega | (simp; omega) | simp)]; simp [go_sem, *]
  have C1c1 : w1.cell? ⟨w.heap.size + 1 + 1, 1, none⟩ = some (.int .i64 cd) := by rw [fc _ _ (by first | omega | (simp; omega) | simp)]; simp [go_sem, *]
  have F1c1 : w1.frozen? ⟨w.heap.size + 1 + 1, 1, none⟩ = false := by rw [ff _ _ (by first | omega | (simp; omega) | simp)]; simp [go_sem, *]
  clear fc ff
  have X1 : Ext w w1 := Ext.trans (by repeat (first | (with_reducible exact Ext.refl _) | (with_reducible assumption) | (with_reducible refine Ext.alloc ?_ _) | (with_reducible refine Ext.drewN ?_ _) | (with_reducible refine Ext.drew ?_) | (with_reducible refine Ext.setCell ?_ (by simp <;> omega) _))) hx
  clear hx 
  have l1a : w.heap.size < w1.heap.size := by omega
  have l1b : w.heap.size + 1 < w1.heap.size := by omega
  have l1c : w.heap.size + 1 + 1 < w1.heap.size := by omega
  go_wp2_with fail
  refine (HVa.out _).mono ?_
  rintro e w2 ⟨rfl, hx⟩
  have fs2 : w1.heap.size ≤ w2.heap.size := by simpa using hx.size
  obtain ⟨fc, ff⟩ := And.intro hx.cells hx.marks
  have C2a0 : w2.cell? ⟨w.heap.size, 0, none⟩ = some (.int .i64 an) := by rw [fc _ _ (by first | omega | (simp; omega) | simp)]; simp [go_sem, *]
  have F2a0 : w2.frozen? ⟨w.heap.size, 0, none⟩ = false := by rw [ff _ _ (by first | omega | (simp; omega) | simp)]; simp [go_sem, *]
  have C2a1 : w2.cell? ⟨w.heap.size, 1, none⟩ = some (.int .i64 ad) := by rw [fc _ _ (by first | omega | (simp; omega) | simp)]; simp [go_sem, *]
  have F2a1 : w2.frozen? ⟨w.heap.size, 1, none⟩ = false := by rw [ff _ _ (by first | omega | (simp; omega) | simp)]; simp [go_sem, *]
  have C2b0 : w2.cell? ⟨w.heap.size + 1, 0, none⟩ = some (.int .i64 bn) := by rw [fc _ _ (by first | omega | (simp; omega) | simp)]; simp [go_sem, *]
  have F2b0 : w2.frozen? ⟨w.heap.size + 1, 0, none⟩ = false := by rw [ff _ _ (by first | omega | (simp; omega) | simp)]; simp [go_sem, *]
  have C2b1 : w2.cell? ⟨w.heap.size + 1, 1, none⟩ = some (.int .i64 bd) := by rw [fc _ _ (by first | omega | (simp; omega) | simp)]; simp [go_sem, *]
  have F2b1 : w2.frozen? ⟨w.heap.size + 1, 1, none⟩ = false := by rw [ff _ _ (by first | omega | (simp; omega) | simp)]; simp [go_sem, *]
  have C2c0 : w2.cell? ⟨w.heap.size + 1 + 1, 0, none⟩ = some (.int .i64 cn) := by rw [fc _ _ (by first | omega | (simp; omega) | simp)]; simp [go_sem, *]
  have F2c0 : w2.frozen? ⟨w.heap.size + 1 + 1, 0, none⟩ = false := by rw [ff _ _ (by first | omega | (simp; omega) | simp)]; simp [go_sem, *]
  have C2c1 : w2.cell? ⟨w.heap.size + 1 + 1, 1, none⟩ = some (.int .i64 cd) := by rw [fc _ _ (by first | omega | (simp; omega) | simp)]; simp [go_sem, *]
  have F2c1 : w2.frozen? ⟨w.heap.size + 1 + 1, 1, none⟩ = false := by rw [ff _ _ (by first | omega | (simp; omega) | simp)]; simp [go_sem, *]
  clear fc ff
  have X2 : Ext w w2 := Ext.trans (by repeat (first | (with_reducible exact Ext.refl _) | (with_reducible assumption) | (with_reducible refine Ext.alloc ?_ _) | (with_reducible refine Ext.drewN ?_ _) | (with_reducible refine Ext.drew ?_) | (with_reducible refine Ext.setCell ?_ (by simp <;> omega) _))) hx
  clear hx X1 C1a0 F1a0 C1a1 F1a1 C1b0 F1b0 C1b1 F1b1 C1c0 F1c0 C1c1 F1c1
  have l2a : w.heap.size < w2.heap.size := by omega
  have l2b : w.heap.size + 1 < w2.heap.size := by omega
  have l2c : w.heap.size + 1 + 1 < w2.heap.size := by omega
  go_wp2_with fail
  refine (HA.out _ (HG.out.ext (by repeat (first | (with_reducible exact Ext.refl _) | (with_reducible assumption) | (with_reducible refine Ext.alloc ?_ _) | (with_reducible refine Ext.drewN ?_ _) | (with_reducible refine Ext.drew ?_) | (with_reducible refine Ext.setCell ?_ (by simp <;> omega) _))))).mono ?_
  rintro e w3 ⟨rfl, hx⟩
  have fs3 : w2.heap.size ≤ w3.heap.size := by simpa using hx.size
  obtain ⟨fc, ff⟩ := And.intro hx.cells hx.marks
  have C3a0 : w3.cell? ⟨w.heap.size, 0, none⟩ = some (.int .i64 an) := by rw [fc _ _ (by first | omega | (simp; omega) | simp)]; simp [go_sem, *]
  have F3a0 : w3.frozen? ⟨w.heap.size, 0, none⟩ = false := by rw [ff _ _ (by first | omega | (simp; omega) | simp)]; simp [go_sem, *]
  have C3a1 : w3.cell? ⟨w.heap.size, 1, none⟩ = some (.int .i64 ad) := by rw [fc _ _ (by first | omega | (simp; omega) | simp)]; simp [go_sem, *]
  have F3a1 : w3.frozen? ⟨w.heap.size, 1, none⟩ = false := by rw [ff _ _ (by first | omega | (simp; omega) | simp)]; simp [go_sem, *]
  have C3b0 : w3.cell? ⟨w.heap.size + 1, 0, none⟩ = some (.int .i64 bn) := by rw [fc _ _ (by first | omega | (simp; omega) | simp)]; simp [go_sem, *]
  have F3b0 : w3.frozen? ⟨w.heap.size + 1, 0, none⟩ = false := by rw [ff _ _ (by first | omega | (simp; omega) | simp)]; simp [go_sem, *]
  have C3b1 : w3.cell? ⟨w.heap.size + 1, 1, none⟩ = some (.int .i64 bd) := by rw [fc _ _ (by first | omega | (simp; omega) | simp)]; simp [go_sem, *]
  have F3b1 : w3.frozen? ⟨w.heap.size + 1, 1, none⟩ = false := by rw [ff _ _ (by first | omega | (simp; omega) | simp)]; simp [go_sem, *]
  have C3c0 : w3.cell? ⟨w.heap.size + 1 + 1, 0, none⟩ = some (.int .i64 cn) := by rw [fc _ _ (by first | omega | (simp; omega) | simp)]; simp [go_sem, *]
  have F3c0 : w3.frozen? ⟨w.heap.size + 1 + 1, 0, none⟩ = false := by rw [ff _ _ (by first | omega | (simp; omega) | simp)]; simp [go_sem, *]
  have C3c1 : w3.cell? ⟨w.heap.size + 1 + 1, 1, none⟩ = some (.int .i64 cd) := by rw [fc _ _ (by first | omega | (simp; omega) | simp)]; simp [go_sem, *]
  have F3c1 : w3.frozen? ⟨w.heap.size + 1 + 1, 1, none⟩ = false := by rw [ff _ _ (by first | omega | (simp; omega) | simp)]; simp [go_sem, *]
  clear fc ff
  have X3 : Ext w w3 := Ext.trans (by repeat (first | (with_reducible exact Ext.refl _) | (with_reducible assumption) | (with_reducible refine Ext.alloc ?_ _) | (with_reducible refine Ext.drewN ?_ _) | (with_reducible refine Ext.drew ?_) | (with_reducible refine Ext.setCell ?_ (by simp <;> omega) _))) hx
  clear hx X2 C2a0 F2a0 C2a1 F2a1 C2b0 F2b0 C2b1 F2b1 C2c0 F2c0 C2c1 F2c1
  have l3a : w.heap.size < w3.heap.size := by omega
  have l3b : w.heap.size + 1 < w3.heap.size := by omega
  have l3c : w.heap.size + 1 + 1 < w3.heap.size := by omega
  go_wp2_with fail
  go_ret
  exact ⟨rfl, (by repeat (first | (with_reducible exact Ext.refl _) | (with_reducible assumption) | (with_reducible refine Ext.alloc ?_ _) | (with_reducible refine Ext.drewN ?_ _) | (with_reducible refine Ext.drew ?_) | (with_reducible refine Ext.setCell ?_ (by simp <;> omega) _)))⟩

set_option maxRecDepth 100000 in
set_option maxHeartbeats 1000000 in
theorem laws_vb (an ad bn bd cn cd : Int) (w : World) (G : Globs w) (hVa : ∀ W : World, Calls Tryd.prog 17 #[.agg #[.int .i64 an, .int .i64 ad]] W fun e w' => e = .returned (.bool true) ∧ Ext W w') (hVb : ∀ W : World, Calls Tryd.prog 17 #[.agg #[.int .i64 bn, .int .i64 bd]] W fun e w' => e = .returned (.bool false) ∧ Ext W w')  :
    Calls Tryd.prog 9 #[.agg #[.int .i64 an, .int .i64 ad], .agg #[.int .i64 bn, .int .i64 bd], .agg #[.int .i64 cn, .int .i64 cd]] w fun e w' => e = .returned (.bool true) ∧ Ext w w' := by
  have HA := Lib.hid (fun W (G : Globs W) => awake_any W G)
  have HG := Lib.hid G
  have HVa := Lib.hid hVa
  have HVb := Lib.hid hVb
  clear G hVa hVb
  go_enter Tryd.func9, Tryd.ntmps9
  go_wp2_with fail
  refine (HA.out _ (HG.out.ext (by repeat (first | (with_reducible exact Ext.refl _) | (with_reducible assumption) | (with_reducible refine Ext.alloc ?_ _) | (with_reducible refine Ext.drewN ?_ _) | (with_reducible refine Ext.drew ?_) | (with_reducible refine Ext.setCell ?_ (by simp <;> omega) _))))).mono ?_
  rintro e w1 ⟨rfl, hx⟩
  have fs1 : w.heap.size + 1 + 1 + 1 ≤ w1.heap.size := by simpa using hx.size
  obtain ⟨fc, ff⟩ := And.intro hx.cells hx.marks
  have C1a0 : w1.cell? ⟨w.heap.size, 0, none⟩ = some (.int .i64 an) := by rw [fc _ _ (by first | omega | (simp; omega) | simp)]; simp [go_sem, *]
  have F1a0 : w1.frozen? ⟨w.heap.size, 0, none⟩ = false := by rw [ff _ _ (by first | omega | (simp; omega) | simp)]; simp [go_sem, *]
  have C1a1 : w1.cell? ⟨w.heap.size, 1, none⟩ = some (.int .i64 ad) := by rw [fc _ _ (by first | omega | (simp; omega) | simp)]; simp [go_sem, *]
  have F1a1 : w1.frozen? ⟨w.heap.size, 1, none⟩ = false := by rw [ff _ _ (by first | omega | (simp; omega) | simp)]; simp [go_sem, *]
  have C1b0 : w1.cell? ⟨w.heap.size + 1, 0, none⟩ = some (.int .i64 bn) := by rw [fc _ _ (by first | omega | (simp; omega) | simp)]; simp [go_sem, *]
  have F1b0 : w1.frozen? ⟨w.heap.size + 1, 0, none⟩ = false := by rw [ff _ _ (by first | omega | (simp; omega) | simp)]; simp [go_sem, *]
  have C1b1 : w1.cell? ⟨w.heap.size + 1, 1, none⟩ = some (.int .i64 bd) := by rw [fc _ _ (by first | omega | (simp; omega) | simp)]; simp [go_sem, *]
  have F1b1 : w1.frozen? ⟨w.heap.size + 1, 1, none⟩ = false := by rw [ff _ _ (by first | omega | (simp; omega) | simp)]; simp [go_sem, *]
  have C1c0 : w1.cell? ⟨w.heap.size + 1 + 1, 0, none⟩ = some (.int .i64 cn) := by rw [fc _ _ (by first | omega | (simp; omega) | simp)]; simp [go_sem, *]
  have F1c0 : w1.frozen? ⟨w.heap.size + 1 + 1, 0, none⟩ = false := by rw [ff _ _ (by first | omega | (simp; omega) | simp)]; simp [go_sem, *]
  have C1c1 : w1.cell? ⟨w.heap.size + 1 + 1, 1, none⟩ = some (.int .i64 cd) := by rw [fc _ _ (by first | omega | (simp; omega) | simp)]; simp [go_sem, *]
  have F1c1 : w1.frozen? ⟨w.heap.size + 1 + 1, 1, none⟩ = false := by rw [ff _ _ (by first | omega | (simp; omega) | simp)]; simp [go_sem, *]
  clear fc ff
  have X1 : Ext w w1 := Ext.trans (by repeat (first | (with_reducible exact Ext.refl _) | (with_reducible assumption) | (with_reducible refine Ext.alloc ?_ _) | (with_reducible refine Ext.drewN ?_ _) | (with_reducible refine Ext.drew ?_) | (with_reducible refine Ext.setCell ?_ (by simp <;> omega) _))) hx
  clear hx 
  have l1a : w.heap.size < w1.heap.size := by omega
  have l1b : w.heap.size + 1 < w1.heap.size := by omega
  have l1c : w.heap.size + 1 + 1 < w1.heap.size := by omega
  go_wp2_with fail
  refine (HVa.out _).mono ?_
  rintro e w2 ⟨rfl, hx⟩
  have fs2 : w1.heap.size ≤ w2.heap.size := by simpa using hx.size
  obtain ⟨fc, ff⟩ := And.intro hx.cells hx.marks
  have C2a0 : w2.cell? ⟨w.heap.size, 0, none⟩ = some (.int .i64 an) := by rw [fc _ _ (by first | omega | (simp; omega) | simp)]; simp [go_sem, *]
  have F2a0 : w2.frozen? ⟨w.heap.size, 0, none⟩ = false := by rw [ff _ _ (by first | omega | (simp; omega) | simp)]; simp [go_sem, *]
  have C2a1 : w2.cell? ⟨w.heap.size, 1, none⟩ = some (.int .i64 ad) := by rw [fc _ _ (by first | omega | (simp; omega) | simp)]; simp [go_sem, *]
  have F2a1 : w2.frozen? ⟨w.heap.size, 1, none⟩ = false := by rw [ff _ _ (by first | omega | (simp; omega) | simp)]; simp [go_sem, *]
  have C2b0 : w2.cell? ⟨w.heap.size + 1, 0, none⟩ = some (.int .i64 bn) := by rw [fc _ _ (by first | omega | (simp; omega) | simp)]; simp [go_sem, *]
  have F2b0 : w2.frozen? ⟨w.heap.size + 1, 0, none⟩ = false := by rw [ff _ _ (by first | omega | (simp; omega) | simp)]; simp [go_sem, *]
  have C2b1 : w2.cell? ⟨w.heap.size + 1, 1, none⟩ = some (.int .i64 bd) := by rw [fc _ _ (by first | omega | (simp; omega) | simp)]; simp [go_sem, *]
  have F2b1 : w2.frozen? ⟨w.heap.size + 1, 1, none⟩ = false := by rw [ff _ _ (by first | omega | (simp; omega) | simp)]; simp [go_sem, *]
  have C2c0 : w2.cell? ⟨w.heap.size + 1 + 1, 0, none⟩ = some (.int .i64 cn) := by rw [fc _ _ (by first | omega | (simp; omega) | simp)]; simp [go_sem, *]
  have F2c0 : w2.frozen? ⟨w.heap.size + 1 + 1, 0, none⟩ = false := by rw [ff _ _ (by first | omega | (simp; omega) | simp)]; simp [go_sem, *]
  have C2c1 : w2.cell? ⟨w.heap.size + 1 + 1, 1, none⟩ = some (.int .i64 cd) := by rw [fc _ _ (by first | omega | (simp; omega) | simp)]; simp [go_sem, *]
  have F2c1 : w2.frozen? ⟨w.heap.size + 1 + 1, 1, none⟩ = false := by rw [ff _ _ (by first | omega | (simp; omega) | simp)]; simp [go_sem, *]
  clear fc ff
  have X2 : Ext w w2 := Ext.trans (by repeat (first | (with_reducible exact Ext.refl _) | (with_reducible assumption) | (with_reducible refine Ext.alloc ?_ _) | (with_reducible refine Ext.drewN ?_ _) | (with_reducible refine Ext.drew ?_) | (with_reducible refine Ext.setCell ?_ (by simp <;> omega) _))) hx
  clear hx X1 C1a0 F1a0 C1a1 F1a1 C1b0 F1b0 C1b1 F1b1 C1c0 F1c0 C1c1 F1c1
  have l2a : w.heap.size < w2.heap.size := by omega
  have l2b : w.heap.size + 1 < w2.heap.size := by omega
  have l2c : w.heap.size + 1 + 1 < w2.heap.size := by omega
  go_wp2_with fail
  refine (HVb.out _).mono ?_
  rintro e w3 ⟨rfl, hx⟩
  have fs3 : w2.heap.size ≤ w3.heap.size := by simpa using hx.size
  obtain ⟨fc, ff⟩ := And.intro hx.cells hx.marks
  have C3a0 : w3.cell? ⟨w.heap.size, 0, none⟩ = some (.int .i64 an) := by rw [fc _ _ (by first | omega | (simp; omega) | simp)]; simp [go_sem, *]
  have F3a0 : w3.frozen? ⟨w.heap.size, 0, none⟩ = false := by rw [ff _ _ (by first | omega | (simp; omega) | simp)]; simp [go_sem, *]
  have C3a1 : w3.cell? ⟨w.heap.size, 1, none⟩ = some (.int .i64 ad) := by rw [fc _ _ (by first | omega | (simp; omega) | simp)]; simp [go_sem, *]
  have F3a1 : w3.frozen? ⟨w.heap.size, 1, none⟩ = false := by rw [ff _ _ (by first | omega | (simp; omega) | simp)]; simp [go_sem, *]
  have C3b0 : w3.cell? ⟨w.heap.size + 1, 0, none⟩ = some (.int .i64 bn) := by rw [fc _ _ (by first | omega | (simp; omega) | simp)]; simp [go_sem, *]
  have F3b0 : w3.frozen? ⟨w.heap.size + 1, 0, none⟩ = false := by rw [ff _ _ (by first | omega | (simp; omega) | simp)]; simp [go_sem, *]
  have C3b1 : w3.cell? ⟨w.heap.size + 1, 1, none⟩ = some (.int .i64 bd) := by rw [fc _ _ (by first | omega | (simp; omega) | simp)]; simp [go_sem, *]
  have F3b1 : w3.frozen? ⟨w.heap.size + 1, 1, none⟩ = false := by rw [ff _ _ (by first | omega | (simp; omega) | simp)]; simp [go_sem, *]
  have C3c0 : w3.cell? ⟨w.heap.size + 1 + 1, 0, none⟩ = some (.int .i64 cn) := by rw [fc _ _ (by first | omega | (simp; omega) | simp)]; simp [go_sem, *]
  have F3c0 : w3.frozen? ⟨w.heap.size + 1 + 1, 0, none⟩ = false := by rw [ff _ _ (by first | omega | (simp; omega) | simp)]; simp [go_sem, *]
  have C3c1 : w3.cell? ⟨w.heap.size + 1 + 1, 1, none⟩ = some (.int .i64 cd) := by rw [fc _ _ (by first | omega | (simp; omega) | simp)]; simp [go_sem, *]
  have F3c1 : w3.frozen? ⟨w.heap.size + 1 + 1, 1, none⟩ = false := by rw [ff _ _ (by first | omega | (simp; omega) | simp)]; simp [go_sem, *]
  clear fc ff
  have X3 : Ext w w3 := Ext.trans (by repeat (first | (with_reducible exact Ext.refl _) | (with_reducible assumption) | (with_reducible refine Ext.alloc ?_ _) | (with_reducible refine Ext.drewN ?_ _) | (with_reducible refine Ext.drew ?_) | (with_reducible refine Ext.setCell ?_ (by simp <;> omega) _))) hx
  clear hx X2 C2a0 F2a0 C2a1 F2a1 C2b0 F2b0 C2b1 F2b1 C2c0 F2c0 C2c1 F2c1
  have l3a : w.heap.size < w3.heap.size := by omega
  have l3b : w.heap.size + 1 < w3.heap.size := by omega
  have l3c : w.heap.size + 1 + 1 < w3.heap.size := by omega
  go_wp2_with fail
  refine (HA.out _ (HG.out.ext (by repeat (first | (with_reducible exact Ext.refl _) | (with_reducible assumption) | (with_reducible refine Ext.alloc ?_ _) | (with_reducible refine Ext.drewN ?_ _) | (with_reducible refine Ext.drew ?_) | (with_reducible refine Ext.setCell ?_ (by simp <;> omega) _))))).mono ?_
  rintro e w4 ⟨rfl, hx⟩
  have fs4 : w3.heap.size ≤ w4.heap.size := by simpa using hx.size
  obtain ⟨fc, ff⟩ := And.intro hx.cells hx.marks
  have C4a0 : w4.cell? ⟨w.heap.size, 0, none⟩ = some (.int .i64 an) := by rw [fc _ _ (by first | omega | (simp; omega) | simp)]; simp [go_sem, *]
  have F4a0 : w4.frozen? ⟨w.heap.size, 0, none⟩ = false := by rw [ff _ _ (by first | omega | (simp; omega) | simp)]; simp [go_sem, *]
  have C4a1 : w4.cell? ⟨w.heap.size, 1, none⟩ = some (.int .i64 ad) := by rw [fc _ _ (by first | omega | (simp; omega) | simp)]; simp [go_sem, *]
  have F4a1 : w4.frozen? ⟨w.heap.size, 1, none⟩ = false := by rw [ff _ _ (by first | omega | (simp; omega) | simp)]; simp [go_sem, *]
  have C4b0 : w4.cell? ⟨w.heap.size + 1, 0, none⟩ = some (.int .i64 bn) := by rw [fc _ _ (by first | omega | (simp; omega) | simp)]; simp [go_sem, *]
  have F4b0 : w4.frozen? ⟨w.heap.size + 1, 0, none⟩ = false := by rw [ff _ _ (by first | omega | (simp; omega) | simp)]; simp [go_sem, *]
  have C4b1 : w4.cell? ⟨w.heap.size + 1, 1, none⟩ = some (.int .i64 bd) := by rw [fc _ _ (by first | omega | (simp; omega) | simp)]; simp [go_sem, *]
  have F4b1 : w4.frozen? ⟨w.heap.size + 1, 1, none⟩ = false := by rw [ff _ _ (by first | omega | (simp; omega) | simp)]; simp [go_sem, *]
  have C4c0 : w4.cell? ⟨w.heap.size + 1 + 1, 0, none⟩ = some (.int .i64 cn) := by rw [fc _ _ (by first | omega | (simp; omega) | simp)]; simp [go_sem, *]
  have F4c0 : w4.frozen? ⟨w.heap.size + 1 + 1, 0, none⟩ = false := by rw [ff _ _ (by first | omega | (simp; omega) | simp)]; simp [go_sem, *]
  have C4c1 : w4.cell? ⟨w.heap.size + 1 + 1, 1, none⟩ = some (.int .i64 cd) := by rw [fc _ _ (by first | omega | (simp; omega) | simp)]; simp [go_sem, *]
  have F4c1 : w4.frozen? ⟨w.heap.size + 1 + 1, 1, none⟩ = false := by rw [ff _ _ (by first | omega | (simp; omega) | simp)]; simp [go_sem, *]
  clear fc ff
  have X4 : Ext w w4 := Ext.trans (by repeat (first | (with_reducible exact Ext.refl _) | (with_reducible assumption) | (with_reducible refine Ext.alloc ?_ _) | (with_reducible refine Ext.drewN ?_ _) | (with_reducible refine Ext.drew ?_) | (with_reducible refine Ext.setCell ?_ (by simp <;> omega) _))) hx
  clear hx X3 C3a0 F3a0 C3a1 F3a1 C3b0 F3b0 C3b1 F3b1 C3c0 F3c0 C3c1 F3c1
  have l4a : w.heap.size < w4.heap.size := by omega
  have l4b : w.heap.size + 1 < w4.heap.size := by omega
  have l4c : w.heap.size + 1 + 1 < w4.heap.size := by omega
  go_wp2_with fail
  go_ret
  exact ⟨rfl, (by repeat (first | (with_reducible exact Ext.refl _) | (with_reducible assumption) | (with_reducible refine Ext.alloc ?_ _) | (with_reducible refine Ext.drewN ?_ _) | (with_reducible refine Ext.drew ?_) | (with_reducible refine Ext.setCell ?_ (by simp <;> omega) _)))⟩

set_option maxRecDepth 100000 in
set_option maxHeartbeats 1000000 in
theorem laws_vc (an ad bn bd cn cd : Int) (w : World) (G : Globs w) (hVa : ∀ W : World, Calls Tryd.prog 17 #[.agg #[.int .i64 an, .int .i64 ad]] W fun e w' => e = .returned (.bool true) ∧ Ext W w') (hVb : ∀ W : World, Calls Tryd.prog 17 #[.agg #[.int .i64 bn, .int .i64 bd]] W fun e w' => e = .returned (.bool true) ∧ Ext W w') (hVc : ∀ W : World, Calls Tryd.prog 17 #[.agg #[.int .i64 cn, .int .i64 cd]] W fun e w' => e = .returned (.bool false) ∧ Ext W w')  :
    Calls Tryd.prog 9 #[.agg #[.int .i64 an, .int .i64 ad], .agg #[.int .i64 bn, .int .i64 bd], .agg #[.int .i64 cn, .int .i64 cd]] w fun e w' => e = .returned (.bool true) ∧ Ext w w' := by
  have HA := Lib.hid (fun W (G : Globs W) => awake_any W G)
  have HG := Lib.hid G
  have HVa := Lib.hid hVa
  have HVb := Lib.hid hVb
  have HVc := Lib.hid hVc
  clear G hVa hVb hVc
  go_enter Tryd.func9, Tryd.ntmps9
  go_wp2_with fail
  refine (HA.out _ (HG.out.ext (by repeat (first | (with_reducible exact Ext.refl _) | (with_reducible assumption) | (with_reducible refine Ext.alloc ?_ _) | (with_reducible refine Ext.drewN ?_ _) | (with_reducible refine Ext.drew ?_) | (with_reducible refine Ext.setCell ?_ (by simp <;> omega) _))))).mono ?_
  rintro e w1 ⟨rfl, hx⟩
  have fs1 : w.heap.size + 1 + 1 + 1 ≤ w1.heap.size := by simpa using hx.size
  obtain ⟨fc, ff⟩ := And.intro hx.cells hx.marks
  have C1a0 : w1.cell? ⟨w.heap.size, 0, none⟩ = some (.int .i64 an) := by rw [fc _ _ (by first | omega | (simp; omega) | simp)]; simp [go_sem, *]
  have F1a0 : w1.frozen? ⟨w.heap.size, 0, none⟩ = false := by rw [ff _ _ (by first | omega | (simp; omega) | simp)]; simp [go_sem, *]
  have C1a1 : w1.cell? ⟨w.heap.size, 1, none⟩ = some (.int .i64 ad) := by rw [fc _ _ (by first | omega | (simp; omega) | simp)]; simp [go_sem, *]
  have F1a1 : w1.frozen? ⟨w.heap.size, 1, none⟩ = false := by rw [ff _ _ (by first | omega | (simp; omega) | simp)]; simp [go_sem, *]
  have C1b0 : w1.cell? ⟨w.heap.size + 1, 0, none⟩ = some (.int .i64 bn) := by rw [fc _ _ (by first | omega | (simp; omega) | simp)]; simp [go_sem, *]
  have F1b0 : w1.frozen? ⟨w.heap.size + 1, 0, none⟩ = false := by rw [ff _ _ (by first | omega | (simp; omega) | simp)]; simp [go_sem, *]
  have C1b1 : w1.cell? ⟨w.heap.size + 1, 1, none⟩ = some (.int .i64 bd) := by rw [fc _ _ (by first | omega | (simp; omega) | simp)]; simp [go_sem, *]
  have F1b1 : w1.frozen? ⟨w.heap.size + 1, 1, none⟩ = false := by rw [ff _ _ (by first | omega | (simp; omega) | simp)]; simp [go_sem, *]
  have C1c0 : w1.cell? ⟨w.heap.size + 1 + 1, 0, none⟩ = some (.int .i64 cn) := by rw [fc _ _ (by first | omega | (simp; omega) | simp)]; simp [go_sem, *]
  have F1c0 : w1.frozen? ⟨w.heap.size + 1 + 1, 0, none⟩ = false := by rw [ff _ _ (by first | omega | (simp; omega) | simp)]; simp [go_sem, *]
  have C1c1 : w1.cell? ⟨w.heap.size + 1 + 1, 1, none⟩ = some (.int .i64 cd) := by rw [fc _ _ (by first | omega | (simp; omega) | simp)]; simp [go_sem, *]
  have F1c1 : w1.frozen? ⟨w.heap.size + 1 + 1, 1, none⟩ = false := by rw [ff _ _ (by first | omega | (simp; omega) | simp)]; simp [go_sem, *]
  clear fc ff
  have X1 : Ext w w1 := Ext.trans (by repeat (first | (with_reducible exact Ext.refl _) | (with_reducible assumption) | (with_reducible refine Ext.alloc ?_ _) | (with_reducible refine Ext.drewN ?_ _) | (with_reducible refine Ext.drew ?_) | (with_reducible refine Ext.setCell ?_ (by simp <;> omega) _))) hx
  clear hx 
  have l1a : w.heap.size < w1.heap.size := by omega
  have l1b : w.heap.size + 1 < w1.heap.size := by omega
  have l1c : w.heap.size + 1 + 1 < w1.heap.size := by omega
  go_wp2_with fail
  refine (HVa.out _).mono ?_
  rintro e w2 ⟨rfl, hx⟩
  have fs2 : w1.heap.size ≤ w2.heap.size := by simpa using hx.size
  obtain ⟨fc, ff⟩ := And.intro hx.cells hx.marks
  have C2a0 : w2.cell? ⟨w.heap.size, 0, none⟩ = some (.int .i64 an) := by rw [fc _ _ (by first | omega | (simp; omega) | simp)]; simp [go_sem, *]
  have F2a0 : w2.frozen? ⟨w.heap.size, 0, none⟩ = false := by rw [ff _ _ (by first | omega | (simp; omega) | simp)]; simp [go_sem, *]
  have C2a1 : w2.cell? ⟨w.heap.size, 1, none⟩ = some (.int .i64 ad) := by rw [fc _ _ (by first | omega | (simp; omega) | simp)]; simp [go_sem, *]
  have F2a1 : w2.frozen? ⟨w.heap.size, 1, none⟩ = false := by rw [ff _ _ (by first | omega | (simp; omega) | simp)]; simp [go_sem, *]
  have C2b0 : w2.cell? ⟨w.heap.size + 1, 0, none⟩ = some (.int .i64 bn) := by rw [fc _ _ (by first | omega | (simp; omega) | simp)]; simp [go_sem, *]
  have F2b0 : w2.frozen? ⟨w.heap.size + 1, 0, none⟩ = false := by rw [ff _ _ (by first | omega | (simp; omega) | simp)]; simp [go_sem, *]
  have C2b1 : w2.cell? ⟨w.heap.size + 1, 1, none⟩ = some (.int .i64 bd) := by rw [fc _ _ (by first | omega | (simp; omega) | simp)]; simp [go_sem, *]
  have F2b1 : w2.frozen? ⟨w.heap.size + 1, 1, none⟩ = false := by rw [ff _ _ (by first | omega | (simp; omega) | simp)]; simp [go_sem, *]
  have C2c0 : w2.cell? ⟨w.heap.size + 1 + 1, 0, none⟩ = some (.int .i64 cn) := by rw [fc _ _ (by first | omega | (simp; omega) | simp)]; simp [go_sem, *]
  have F2c0 : w2.frozen? ⟨w.heap.size + 1 + 1, 0, none⟩ = false := by rw [ff _ _ (by first | omega | (simp; omega) | simp)]; simp [go_sem, *]
  have C2c1 : w2.cell? ⟨w.heap.size + 1 + 1, 1, none⟩ = some (.int .i64 cd) := by rw [fc _ _ (by first | omega | (simp; omega) | simp)]; simp [go_sem, *]
  have F2c1 : w2.frozen? ⟨w.heap.size + 1 + 1, 1, none⟩ = false := by rw [ff _ _ (by first | omega | (simp; omega) | simp)]; simp [go_sem, *]
  clear fc ff
  have X2 : Ext w w2 := Ext.trans (by repeat (first | (with_reducible exact Ext.refl _) | (with_reducible assumption) | (with_reducible refine Ext.alloc ?_ _) | (with_reducible refine Ext.drewN ?_ _) | (with_reducible refine Ext.drew ?_) | (with_reducible refine Ext.setCell ?_ (by simp <;> omega) _))) hx
  clear hx X1 C1a0 F1a0 C1a1 F1a1 C1b0 F1b0 C1b1 F1b1 C1c0 F1c0 C1c1 F1c1
  have l2a : w.heap.size < w2.heap.size := by omega
  have l2b : w.heap.size + 1 < w2.heap.size := by omega
  have l2c : w.heap.size + 1 + 1 < w2.heap.size := by omega
  go_wp2_with fail
  refine (HVb.out _).mono ?_
  rintro e w3 ⟨rfl, hx⟩
  have fs3 : w2.heap.size ≤ w3.heap.size := by simpa using hx.size
  obtain ⟨fc, ff⟩ := And.intro hx.cells hx.marks
  have C3a0 : w3.cell? ⟨w.heap.size, 0, none⟩ = some (.int .i64 an) := by rw [fc _ _ (by first | omega | (simp; omega) | simp)]; simp [go_sem, *]
  have F3a0 : w3.frozen? ⟨w.heap.size, 0, none⟩ = false := by rw [ff _ _ (by first | omega | (simp; omega) | simp)]; simp [go_sem, *]
  have C3a1 : w3.cell? ⟨w.heap.size, 1, none⟩ = some (.int .i64 ad) := by rw [fc _ _ (by first | omega | (simp; omega) | simp)]; simp [go_sem, *]
  have F3a1 : w3.frozen? ⟨w.heap.size, 1, none⟩ = false := by rw [ff _ _ (by first | omega | (simp; omega) | simp)]; simp [go_sem, *]
  have C3b0 : w3.cell? ⟨w.heap.size + 1, 0, none⟩ = some (.int .i64 bn) := by rw [fc _ _ (by first | omega | (simp; omega) | simp)]; simp [go_sem, *]
  have F3b0 : w3.frozen? ⟨w.heap.size + 1, 0, none⟩ = false := by rw [ff _ _ (by first | omega | (simp; omega) | simp)]; simp [go_sem, *]
  have C3b1 : w3.cell? ⟨w.heap.size + 1, 1, none⟩ = some (.int .i64 bd) := by rw [fc _ _ (by first | omega | (simp; omega) | simp)]; simp [go_sem, *]
  have F3b1 : w3.frozen? ⟨w.heap.size + 1, 1, none⟩ = false := by rw [ff _ _ (by first | omega | (simp; omega) | simp)]; simp [go_sem, *]
  have C3c0 : w3.cell? ⟨w.heap.size + 1 + 1, 0, none⟩ = some (.int .i64 cn) := by rw [fc _ _ (by first | omega | (simp; omega) | simp)]; simp [go_sem, *]
  have F3c0 : w3.frozen? ⟨w.heap.size + 1 + 1, 0, none⟩ = false := by rw [ff _ _ (by first | omega | (simp; omega) | simp)]; simp [go_sem, *]
  have C3c1 : w3.cell? ⟨w.heap.size + 1 + 1, 1, none⟩ = some (.int .i64 cd) := by rw [fc _ _ (by first | omega | (simp; omega) | simp)]; simp [go_sem, *]
  have F3c1 : w3.frozen? ⟨w.heap.size + 1 + 1, 1, none⟩ = false := by rw [ff _ _ (by first | omega | (simp; omega) | simp)]; simp [go_sem, *]
  clear fc ff
  have X3 : Ext w w3 := Ext.trans (by repeat (first | (with_reducible exact Ext.refl _) | (with_reducible assumption) | (with_reducible refine Ext.alloc ?_ _) | (with_reducible refine Ext.drewN ?_ _) | (with_reducible refine Ext.drew ?_) | (with_reducible refine Ext.setCell ?_ (by simp <;> omega) _))) hx
  clear hx X2 C2a0 F2a0 C2a1 F2a1 C2b0 F2b0 C2b1 F2b1 C2c0 F2c0 C2c1 F2c1
  have l3a : w.heap.size < w3.heap.size := by omega
  have l3b : w.heap.size + 1 < w3.heap.size := by omega
  have l3c : w.heap.size + 1 + 1 < w3.heap.size := by omega
  go_wp2_with fail
  refine (HVc.out _).mono ?_
  rintro e w4 ⟨rfl, hx⟩
  have fs4 : w3.heap.size ≤ w4.heap.size := by simpa using hx.size
  obtain ⟨fc, ff⟩ := And.intro hx.cells hx.marks
  have C4a0 : w4.cell? ⟨w.heap.size, 0, none⟩ = some (.int .i64 an) := by rw [fc _ _ (by first | omega | (simp; omega) | simp)]; simp [go_sem, *]
  have F4a0 : w4.frozen? ⟨w.heap.size, 0, none⟩ = false := by rw [ff _ _ (by first | omega | (simp; omega) | simp)]; simp [go_sem, *]
  have C4a1 : w4.cell? ⟨w.heap.size, 1, none⟩ = some (.int .i64 ad) := by rw [fc _ _ (by first | omega | (simp; omega) | simp)]; simp [go_sem, *]
  have F4a1 : w4.frozen? ⟨w.heap.size, 1, none⟩ = false := by rw [ff _ _ (by first | omega | (simp; omega) | simp)]; simp [go_sem, *]
  have C4b0 : w4.cell? ⟨w.heap.size + 1, 0, none⟩ = some (.int .i64 bn) := by rw [fc _ _ (by first | omega | (simp; omega) | simp)]; simp [go_sem, *]
  have F4b0 : w4.frozen? ⟨w.heap.size + 1, 0, none⟩ = false := by rw [ff _ _ (by first | omega | (simp; omega) | simp)]; simp [go_sem, *]
  have C4b1 : w4.cell? ⟨w.heap.size + 1, 1, none⟩ = some (.int .i64 bd) := by rw [fc _ _ (by first | omega | (simp; omega) | simp)]; simp [go_sem, *]
  have F4b1 : w4.frozen? ⟨w.heap.size + 1, 1, none⟩ = false := by rw [ff _ _ (by first | omega | (simp; omega) | simp)]; simp [go_sem, *]
  have C4c0 : w4.cell? ⟨w.heap.size + 1 + 1, 0, none⟩ = some (.int .i64 cn) := by rw [fc _ _ (by first | omega | (simp; omega) | simp)]; simp [go_sem, *]
  have F4c0 : w4.frozen? ⟨w.heap.size + 1 + 1, 0, none⟩ = false := by rw [ff _ _ (by first | omega | (simp; omega) | simp)]; simp [go_sem, *]
  have C4c1 : w4.cell? ⟨w.heap.size + 1 + 1, 1, none⟩ = some (.int .i64 cd) := by rw [fc _ _ (by first | omega | (simp; omega) | simp)]; simp [go_sem, *]
  have F4c1 : w4.frozen? ⟨w.heap.size + 1 + 1, 1, none⟩ = false := by rw [ff _ _ (by first | omega | (simp; omega) | simp)]; simp [go_sem, *]
  clear fc ff
  have X4 : Ext w w4 := Ext.trans (by repeat (first | (with_reducible exact Ext.refl _) | (with_reducible assumption) | (with_reducible refine Ext.alloc ?_ _) | (with_reducible refine Ext.drewN ?_ _) | (with_reducible refine Ext.drew ?_) | (with_reducible refine Ext.setCell ?_ (by simp <;> omega) _))) hx
  clear hx X3 C3a0 F3a0 C3a1 F3a1 C3b0 F3b0 C3b1 F3b1 C3c0 F3c0 C3c1 F3c1
  have l4a : w.heap.size < w4.heap.size := by omega
  have l4b : w.heap.size + 1 < w4.heap.size := by omega
  have l4c : w.heap.size + 1 + 1 < w4.heap.size := by omega
  go_wp2_with fail
  refine (HA.out _ (HG.out.ext (by repeat (first | (with_reducible exact Ext.refl _) | (with_reducible assumption) | (with_reducible refine Ext.alloc ?_ _) | (with_reducible refine Ext.drewN ?_ _) | (with_reducible refine Ext.drew ?_) | (with_reducible refine Ext.setCell ?_ (by simp <;> omega) _))))).mono ?_
  rintro e w5 ⟨rfl, hx⟩
  have fs5 : w4.heap.size ≤ w5.heap.size := by simpa using hx.size
  obtain ⟨fc, ff⟩ := And.intro hx.cells hx.marks
  have C5a0 : w5.cell? ⟨w.heap.size, 0, none⟩ = some (.int .i64 an) := by rw [fc _ _ (by first | omega | (simp; omega) | simp)]; simp [go_sem, *]
  have F5a0 : w5.frozen? ⟨w.heap.size, 0, none⟩ = false := by rw [ff _ _ (by first | omega | (simp; omega) | simp)]; simp [go_sem, *]
  have C5a1 : w5.cell? ⟨w.heap.size, 1, none⟩ = some (.int .i64 ad) := by rw [fc _ _ (by first | omega | (simp; omega) | simp)]; simp [go_sem, *]
  have F5a1 : w5.frozen? ⟨w.heap.size, 1, none⟩ = false := by rw [ff _ _ (by first | omega | (simp; omega) | simp)]; simp [go_sem, *]
  have C5b0 : w5.cell? ⟨w.heap.size + 1, 0, none⟩ = some (.int .i64 bn) := by rw [fc _ _ (by first | omega | (simp; omega) | simp)]; simp [go_sem, *]
  have F5b0 : w5.frozen? ⟨w.heap.size + 1, 0, none⟩ = false := by rw [ff _ _ (by first | omega | (simp; omega) | simp)]; simp [go_sem, *]
  have C5b1 : w5.cell? ⟨w.heap.size + 1, 1, none⟩ = some (.int .i64 bd) := by rw [fc _ _ (by first | omega | (simp; omega) | simp)]; simp [go_sem, *]
  have F5b1 : w5.frozen? ⟨w.heap.size + 1, 1, none⟩ = false := by rw [ff _ _ (by first | omega | (simp; omega) | simp)]; simp [go_sem, *]
  have C5c0 : w5.cell? ⟨w.heap.size + 1 + 1, 0, none⟩ = some (.int .i64 cn) := by rw [fc _ _ (by first | omega | (simp; omega) | simp)]; simp [go_sem, *]
  have F5c0 : w5.frozen? ⟨w.heap.size + 1 + 1, 0, none⟩ = false := by rw [ff _ _ (by first | omega | (simp; omega) | simp)]; simp [go_sem, *]
  have C5c1 : w5.cell? ⟨w.heap.size + 1 + 1, 1, none⟩ = some (.int .i64 cd) := by rw [fc _ _ (by first | omega | (simp; omega) | simp)]; simp [go_sem, *]
  have F5c1 : w5.frozen? ⟨w.heap.size + 1 + 1, 1, none⟩ = false := by rw [ff _ _ (by first | omega | (simp; omega) | simp)]; simp [go_sem, *]
  clear fc ff
  have X5 : Ext w w5 := Ext.trans (by repeat (first | (with_reducible exact Ext.refl _) | (with_reducible assumption) | (with_reducible refine Ext.alloc ?_ _) | (with_reducible refine Ext.drewN ?_ _) | (with_reducible refine Ext.drew ?_) | (with_reducible refine Ext.setCell ?_ (by simp <;> omega) _))) hx
  clear hx X4 C4a0 F4a0 C4a1 F4a1 C4b0 F4b0 C4b1 F4b1 C4c0 F4c0 C4c1 F4c1
  have l5a : w.heap.size < w5.heap.size := by omega
  have l5b : w.heap.size + 1 < w5.heap.size := by omega
  have l5c : w.heap.size + 1 + 1 < w5.heap.size := by omega
  go_wp2_with fail
  go_ret
  exact ⟨rfl, (by repeat (first | (with_reducible exact Ext.refl _) | (with_reducible assumption) | (with_reducible refine Ext.alloc ?_ _) | (with_reducible refine Ext.drewN ?_ _) | (with_reducible refine Ext.drew ?_) | (with_reducible refine Ext.setCell ?_ (by simp <;> omega) _)))⟩

set_option maxRecDepth 100000 in
set_option maxHeartbeats 1000000 in
theorem laws_0 (an ad bn bd cn cd s1 s2 p1 p2 pe x1 x2 y1 y2 z1 z2 v1 v2 xe ye ze ve : Int) (w : World) (G : Globs w) (hVa : ∀ W : World, Calls Tryd.prog 17 #[.agg #[.int .i64 an, .int .i64 ad]] W fun e w' => e = .returned (.bool true) ∧ Ext W w') (hVb : ∀ W : World, Calls Tryd.prog 17 #[.agg #[.int .i64 bn, .int .i64 bd]] W fun e w' => e = .returned (.bool true) ∧ Ext W w') (hVc : ∀ W : World, Calls Tryd.prog 17 #[.agg #[.int .i64 cn, .int .i64 cd]] W fun e w' => e = .returned (.bool true) ∧ Ext W w') (hSab : ∀ W : World, Calls Tryd.prog 23 #[.agg #[.int .i64 an, .int .i64 ad], .agg #[.int .i64 bn, .int .i64 bd]] W fun e w' => e = .returned (.tuple #[.agg #[.int .i64 s1, .int .i64 s2], .int .i64 3]) ∧ Ext W w') (hSba : ∀ W : World, Calls Tryd.prog 23 #[.agg #[.int .i64 bn, .int .i64 bd], .agg #[.int .i64 an, .int .i64 ad]] W fun e w' => e = .returned (.tuple #[.agg #[.int .i64 s1, .int .i64 s2], .int .i64 3]) ∧ Ext W w') (hPab : ∀ W : World, Calls Tryd.prog 27 #[.agg #[.int .i64 an, .int .i64 ad], .agg #[.int .i64 bn, .int .i64 bd]] W fun e w' => e = .returned (.tuple #[.agg #[.int .i64 p1, .int .i64 p2], .int .i64 pe]) ∧ Ext W w') (hPba : ∀ W : World, Calls Tryd.prog 27 #[.agg #[.int .i64 bn, .int .i64 bd], .agg #[.int .i64 an, .int .i64 ad]] W fun e w' => e = .returned (.tuple #[.agg #[.int .i64 p1, .int .i64 p2], .int .i64 pe]) ∧ Ext W w') (hX : ∀ W : World, Calls Tryd.prog 27 #[.agg #[.int .i64 s1, .int .i64 s2], .agg #[.int .i64 cn, .int .i64 cd]] W fun e w' => e = .returned (.tuple #[.agg #[.int .i64 x1, .int .i64 x2], .int .i64 xe]) ∧ Ext W w') (hY : ∀ W : World, Calls Tryd.prog 27 #[.agg #[.int .i64 an, .int .i64 ad], .agg #[.int .i64 cn, .int .i64 cd]] W fun e w' => e = .returned (.tuple #[.agg #[.int .i64 y1, .int .i64 y2], .int .i64 ye]) ∧ Ext W w') (hZ : ∀ W : World, Calls Tryd.prog 27 #[.agg #[.int .i64 bn, .int .i64 bd], .agg #[.int .i64 cn, .int .i64 cd]] W fun e w' => e = .returned (.tuple #[.agg #[.int .i64 z1, .int .i64 z2], .int .i64 ze]) ∧ Ext W w') (hW : ∀ W : World, Calls Tryd.prog 23 #[.agg #[.int .i64 y1, .int .i64 y2], .agg #[.int .i64 z1, .int .i64 z2]] W fun e w' => e = .returned (.tuple #[.agg #[.int .i64 v1, .int .i64 v2], .int .i64 ve]) ∧ Ext W w')  :
    Calls Tryd.prog 9 #[.agg #[.int .i64 an, .int .i64 ad], .agg #[.int .i64 bn, .int .i64 bd], .agg #[.int .i64 cn, .int .i64 cd]] w fun e w' => e = .returned (.bool true) ∧ Ext w w' := by
  have HA := Lib.hid (fun W (G : Globs W) => awake_any W G)
  have HG := Lib.hid G
  have HVa := Lib.hid hVa
  have HVb := Lib.hid hVb
  have HVc := Lib.hid hVc
  have HSab := Lib.hid hSab
  have HSba := Lib.hid hSba
  have HPab := Lib.hid hPab
  have HPba := Lib.hid hPba
  have HX := Lib.hid hX
  have HY := Lib.hid hY
  have HZ := Lib.hid hZ
  have HW := Lib.hid hW
  clear G hVa hVb hVc hSab hSba hPab hPba hX hY hZ hW
  go_enter Tryd.func9, Tryd.ntmps9
  go_wp2_with fail
  refine (HA.out _ (HG.out.ext (by repeat (first | (with_reducible exact Ext.refl _) | (with_reducible assumption) | (with_reducible refine Ext.alloc ?_ _) | (with_reducible refine Ext.drewN ?_ _) | (with_reducible refine Ext.drew ?_) | (with_reducible refine Ext.setCell ?_ (by simp <;> omega) _))))).mono ?_
  rintro e w1 ⟨rfl, hx⟩
  have fs1 : w.heap.size + 1 + 1 + 1 ≤ w1.heap.size := by simpa using hx.size
  obtain ⟨fc, ff⟩ := And.intro hx.cells hx.marks
  have C1a0 : w1.cell? ⟨w.heap.size, 0, none⟩ = some (.int .i64 an) := by rw [fc _ _ (by first | omega | (simp; omega) | simp)]; simp [go_sem, *]
  have F1a0 : w1.frozen? ⟨w.heap.size, 0, none⟩ = false := by rw [ff _ _ (by first | omega | (simp; omega) | simp)]; simp [go_sem, *]
  have C1a1 : w1.cell? ⟨w.heap.size, 1, none⟩ = some (.int .i64 ad) := by rw [fc _ _ (by first | omega | (simp; omega) | simp)]; simp [go_sem, *]
  have F1a1 : w1.frozen? ⟨w.heap.size, 1, none⟩ = false := by rw [ff _ _ (by first | omega | (simp; omega) | simp)]; simp [go_sem, *]
  have C1b0 : w1.cell? ⟨w.heap.size + 1, 0, none⟩ = some (.int .i64 bn) := by rw [fc _ _ (by first | omega | (simp; omega) | simp)]; simp [go_sem, *]
  have F1b0 : w1.frozen? ⟨w.heap.size + 1, 0, none⟩ = false := by rw [ff _ _ (by first | omega | (simp; omega) | simp)]; simp [go_sem, *]
  have C1b1 : w1.cell? ⟨w.heap.size + 1, 1, none⟩ = some (.int .i64 bd) := by rw [fc _ _ (by first | omega | (simp; omega) | simp)]; simp [go_sem, *]
  have F1b1 : w1.frozen? ⟨w.heap.size + 1, 1, none⟩ = false := by rw [ff _ _ (by first | omega | (simp; omega) | simp)]; simp [go_sem, *]
  have C1c0 : w1.cell? ⟨w.heap.size + 1 + 1, 0, none⟩ = some (.int .i64 cn) := by rw [fc _ _ (by first | omega | (simp; omega) | simp)]; simp [go_sem, *]
  have F1c0 : w1.frozen? ⟨w.heap.size + 1 + 1, 0, none⟩ = false := by rw [ff _ _ (by first | omega | (simp; omega) | simp)]; simp [go_sem, *]
  have C1c1 : w1.cell? ⟨w.heap.size + 1 + 1, 1, none⟩ = some (.int .i64 cd) := by rw [fc _ _ (by first | omega | (simp; omega) | simp)]; simp [go_sem, *]
  have F1c1 : w1.frozen? ⟨w.heap.size + 1 + 1, 1, none⟩ = false := by rw [ff _ _ (by first | omega | (simp; omega) | simp)]; simp [go_sem, *]
  clear fc ff
  have X1 : Ext w w1 := Ext.trans (by repeat (first | (with_reducible exact Ext.refl _) | (with_reducible assumption) | (with_reducible refine Ext.alloc ?_ _) | (with_reducible refine Ext.drewN ?_ _) | (with_reducible refine Ext.drew ?_) | (with_reducible refine Ext.setCell ?_ (by simp <;> omega) _))) hx
  clear hx 
  have l1a : w.heap.size < w1.heap.size := by omega
  have l1b : w.heap.size + 1 < w1.heap.size := by omega
  have l1c : w.heap.size + 1 + 1 < w1.heap.size := by omega
  go_wp2_with fail
  refine (HVa.out _).mono ?_
  rintro e w2 ⟨rfl, hx⟩
  have fs2 : w1.heap.size ≤ w2.heap.size := by simpa using hx.size
  obtain ⟨fc, ff⟩ := And.intro hx.cells hx.marks
  have C2a0 : w2.cell? ⟨w.heap.size, 0, none⟩ = some (.int .i64 an) := by rw [fc _ _ (by first | omega | (simp; omega) | simp)]; simp [go_sem, *]
  have F2a0 : w2.frozen? ⟨w.heap.size, 0, none⟩ = false := by rw [ff _ _ (by first | omega | (simp; omega) | simp)]; simp [go_sem, *]
  have C2a1 : w2.cell? ⟨w.heap.size, 1, none⟩ = some (.int .i64 ad) := by rw [fc _ _ (by first | omega | (simp; omega) | simp)]; simp [go_sem, *]
  have F2a1 : w2.frozen? ⟨w.heap.size, 1, none⟩ = false := by rw [ff _ _ (by first | omega | (simp; omega) | simp)]; simp [go_sem, *]
  have C2b0 : w2.cell? ⟨w.heap.size + 1, 0, none⟩ = some (.int .i64 bn) := by rw [fc _ _ (by first | omega | (simp; omega) | simp)]; simp [go_sem, *]
  have F2b0 : w2.frozen? ⟨w.heap.size + 1, 0, none⟩ = false := by rw [ff _ _ (by first | omega | (simp; omega) | simp)]; simp [go_sem, *]
  have C2b1 : w2.cell? ⟨w.heap.size + 1, 1, none⟩ = some (.int .i64 bd) := by rw [fc _ _ (by first | omega | (simp; omega) | simp)]; simp [go_sem, *]
  have F2b1 : w2.frozen? ⟨w.heap.size + 1, 1, none⟩ = false := by rw [ff _ _ (by first | omega | (simp; omega) | simp)]; simp [go_sem, *]
  have C2c0 : w2.cell? ⟨w.heap.size + 1 + 1, 0, none⟩ = some (.int .i64 cn) := by rw [fc _ _ (by first | omega | (simp; omega) | simp)]; simp [go_sem, *]
  have F2c0 : w2.frozen? ⟨w.heap.size + 1 + 1, 0, none⟩ = false := by rw [ff _ _ (by first | omega | (simp; omega) | simp)]; simp [go_sem, *]
  have C2c1 : w2.cell? ⟨w.heap.size + 1 + 1, 1, none⟩ = some (.int .i64 cd) := by rw [fc _ _ (by first | omega | (simp; omega) | simp)]; simp [go_sem, *]
  have F2c1 : w2.frozen? ⟨w.heap.size + 1 + 1, 1, none⟩ = false := by rw [ff _ _ (by first | omega | (simp; omega) | simp)]; simp [go_sem, *]
  clear fc ff
  have X2 : Ext w w2 := Ext.trans (by repeat (first | (with_reducible exact Ext.refl _) | (with_reducible assumption) | (with_reducible refine Ext.alloc ?_ _) | (with_reducible refine Ext.drewN ?_ _) | (with_reducible refine Ext.drew ?_) | (with_reducible refine Ext.setCell ?_ (by simp <;> omega) _))) hx
  clear hx X1 C1a0 F1a0 C1a1 F1a1 C1b0 F1b0 C1b1 F1b1 C1c0 F1c0 C1c1 F1c1
  have l2a : w.heap.size < w2.heap.size := by omega
  have l2b : w.heap.size + 1 < w2.heap.size := by omega
  have l2c : w.heap.size + 1 + 1 < w2.heap.size := by omega
  go_wp2_with fail
  refine (HVb.out _).mono ?_
  rintro e w3 ⟨rfl, hx⟩
  have fs3 : w2.heap.size ≤ w3.heap.size := by simpa using hx.size
  obtain ⟨fc, ff⟩ := And.intro hx.cells hx.marks
  have C3a0 : w3.cell? ⟨w.heap.size, 0, none⟩ = some (.int .i64 an) := by rw [fc _ _ (by first | omega | (simp; omega) | simp)]; simp [go_sem, *]
  have F3a0 : w3.frozen? ⟨w.heap.size, 0, none⟩ = false := by rw [ff _ _ (by first | omega | (simp; omega) | simp)]; simp [go_sem, *]
  have C3a1 : w3.cell? ⟨w.heap.size, 1, none⟩ = some (.int .i64 ad) := by rw [fc _ _ (by first | omega | (simp; omega) | simp)]; simp [go_sem, *]
  have F3a1 : w3.frozen? ⟨w.heap.size, 1, none⟩ = false := by rw [ff _ _ (by first | omega | (simp; omega) | simp)]; simp [go_sem, *]
  have C3b0 : w3.cell? ⟨w.heap.size + 1, 0, none⟩ = some (.int .i64 bn) := by rw [fc _ _ (by first | omega | (simp; omega) | simp)]; simp [go_sem, *]
  have F3b0 : w3.frozen? ⟨w.heap.size + 1, 0, none⟩ = false := by rw [ff _ _ (by first | omega | (simp; omega) | simp)]; simp [go_sem, *]
  have C3b1 : w3.cell? ⟨w.heap.size + 1, 1, none⟩ = some (.int .i64 bd) := by rw [fc _ _ (by first | omega | (simp; omega) | simp)]; simp [go_sem, *]
  have F3b1 : w3.frozen? ⟨w.heap.size + 1, 1, none⟩ = false := by rw [ff _ _ (by first | omega | (simp; omega) | simp)]; simp [go_sem, *]
  have C3c0 : w3.cell? ⟨w.heap.size + 1 + 1, 0, none⟩ = some (.int .i64 cn) := by rw [fc _ _ (by first | omega | (simp; omega) | simp)]; simp [go_sem, *]
  have F3c0 : w3.frozen? ⟨w.heap.size + 1 + 1, 0, none⟩ = false := by rw [ff _ _ (by first | omega | (simp; omega) | simp)]; simp [go_sem, *]
  have C3c1 : w3.cell? ⟨w.heap.size + 1 + 1, 1, none⟩ = some (.int .i64 cd) := by rw [fc _ _ (by first | omega | (simp; omega) | simp)]; simp [go_sem, *]
  have F3c1 : w3.frozen? ⟨w.heap.size + 1 + 1, 1, none⟩ = false := by rw [ff _ _ (by first | omega | (simp; omega) | simp)]; simp [go_sem, *]
  clear fc ff
  have X3 : Ext w w3 := Ext.trans (by repeat (first | (with_reducible exact Ext.refl _) | (with_reducible assumption) | (with_reducible refine Ext.alloc ?_ _) | (with_reducible refine Ext.drewN ?_ _) | (with_reducible refine Ext.drew ?_) | (with_reducible refine Ext.setCell ?_ (by simp <;> omega) _))) hx
  clear hx X2 C2a0 F2a0 C2a1 F2a1 C2b0 F2b0 C2b1 F2b1 C2c0 F2c0 C2c1 F2c1
  have l3a : w.heap.size < w3.heap.size := by omega
  have l3b : w.heap.size + 1 < w3.heap.size := by omega
  have l3c : w.heap.size + 1 + 1 < w3.heap.size := by omega
  go_wp2_with fail
  refine (HVc.out _).mono ?_
  rintro e w4 ⟨rfl, hx⟩
  have fs4 : w3.heap.size ≤ w4.heap.size := by simpa using hx.size
  obtain ⟨fc, ff⟩ := And.intro hx.cells hx.marks
  have C4a0 : w4.cell? ⟨w.heap.size, 0, none⟩ = some (.int .i64 an) := by rw [fc _ _ (by first | omega | (simp; omega) | simp)]; simp [go_sem, *]
  have F4a0 : w4.frozen? ⟨w.heap.size, 0, none⟩ = false := by rw [ff _ _ (by first | omega | (simp; omega) | simp)]; simp [go_sem, *]
  have C4a1 : w4.cell? ⟨w.heap.size, 1, none⟩ = some (.int .i64 ad) := by rw [fc _ _ (by first | omega | (simp; omega) | simp)]; simp [go_sem, *]
  have F4a1 : w4.frozen? ⟨w.heap.size, 1, none⟩ = false := by rw [ff _ _ (by first | omega | (simp; omega) | simp)]; simp [go_sem, *]
  have C4b0 : w4.cell? ⟨w.heap.size + 1, 0, none⟩ = some (.int .i64 bn) := by rw [fc _ _ (by first | omega | (simp; omega) | simp)]; simp [go_sem, *]
  have F4b0 : w4.frozen? ⟨w.heap.size + 1, 0, none⟩ = false := by rw [ff _ _ (by first | omega | (simp; omega) | simp)]; simp [go_sem, *]
  have C4b1 : w4.cell? ⟨w.heap.size + 1, 1, none⟩ = some (.int .i64 bd) := by rw [fc _ _ (by first | omega | (simp; omega) | simp)]; simp [go_sem, *]
  have F4b1 : w4.frozen? ⟨w.heap.size + 1, 1, none⟩ = false := by rw [ff _ _ (by first | omega | (simp; omega) | simp)]; simp [go_sem, *]
  have C4c0 : w4.cell? ⟨w.heap.size + 1 + 1, 0, none⟩ = some (.int .i64 cn) := by rw [fc _ _ (by first | omega | (simp; omega) | simp)]; simp [go_sem, *]
  have F4c0 : w4.frozen? ⟨w.heap.size + 1 + 1, 0, none⟩ = false := by rw [ff _ _ (by first | omega | (simp; omega) | simp)]; simp [go_sem, *]
  have C4c1 : w4.cell? ⟨w.heap.size + 1 + 1, 1, none⟩ = some (.int .i64 cd) := by rw [fc _ _ (by first | omega | (simp; omega) | simp)]; simp [go_sem, *]
  have F4c1 : w4.frozen? ⟨w.heap.size + 1 + 1, 1, none⟩ = false := by rw [ff _ _ (by first | omega | (simp; omega) | simp)]; simp [go_sem, *]
  clear fc ff
  have X4 : Ext w w4 := Ext.trans (by repeat (first | (with_reducible exact Ext.refl _) | (with_reducible assumption) | (with_reducible refine Ext.alloc ?_ _) | (with_reducible refine Ext.drewN ?_ _) | (with_reducible refine Ext.drew ?_) | (with_reducible refine Ext.setCell ?_ (by simp <;> omega) _))) hx
  clear hx X3 C3a0 F3a0 C3a1 F3a1 C3b0 F3b0 C3b1 F3b1 C3c0 F3c0 C3c1 F3c1
  have l4a : w.heap.size < w4.heap.size := by omega
  have l4b : w.heap.size + 1 < w4.heap.size := by omega
  have l4c : w.heap.size + 1 + 1 < w4.heap.size := by omega
  go_wp2_with fail
  refine (HSab.out _).mono ?_
  rintro e w5 ⟨rfl, hx⟩
  have fs5 : w4.heap.size ≤ w5.heap.size := by simpa using hx.size
  obtain ⟨fc, ff⟩ := And.intro hx.cells hx.marks
  have C5a0 : w5.cell? ⟨w.heap.size, 0, none⟩ = some (.int .i64 an) := by rw [fc _ _ (by first | omega | (simp; omega) | simp)]; simp [go_sem, *]
  have F5a0 : w5.frozen? ⟨w.heap.size, 0, none⟩ = false := by rw [ff _ _ (by first | omega | (simp; omega) | simp)]; simp [go_sem, *]
  have C5a1 : w5.cell? ⟨w.heap.size, 1, none⟩ = some (.int .i64 ad) := by rw [fc _ _ (by first | omega | (simp; omega) | simp)]; simp [go_sem, *]
  have F5a1 : w5.frozen? ⟨w.heap.size, 1, none⟩ = false := by rw [ff _ _ (by first | omega | (simp; omega) | simp)]; simp [go_sem, *]
  have C5b0 : w5.cell? ⟨w.heap.size + 1, 0, none⟩ = some (.int .i64 bn) := by rw [fc _ _ (by first | omega | (simp; omega) | simp)]; simp [go_sem, *]
  have F5b0 : w5.frozen? ⟨w.heap.size + 1, 0, none⟩ = false := by rw [ff _ _ (by first | omega | (simp; omega) | simp)]; simp [go_sem, *]
  have C5b1 : w5.cell? ⟨w.heap.size + 1, 1, none⟩ = some (.int .i64 bd) := by rw [fc _ _ (by first | omega | (simp; omega) | simp)]; simp [go_sem, *]
  have F5b1 : w5.frozen? ⟨w.heap.size + 1, 1, none⟩ = false := by rw [ff _ _ (by first | omega | (simp; omega) | simp)]; simp [go_sem, *]
  have C5c0 : w5.cell? ⟨w.heap.size + 1 + 1, 0, none⟩ = some (.int .i64 cn) := by rw [fc _ _ (by first | omega | (simp; omega) | simp)]; simp [go_sem, *]
  have F5c0 : w5.frozen? ⟨w.heap.size + 1 + 1, 0, none⟩ = false := by rw [ff _ _ (by first | omega | (simp; omega) | simp)]; simp [go_sem, *]
  have C5c1 : w5.cell? ⟨w.heap.size + 1 + 1, 1, none⟩ = some (.int .i64 cd) := by rw [fc _ _ (by first | omega | (simp; omega) | simp)]; simp [go_sem, *]
  have F5c1 : w5.frozen? ⟨w.heap.size + 1 + 1, 1, none⟩ = false := by rw [ff _ _ (by first | omega | (simp; omega) | simp)]; simp [go_sem, *]
  clear fc ff
  have X5 : Ext w w5 := Ext.trans (by repeat (first | (with_reducible exact Ext.refl _) | (with_reducible assumption) | (with_reducible refine Ext.alloc ?_ _) | (with_reducible refine Ext.drewN ?_ _) | (with_reducible refine Ext.drew ?_) | (with_reducible refine Ext.setCell ?_ (by simp <;> omega) _))) hx
  clear hx X4 C4a0 F4a0 C4a1 F4a1 C4b0 F4b0 C4b1 F4b1 C4c0 F4c0 C4c1 F4c1
  have l5a : w.heap.size < w5.heap.size := by omega
  have l5b : w.heap.size + 1 < w5.heap.size := by omega
  have l5c : w.heap.size + 1 + 1 < w5.heap.size := by omega
  go_wp2_with fail
  refine (HSba.out _).mono ?_
  rintro e w6 ⟨rfl, hx⟩
  have fs6 : w5.heap.size + 1 ≤ w6.heap.size := by simpa using hx.size
  obtain ⟨fc, ff⟩ := And.intro hx.cells hx.marks
  have C6a0 : w6.cell? ⟨w.heap.size, 0, none⟩ = some (.int .i64 an) := by rw [fc _ _ (by first | omega | (simp; omega) | simp)]; simp [go_sem, *]
  have F6a0 : w6.frozen? ⟨w.heap.size, 0, none⟩ = false := by rw [ff _ _ (by first | omega | (simp; omega) | simp)]; simp [go_sem, *]
  have C6a1 : w6.cell? ⟨w.heap.size, 1, none⟩ = some (.int .i64 ad) := by rw [fc _ _ (by first | omega | (simp; omega) | simp)]; simp [go_sem, *]
  have F6a1 : w6.frozen? ⟨w.heap.size, 1, none⟩ = false := by rw [ff _ _ (by first | omega | (simp; omega) | simp)]; simp [go_sem, *]
  have C6b0 : w6.cell? ⟨w.heap.size + 1, 0, none⟩ = some (.int .i64 bn) := by rw [fc _ _ (by first | omega | (simp; omega) | simp)]; simp [go_sem, *]
  have F6b0 : w6.frozen? ⟨w.heap.size + 1, 0, none⟩ = false := by rw [ff _ _ (by first | omega | (simp; omega) | simp)]; simp [go_sem, *]
  have C6b1 : w6.cell? ⟨w.heap.size + 1, 1, none⟩ = some (.int .i64 bd) := by rw [fc _ _ (by first | omega | (simp; omega) | simp)]; simp [go_sem, *]
  have F6b1 : w6.frozen? ⟨w.heap.size + 1, 1, none⟩ = false := by rw [ff _ _ (by first | omega | (simp; omega) | simp)]; simp [go_sem, *]
  have C6c0 : w6.cell? ⟨w.heap.size + 1 + 1, 0, none⟩ = some (.int .i64 cn) := by rw [fc _ _ (by first | omega | (simp; omega) | simp)]; simp [go_sem, *]
  have F6c0 : w6.frozen? ⟨w.heap.size + 1 + 1, 0, none⟩ = false := by rw [ff _ _ (by first | omega | (simp; omega) | simp)]; simp [go_sem, *]
  have C6c1 : w6.cell? ⟨w.heap.size + 1 + 1, 1, none⟩ = some (.int .i64 cd) := by rw [fc _ _ (by first | omega | (simp; omega) | simp)]; simp [go_sem, *]
  have F6c1 : w6.frozen? ⟨w.heap.size + 1 + 1, 1, none⟩ = false := by rw [ff _ _ (by first | omega | (simp; omega) | simp)]; simp [go_sem, *]
  have C6s0 : w6.cell? ⟨w5.heap.size, 0, none⟩ = some (.int .i64 s1) := by rw [fc _ _ (by first | omega | (simp; omega) | simp)]; simp [go_sem, *]
  have F6s0 : w6.frozen? ⟨w5.heap.size, 0, none⟩ = false := by rw [ff _ _ (by first | omega | (simp; omega) | simp)]; simp [go_sem, *]
  have C6s1 : w6.cell? ⟨w5.heap.size, 1, none⟩ = some (.int .i64 s2) := by rw [fc _ _ (by first | omega | (simp; omega) | simp)]; simp [go_sem, *]
  have F6s1 : w6.frozen? ⟨w5.heap.size, 1, none⟩ = false := by rw [ff _ _ (by first | omega | (simp; omega) | simp)]; simp [go_sem, *]
  clear fc ff
  have X6 : Ext w w6 := Ext.trans (by repeat (first | (with_reducible exact Ext.refl _) | (with_reducible assumption) | (with_reducible refine Ext.alloc ?_ _) | (with_reducible refine Ext.drewN ?_ _) | (with_reducible refine Ext.drew ?_) | (with_reducible refine Ext.setCell ?_ (by simp <;> omega) _))) hx
  clear hx X5 C5a0 F5a0 C5a1 F5a1 C5b0 F5b0 C5b1 F5b1 C5c0 F5c0 C5c1 F5c1
  have l6a : w.heap.size < w6.heap.size := by omega
  have l6b : w.heap.size + 1 < w6.heap.size := by omega
  have l6c : w.heap.size + 1 + 1 < w6.heap.size := by omega
  have l6s : w5.heap.size < w6.heap.size := by omega
  go_wp2_with fail
  refine (HPab.out _).mono ?_
  rintro e w7 ⟨rfl, hx⟩
  have fs7 : w6.heap.size + 1 ≤ w7.heap.size := by simpa using hx.size
  obtain ⟨fc, ff⟩ := And.intro hx.cells hx.marks
  have C7a0 : w7.cell? ⟨w.heap.size, 0, none⟩ = some (.int .i64 an) := by rw [fc _ _ (by first | omega | (simp; omega) | simp)]; simp [go_sem, *]
  have F7a0 : w7.frozen? ⟨w.heap.size, 0, none⟩ = false := by rw [ff _ _ (by first | omega | (simp; omega) | simp)]; simp [go_sem, *]
  have C7a1 : w7.cell? ⟨w.heap.size, 1, none⟩ = some (.int .i64 ad) := by rw [fc _ _ (by first | omega | (simp; omega) | simp)]; simp [go_sem, *]
  have F7a1 : w7.frozen? ⟨w.heap.size, 1, none⟩ = false := by rw [ff _ _ (by first | omega | (simp; omega) | simp)]; simp [go_sem, *]
  have C7b0 : w7.cell? ⟨w.heap.size + 1, 0, none⟩ = some (.int .i64 bn) := by rw [fc _ _ (by first | omega | (simp; omega) | simp)]; simp [go_sem, *]
  have F7b0 : w7.frozen? ⟨w.heap.size + 1, 0, none⟩ = false := by rw [ff _ _ (by first | omega | (simp; omega) | simp)]; simp [go_sem, *]
  have C7b1 : w7.cell? ⟨w.heap.size + 1, 1, none⟩ = some (.int .i64 bd) := by rw [fc _ _ (by first | omega | (simp; omega) | simp)]; simp [go_sem, *]
  have F7b1 : w7.frozen? ⟨w.heap.size + 1, 1, none⟩ = false := by rw [ff _ _ (by first | omega | (simp; omega) | simp)]; simp [go_sem, *]
  have C7c0 : w7.cell? ⟨w.heap.size + 1 + 1, 0, none⟩ = some (.int .i64 cn) := by rw [fc _ _ (by first | omega | (simp; omega) | simp)]; simp [go_sem, *]
  have F7c0 : w7.frozen? ⟨w.heap.size + 1 + 1, 0, none⟩ = false := by rw [ff _ _ (by first | omega | (simp; omega) | simp)]; simp [go_sem, *]
  have C7c1 : w7.cell? ⟨w.heap.size + 1 + 1, 1, none⟩ = some (.int .i64 cd) := by rw [fc _ _ (by first | omega | (simp; omega) | simp)]; simp [go_sem, *]
  have F7c1 : w7.frozen? ⟨w.heap.size + 1 + 1, 1, none⟩ = false := by rw [ff _ _ (by first | omega | (simp; omega) | simp)]; simp [go_sem, *]
  have C7s0 : w7.cell? ⟨w5.heap.size, 0, none⟩ = some (.int .i64 s1) := by rw [fc _ _ (by first | omega | (simp; omega) | simp)]; simp [go_sem, *]
  have F7s0 : w7.frozen? ⟨w5.heap.size, 0, none⟩ = false := by rw [ff _ _ (by first | omega | (simp; omega) | simp)]; simp [go_sem, *]
  have C7s1 : w7.cell? ⟨w5.heap.size, 1, none⟩ = some (.int .i64 s2) := by rw [fc _ _ (by first | omega | (simp; omega) | simp)]; simp [go_sem, *]
  have F7s1 : w7.frozen? ⟨w5.heap.size, 1, none⟩ = false := by rw [ff _ _ (by first | omega | (simp; omega) | simp)]; simp [go_sem, *]
  have C7t0 : w7.cell? ⟨w6.heap.size, 0, none⟩ = some (.int .i64 s1) := by rw [fc _ _ (by first | omega | (simp; omega) | simp)]; simp [go_sem, *]
  have F7t0 : w7.frozen? ⟨w6.heap.size, 0, none⟩ = false := by rw [ff _ _ (by first | omega | (simp; omega) | simp)]; simp [go_sem, *]
  have C7t1 : w7.cell? ⟨w6.heap.size, 1, none⟩ = some (.int .i64 s2) := by rw [fc _ _ (by first | omega | (simp; omega) | simp)]; simp [go_sem, *]
  have F7t1 : w7.frozen? ⟨w6.heap.size, 1, none⟩ = false := by rw [ff _ _ (by first | omega | (simp; omega) | simp)]; simp [go_sem, *]
  clear fc ff
  have X7 : Ext w w7 := Ext.trans (by repeat (first | (with_reducible exact Ext.refl _) | (with_reducible assumption) | (with_reducible refine Ext.alloc ?_ _) | (with_reducible refine Ext.drewN ?_ _) | (with_reducible refine Ext.drew ?_) | (with_reducible refine Ext.setCell ?_ (by simp <;> omega) _))) hx
  clear hx X6 C6a0 F6a0 C6a1 F6a1 C6b0 F6b0 C6b1 F6b1 C6c0 F6c0 C6c1 F6c1 C6s0 F6s0 C6s1 F6s1
  have l7a : w.heap.size < w7.heap.size := by omega
  have l7b : w.heap.size + 1 < w7.heap.size := by omega
  have l7c : w.heap.size + 1 + 1 < w7.heap.size := by omega
  have l7s : w5.heap.size < w7.heap.size := by omega
  have l7t : w6.heap.size < w7.heap.size := by omega
  go_wp2_with fail
  refine (HPba.out _).mono ?_
  rintro e w8 ⟨rfl, hx⟩
  have fs8 : w7.heap.size + 1 ≤ w8.heap.size := by simpa using hx.size
  obtain ⟨fc, ff⟩ := And.intro hx.cells hx.marks
  have C8a0 : w8.cell? ⟨w.heap.size, 0, none⟩ = some (.int .i64 an) := by rw [fc _ _ (by first | omega | (simp; omega) | simp)]; simp [go_sem, *]
  have F8a0 : w8.frozen? ⟨w.heap.size, 0, none⟩ = false := by rw [ff _ _ (by first | omega | (simp; omega) | simp)]; simp [go_sem, *]
  have C8a1 : w8.cell? ⟨w.heap.size, 1, none⟩ = some (.int .i64 ad) := by rw [fc _ _ (by first | omega | (simp; omega) | simp)]; simp [go_sem, *]
  have F8a1 : w8.frozen? ⟨w.heap.size, 1, none⟩ = false := by rw [ff _ _ (by first | omega | (simp; omega) | simp)]; simp [go_sem, *]
  have C8b0 : w8.cell? ⟨w.heap.size + 1, 0, none⟩ = some (.int .i64 bn) := by rw [fc _ _ (by first | omega | (simp; omega) | simp)]; simp [go_sem, *]
  have F8b0 : w8.frozen? ⟨w.heap.size + 1, 0, none⟩ = false := by rw [ff _ _ (by first | omega | (simp; omega) | simp)]; simp [go_sem, *]
  have C8b1 : w8.cell? ⟨w.heap.size + 1, 1, none⟩ = some (.int .i64 bd) := by rw [fc _ _ (by first | omega | (simp; omega) | simp)]; simp [go_sem, *]
  have F8b1 : w8.frozen? ⟨w.heap.size + 1, 1, none⟩ = false := by rw [ff _ _ (by first | omega | (simp; omega) | simp)]; simp [go_sem, *]
  have C8c0 : w8.cell? ⟨w.heap.size + 1 + 1, 0, none⟩ = some (.int .i64 cn) := by rw [fc _ _ (by first | omega | (simp; omega) | simp)]; simp [go_sem, *]
  have F8c0 : w8.frozen? ⟨w.heap.size + 1 + 1, 0, none⟩ = false := by rw [ff _ _ (by first | omega | (simp; omega) | simp)]; simp [go_sem, *]
  have C8c1 : w8.cell? ⟨w.heap.size + 1 + 1, 1, none⟩ = some (.int .i64 cd) := by rw [fc _ _ (by first | omega | (simp; omega) | simp)]; simp [go_sem, *]
  have F8c1 : w8.frozen? ⟨w.heap.size + 1 + 1, 1, none⟩ = false := by rw [ff _ _ (by first | omega | (simp; omega) | simp)]; simp [go_sem, *]
  have C8s0 : w8.cell? ⟨w5.heap.size, 0, none⟩ = some (.int .i64 s1) := by rw [fc _ _ (by first | omega | (simp; omega) | simp)]; simp [go_sem, *]
  have F8s0 : w8.frozen? ⟨w5.heap.size, 0, none⟩ = false := by rw [ff _ _ (by first | omega | (simp; omega) | simp)]; simp [go_sem, *]
  have C8s1 : w8.cell? ⟨w5.heap.size, 1, none⟩ = some (.int .i64 s2) := by rw [fc _ _ (by first | omega | (simp; omega) | simp)]; simp [go_sem, *]
  have F8s1 : w8.frozen? ⟨w5.heap.size, 1, none⟩ = false := by rw [ff _ _ (by first | omega | (simp; omega) | simp)]; simp [go_sem, *]
  have C8t0 : w8.cell? ⟨w6.heap.size, 0, none⟩ = some (.int .i64 s1) := by rw [fc _ _ (by first | omega | (simp; omega) | simp)]; simp [go_sem, *]
  have F8t0 : w8.frozen? ⟨w6.heap.size, 0, none⟩ = false := by rw [ff _ _ (by first | omega | (simp; omega) | simp)]; simp [go_sem, *]
  have C8t1 : w8.cell? ⟨w6.heap.size, 1, none⟩ = some (.int .i64 s2) := by rw [fc _ _ (by first | omega | (simp; omega) | simp)]; simp [go_sem, *]
  have F8t1 : w8.frozen? ⟨w6.heap.size, 1, none⟩ = false := by rw [ff _ _ (by first | omega | (simp; omega) | simp)]; simp [go_sem, *]
  have C8p0 : w8.cell? ⟨w7.heap.size, 0, none⟩ = some (.int .i64 p1) := by rw [fc _ _ (by first | omega | (simp; omega) | simp)]; simp [go_sem, *]
  have F8p0 : w8.frozen? ⟨w7.heap.size, 0, none⟩ = false := by rw [ff _ _ (by first | omega | (simp; omega) | simp)]; simp [go_sem, *]
  have C8p1 : w8.cell? ⟨w7.heap.size, 1, none⟩ = some (.int .i64 p2) := by rw [fc _ _ (by first | omega | (simp; omega) | simp)]; simp [go_sem, *]
  have F8p1 : w8.frozen? ⟨w7.heap.size, 1, none⟩ = false := by rw [ff _ _ (by first | omega | (simp; omega) | simp)]; simp [go_sem, *]
  clear fc ff
  have X8 : Ext w w8 := Ext.trans (by repeat (first | (with_reducible exact Ext.refl _) | (with_reducible assumption) | (with_reducible refine Ext.alloc ?_ _) | (with_reducible refine Ext.drewN ?_ _) | (with_reducible refine Ext.drew ?_) | (with_reducible refine Ext.setCell ?_ (by simp <;> omega) _))) hx
  clear hx X7 C7a0 F7a0 C7a1 F7a1 C7b0 F7b0 C7b1 F7b1 C7c0 F7c0 C7c1 F7c1 C7s0 F7s0 C7s1 F7s1 C7t0 F7t0 C7t1 F7t1
  have l8a : w.heap.size < w8.heap.size := by omega
  have l8b : w.heap.size + 1 < w8.heap.size := by omega
  have l8c : w.heap.size + 1 + 1 < w8.heap.size := by omega
  have l8s : w5.heap.size < w8.heap.size := by omega
  have l8t : w6.heap.size < w8.heap.size := by omega
  have l8p : w7.heap.size < w8.heap.size := by omega
  go_wp2_with fail
  refine (HX.out _).mono ?_
  rintro e w9 ⟨rfl, hx⟩
  have fs9 : w8.heap.size + 1 ≤ w9.heap.size := by simpa using hx.size
  obtain ⟨fc, ff⟩ := And.intro hx.cells hx.marks
  have C9a0 : w9.cell? ⟨w.heap.size, 0, none⟩ = some (.int .i64 an) := by rw [fc _ _ (by first | omega | (simp; omega) | simp)]; simp [go_sem, *]
  have F9a0 : w9.frozen? ⟨w.heap.size, 0, none⟩ = false := by rw [ff _ _ (by first | omega | (simp; omega) | simp)]; simp [go_sem, *]
  have C9a1 : w9.cell? ⟨w.heap.size, 1, none⟩ = some (.int .i64 ad) := by rw [fc _ _ (by first | omega | (simp; omega) | simp)]; simp [go_sem, *]
  have F9a1 : w9.frozen? ⟨w.heap.size, 1, none⟩ = false := by rw [ff _ _ (by first | omega | (simp; omega) | simp)]; simp [go_sem, *]
  have C9b0 : w9.cell? ⟨w.heap.size + 1, 0, none⟩ = some (.int .i64 bn) := by rw [fc _ _ (by first | omega | (simp; omega) | simp)]; simp [go_sem, *]
  have F9b0 : w9.frozen? ⟨w.heap.size + 1, 0, none⟩ = false := by rw [ff _ _ (by first | omega | (simp; omega) | simp)]; simp [go_sem, *]
  have C9b1 : w9.cell? ⟨w.heap.size + 1, 1, none⟩ = some (.int .i64 bd) := by rw [fc _ _ (by first | omega | (simp; omega) | simp)]; simp [go_sem, *]
  have F9b1 : w9.frozen? ⟨w.heap.size + 1, 1, none⟩ = false := by rw [ff _ _ (by first | omega | (simp; omega) | simp)]; simp [go_sem, *]
  have C9c0 : w9.cell? ⟨w.heap.size + 1 + 1, 0, none⟩ = some (.int .i64 cn) := by rw [fc _ _ (by first | omega | (simp; omega) | simp)]; simp [go_sem, *]
  have F9c0 : w9.frozen? ⟨w.heap.size + 1 + 1, 0, none⟩ = false := by rw [ff _ _ (by first | omega | (simp; omega) | simp)]; simp [go_sem, *]
  have C9c1 : w9.cell? ⟨w.heap.size + 1 + 1, 1, none⟩ = some (.int .i64 cd) := by rw [fc _ _ (by first | omega | (simp; omega) | simp)]; simp [go_sem, *]
  have F9c1 : w9.frozen? ⟨w.heap.size + 1 + 1, 1, none⟩ = false := by rw [ff _ _ (by first | omega | (simp; omega) | simp)]; simp [go_sem, *]
  have C9s0 : w9.cell? ⟨w5.heap.size, 0, none⟩ = some (.int .i64 s1) := by rw [fc _ _ (by first | omega | (simp; omega) | simp)]; simp [go_sem, *]
  have F9s0 : w9.frozen? ⟨w5.heap.size, 0, none⟩ = false := by rw [ff _ _ (by first | omega | (simp; omega) | simp)]; simp [go_sem, *]
  have C9s1 : w9.cell? ⟨w5.heap.size, 1, none⟩ = some (.int .i64 s2) := by rw [fc _ _ (by first | omega | (simp; omega) | simp)]; simp [go_sem, *]
  have F9s1 : w9.frozen? ⟨w5.heap.size, 1, none⟩ = false := by rw [ff _ _ (by first | omega | (simp; omega) | simp)]; simp [go_sem, *]
  have C9t0 : w9.cell? ⟨w6.heap.size, 0, none⟩ = some (.int .i64 s1) := by rw [fc _ _ (by first | omega | (simp; omega) | simp)]; simp [go_sem, *]
  have F9t0 : w9.frozen? ⟨w6.heap.size, 0, none⟩ = false := by rw [ff _ _ (by first | omega | (simp; omega) | simp)]; simp [go_sem, *]
  have C9t1 : w9.cell? ⟨w6.heap.size, 1, none⟩ = some (.int .i64 s2) := by rw [fc _ _ (by first | omega | (simp; omega) | simp)]; simp [go_sem, *]
  have F9t1 : w9.frozen? ⟨w6.heap.size, 1, none⟩ = false := by rw [ff _ _ (by first | omega | (simp; omega) | simp)]; simp [go_sem, *]
  have C9p0 : w9.cell? ⟨w7.heap.size, 0, none⟩ = some (.int .i64 p1) := by rw [fc _ _ (by first | omega | (simp; omega) | simp)]; simp [go_sem, *]
  have F9p0 : w9.frozen? ⟨w7.heap.size, 0, none⟩ = false := by rw [ff _ _ (by first | omega | (simp; omega) | simp)]; simp [go_sem, *]
  have C9p1 : w9.cell? ⟨w7.heap.size, 1, none⟩ = some (.int .i64 p2) := by rw [fc _ _ (by first | omega | (simp; omega) | simp)]; simp [go_sem, *]
  have F9p1 : w9.frozen? ⟨w7.heap.size, 1, none⟩ = false := by rw [ff _ _ (by first | omega | (simp; omega) | simp)]; simp [go_sem, *]
  have C9q0 : w9.cell? ⟨w8.heap.size, 0, none⟩ = some (.int .i64 p1) := by rw [fc _ _ (by first | omega | (simp; omega) | simp)]; simp [go_sem, *]
  have F9q0 : w9.frozen? ⟨w8.heap.size, 0, none⟩ = false := by rw [ff _ _ (by first | omega | (simp; omega) | simp)]; simp [go_sem, *]
  have C9q1 : w9.cell? ⟨w8.heap.size, 1, none⟩ = some (.int .i64 p2) := by rw [fc _ _ (by first | omega | (simp; omega) | simp)]; simp [go_sem, *]
  have F9q1 : w9.frozen? ⟨w8.heap.size, 1, none⟩ = false := by rw [ff _ _ (by first | omega | (simp; omega) | simp)]; simp [go_sem, *]
  clear fc ff
  have X9 : Ext w w9 := Ext.trans (by repeat (first | (with_reducible exact Ext.refl _) | (with_reducible assumption) | (with_reducible refine Ext.alloc ?_ _) | (with_reducible refine Ext.drewN ?_ _) | (with_reducible refine Ext.drew ?_) | (with_reducible refine Ext.setCell ?_ (by simp <;> omega) _))) hx
  clear hx X8 C8a0 F8a0 C8a1 F8a1 C8b0 F8b0 C8b1 F8b1 C8c0 F8c0 C8c1 F8c1 C8s0 F8s0 C8s1 F8s1 C8t0 F8t0 C8t1 F8t1 C8p0 F8p0 C8p1 F8p1
  have l9a : w.heap.size < w9.heap.size := by omega
  have l9b : w.heap.size + 1 < w9.heap.size := by omega
  have l9c : w.heap.size + 1 + 1 < w9.heap.size := by omega
  have l9s : w5.heap.size < w9.heap.size := by omega
  have l9t : w6.heap.size < w9.heap.size := by omega
  have l9p : w7.heap.size < w9.heap.size := by omega
  have l9q : w8.heap.size < w9.heap.size := by omega
  go_wp2_with fail
  refine (HY.out _).mono ?_
  rintro e w10 ⟨rfl, hx⟩
  have fs10 : w9.heap.size + 1 ≤ w10.heap.size := by simpa using hx.size
  obtain ⟨fc, ff⟩ := And.intro hx.cells hx.marks
  have C10a0 : w10.cell? ⟨w.heap.size, 0, none⟩ = some (.int .i64 an) := by rw [fc _ _ (by first | omega | (simp; omega) | simp)]; simp [go_sem, *]
  have F10a0 : w10.frozen? ⟨w.heap.size, 0, none⟩ = false := by rw [ff _ _ (by first | omega | (simp; omega) | simp)]; simp [go_sem, *]
  have C10a1 : w10.cell? ⟨w.heap.size, 1, none⟩ = some (.int .i64 ad) := by rw [fc _ _ (by first | omega | (simp; omega) | simp)]; simp [go_sem, *]
  have F10a1 : w10.frozen? ⟨w.heap.size, 1, none⟩ = false := by rw [ff _ _ (by first | omega | (simp; omega) | simp)]; simp [go_sem, *]
  have C10b0 : w10.cell? ⟨w.heap.size + 1, 0, none⟩ = some (.int .i64 bn) := by rw [fc _ _ (by first | omega | (simp; omega) | simp)]; simp [go_sem, *]
  have F10b0 : w10.frozen? ⟨w.heap.size + 1, 0, none⟩ = false := by rw [ff _ _ (by first | omega | (simp; omega) | simp)]; simp [go_sem, *]
  have C10b1 : w10.cell? ⟨w.heap.size + 1, 1, none⟩ = some (.int .i64 bd) := by rw [fc _ _ (by first | omega | (simp; omega) | simp)]; simp [go_sem, *]
  have F10b1 : w10.frozen? ⟨w.heap.size + 1, 1, none⟩ = false := by rw [ff _ _ (by first | omega | (simp; omega) | simp)]; simp [go_sem, *]
  have C10c0 : w10.cell? ⟨w.heap.size + 1 + 1, 0, none⟩ = some (.int .i64 cn) := by rw [fc _ _ (by first | omega | (simp; omega) | simp)]; simp [go_sem, *]
  have F10c0 : w10.frozen? ⟨w.heap.size + 1 + 1, 0, none⟩ = false := by rw [ff _ _ (by first | omega | (simp; omega) | simp)]; simp [go_sem, *]
  have C10c1 : w10.cell? ⟨w.heap.size + 1 + 1, 1, none⟩ = some (.int .i64 cd) := by rw [fc _ _ (by first | omega | (simp; omega) | simp)]; simp [go_sem, *]
  have F10c1 : w10.frozen? ⟨w.heap.size + 1 + 1, 1, none⟩ = false := by rw [ff _ _ (by first | omega | (simp; omega) | simp)]; simp [go_sem, *]
  have C10s0 : w10.cell? ⟨w5.heap.size, 0, none⟩ = some (.int .i64 s1) := by rw [fc _ _ (by first | omega | (simp; omega) | simp)]; simp [go_sem, *]
  have F10s0 : w10.frozen? ⟨w5.heap.size, 0, none⟩ = false := by rw [ff _ _ (by first | omega | (simp; omega) | simp)]; simp [go_sem, *]
  have C10s1 : w10.cell? ⟨w5.heap.size, 1, none⟩ = some (.int .i64 s2) := by rw [fc _ _ (by first | omega | (simp; omega) | simp)]; simp [go_sem, *]
  have F10s1 : w10.frozen? ⟨w5.heap.size, 1, none⟩ = false := by rw [ff _ _ (by first | omega | (simp; omega) | simp)]; simp [go_sem, *]
  have C10t0 : w10.cell? ⟨w6.heap.size, 0, none⟩ = some (.int .i64 s1) := by rw [fc _ _ (by first | omega | (simp; omega) | simp)]; simp [go_sem, *]
  have F10t0 : w10.frozen? ⟨w6.heap.size, 0, none⟩ = false := by rw [ff _ _ (by first | omega | (simp; omega) | simp)]; simp [go_sem, *]
  have C10t1 : w10.cell? ⟨w6.heap.size, 1, none⟩ = some (.int .i64 s2) := by rw [fc _ _ (by first | omega | (simp; omega) | simp)]; simp [go_sem, *]
  have F10t1 : w10.frozen? ⟨w6.heap.size, 1, none⟩ = false := by rw [ff _ _ (by first | omega | (simp; omega) | simp)]; simp [go_sem, *]
  have C10p0 : w10.cell? ⟨w7.heap.size, 0, none⟩ = some (.int .i64 p1) := by rw [fc _ _ (by first | omega | (simp; omega) | simp)]; simp [go_sem, *]
  have F10p0 : w10.frozen? ⟨w7.heap.size, 0, none⟩ = false := by rw [ff _ _ (by first | omega | (simp; omega) | simp)]; simp [go_sem, *]
  have C10p1 : w10.cell? ⟨w7.heap.size, 1, none⟩ = some (.int .i64 p2) := by rw [fc _ _ (by first | omega | (simp; omega) | simp)]; simp [go_sem, *]
  have F10p1 : w10.frozen? ⟨w7.heap.size, 1, none⟩ = false := by rw [ff _ _ (by first | omega | (simp; omega) | simp)]; simp [go_sem, *]
  have C10q0 : w10.cell? ⟨w8.heap.size, 0, none⟩ = some (.int .i64 p1) := by rw [fc _ _ (by first | omega | (simp; omega) | simp)]; simp [go_sem, *]
  have F10q0 : w10.frozen? ⟨w8.heap.size, 0, none⟩ = false := by rw [ff _ _ (by first | omega | (simp; omega) | simp)]; simp [go_sem, *]
  have C10q1 : w10.cell? ⟨w8.heap.size, 1, none⟩ = some (.int .i64 p2) := by rw [fc _ _ (by first | omega | (simp; omega) | simp)]; simp [go_sem, *]
  have F10q1 : w10.frozen? ⟨w8.heap.size, 1, none⟩ = false := by rw [ff _ _ (by first | omega | (simp; omega) | simp)]; simp [go_sem, *]
  have C10x0 : w10.cell? ⟨w9.heap.size, 0, none⟩ = some (.int .i64 x1) := by rw [fc _ _ (by first | omega | (simp; omega) | simp)]; simp [go_sem, *]
  have F10x0 : w10.frozen? ⟨w9.heap.size, 0, none⟩ = false := by rw [ff _ _ (by first | omega | (simp; omega) | simp)]; simp [go_sem, *]
  have C10x1 : w10.cell? ⟨w9.heap.size, 1, none⟩ = some (.int .i64 x2) := by rw [fc _ _ (by first | omega | (simp; omega) | simp)]; simp [go_sem, *]
  have F10x1 : w10.frozen? ⟨w9.heap.size, 1, none⟩ = false := by rw [ff _ _ (by first | omega | (simp; omega) | simp)]; simp [go_sem, *]
  clear fc ff
  have X10 : Ext w w10 := Ext.trans (by repeat (first | (with_reducible exact Ext.refl _) | (with_reducible assumption) | (with_reducible refine Ext.alloc ?_ _) | (with_reducible refine Ext.drewN ?_ _) | (with_reducible refine Ext.drew ?_) | (with_reducible refine Ext.setCell ?_ (by simp <;> omega) _))) hx
  clear hx X9 C9a0 F9a0 C9a1 F9a1 C9b0 F9b0 C9b1 F9b1 C9c0 F9c0 C9c1 F9c1 C9s0 F9s0 C9s1 F9s1 C9t0 F9t0 C9t1 F9t1 C9p0 F9p0 C9p1 F9p1 C9q0 F9q0 C9q1 F9q1
  have l10a : w.heap.size < w10.heap.size := by omega
  have l10b : w.heap.size + 1 < w10.heap.size := by omega
  have l10c : w.heap.size + 1 + 1 < w10.heap.size := by omega
  have l10s : w5.heap.size < w10.heap.size := by omega
  have l10t : w6.heap.size < w10.heap.size := by omega
  have l10p : w7.heap.size < w10.heap.size := by omega
  have l10q : w8.heap.size < w10.heap.size := by omega
  have l10x : w9.heap.size < w10.heap.size := by omega
  go_wp2_with fail
  refine (HZ.out _).mono ?_
  rintro e w11 ⟨rfl, hx⟩
  have fs11 : w10.heap.size + 1 ≤ w11.heap.size := by simpa using hx.size
  obtain ⟨fc, ff⟩ := And.intro hx.cells hx.marks
  have C11a0 : w11.cell? ⟨w.heap.size, 0, none⟩ = some (.int .i64 an) := by rw [fc _ _ (by first | omega | (simp; omega) | simp)]; simp [go_sem, *]
  have F11a0 : w11.frozen? ⟨w.heap.size, 0, none⟩ = false := by rw [ff _ _ (by first | omega | (simp; omega) | simp)]; simp [go_sem, *]
  have C11a1 : w11.cell? ⟨w.heap.size, 1, none⟩ = some (.int .i64 ad) := by rw [fc _ _ (by first | omega | (simp; omega) | simp)]; simp [go_sem, *]
  have F11a1 : w11.frozen? ⟨w.heap.size, 1, none⟩ = false := by rw [ff _ _ (by first | omega | (simp; omega) | simp)]; simp [go_sem, *]
  have C11b0 : w11.cell? ⟨w.heap.size + 1, 0, none⟩ = some (.int .i64 bn) := by rw [fc _ _ (by first | omega | (simp; omega) | simp)]; simp [go_sem, *]
  have F11b0 : w11.frozen? ⟨w.heap.size + 1, 0, none⟩ = false := by rw [ff _ _ (by first | omega | (simp; omega) | simp)]; simp [go_sem, *]
  have C11b1 : w11.cell? ⟨w.heap.size + 1, 1, none⟩ = some (.int .i64 bd) := by rw [fc _ _ (by first | omega | (simp; omega) | simp)]; simp [go_sem, *]
  have F11b1 : w11.frozen? ⟨w.heap.size + 1, 1, none⟩ = false := by rw [ff _ _ (by first | omega | (simp; omega) | simp)]; simp [go_sem, *]
  have C11c0 : w11.cell? ⟨w.heap.size + 1 + 1, 0, none⟩ = some (.int .i64 cn) := by rw [fc _ _ (by first | omega | (simp; omega) | simp)]; simp [go_sem, *]
  have F11c0 : w11.frozen? ⟨w.heap.size + 1 + 1, 0, none⟩ = false := by rw [ff _ _ (by first | omega | (simp; omega) | simp)]; simp [go_sem, *]
  have C11c1 : w11.cell? ⟨w.heap.size + 1 + 1, 1, none⟩ = some (.int .i64 cd) := by rw [fc _ _ (by first | omega | (simp; omega) | simp)]; simp [go_sem, *]
  have F11c1 : w11.frozen? ⟨w.heap.size + 1 + 1, 1, none⟩ = false := by rw [ff _ _ (by first | omega | (simp; omega) | simp)]; simp [go_sem, *]
  have C11s0 : w11.cell? ⟨w5.heap.size, 0, none⟩ = some (.int .i64 s1) := by rw [fc _ _ (by first | omega | (simp; omega) | simp)]; simp [go_sem, *]
  have F11s0 : w11.frozen? ⟨w5.heap.size, 0, none⟩ = false := by rw [ff _ _ (by first | omega | (simp; omega) | simp)]; simp [go_sem, *]
  have C11s1 : w11.cell? ⟨w5.heap.size, 1, none⟩ = some (.int .i64 s2) := by rw [fc _ _ (by first | omega | (simp; omega) | simp)]; simp [go_sem, *]
  have F11s1 : w11.frozen? ⟨w5.heap.size, 1, none⟩ = false := by rw [ff _ _ (by first | omega | (simp; omega) | simp)]; simp [go_sem, *]
  have C11t0 : w11.cell? ⟨w6.heap.size, 0, none⟩ = some (.int .i64 s1) := by rw [fc _ _ (by first | omega | (simp; omega) | simp)]; simp [go_sem, *]
  have F11t0 : w11.frozen? ⟨w6.heap.size, 0, none⟩ = false := by rw [ff _ _ (by first | omega | (simp; omega) | simp)]; simp [go_sem, *]
  have C11t1 : w11.cell? ⟨w6.heap.size, 1, none⟩ = some (.int .i64 s2) := by rw [fc _ _ (by first | omega | (simp; omega) | simp)]; simp [go_sem, *]
  have F11t1 : w11.frozen? ⟨w6.heap.size, 1, none⟩ = false := by rw [ff _ _ (by first | omega | (simp; omega) | simp)]; simp [go_sem, *]
  have C11p0 : w11.cell? ⟨w7.heap.size, 0, none⟩ = some (.int .i64 p1) := by rw [fc _ _ (by first | omega | (simp; omega) | simp)]; simp [go_sem, *]
  have F11p0 : w11.frozen? ⟨w7.heap.size, 0, none⟩ = false := by rw [ff _ _ (by first | omega | (simp; omega) | simp)]; simp [go_sem, *]
  have C11p1 : w11.cell? ⟨w7.heap.size, 1, none⟩ = some (.int .i64 p2) := by rw [fc _ _ (by first | omega | (simp; omega) | simp)]; simp [go_sem, *]
  have F11p1 : w11.frozen? ⟨w7.heap.size, 1, none⟩ = false := by rw [ff _ _ (by first | omega | (simp; omega) | simp)]; simp [go_sem, *]
  have C11q0 : w11.cell? ⟨w8.heap.size, 0, none⟩ = some (.int .i64 p1) := by rw [fc _ _ (by first | omega | (simp; omega) | simp)]; simp [go_sem, *]
  have F11q0 : w11.frozen? ⟨w8.heap.size, 0, none⟩ = false := by rw [ff _ _ (by first | omega | (simp; omega) | simp)]; simp [go_sem, *]
  have C11q1 : w11.cell? ⟨w8.heap.size, 1, none⟩ = some (.int .i64 p2) := by rw [fc _ _ (by first | omega | (simp; omega) | simp)]; simp [go_sem, *]
  have F11q1 : w11.frozen? ⟨w8.heap.size, 1, none⟩ = false := by rw [ff _ _ (by first | omega | (simp; omega) | simp)]; simp [go_sem, *]
  have C11x0 : w11.cell? ⟨w9.heap.size, 0, none⟩ = some (.int .i64 x1) := by rw [fc _ _ (by first | omega | (simp; omega) | simp)]; simp [go_sem, *]
  have F11x0 : w11.frozen? ⟨w9.heap.size, 0, none⟩ = false := by rw [ff _ _ (by first | omega | (simp; omega) | simp)]; simp [go_sem, *]
  have C11x1 : w11.cell? ⟨w9.heap.size, 1, none⟩ = some (.int .i64 x2) := by rw [fc _ _ (by first | omega | (simp; omega) | simp)]; simp [go_sem, *]
  have F11x1 : w11.frozen? ⟨w9.heap.size, 1, none⟩ = false := by rw [ff _ _ (by first | omega | (simp; omega) | simp)]; simp [go_sem, *]
  have C11y0 : w11.cell? ⟨w10.heap.size, 0, none⟩ = some (.int .i64 y1) := by rw [fc _ _ (by first | omega | (simp; omega) | simp)]; simp [go_sem, *]
  have F11y0 : w11.frozen? ⟨w10.heap.size, 0, none⟩ = false := by rw [ff _ _ (by first | omega | (simp; omega) | simp)]; simp [go_sem, *]
  have C11y1 : w11.cell? ⟨w10.heap.size, 1, none⟩ = some (.int .i64 y2) := by rw [fc _ _ (by first | omega | (simp; omega) | simp)]; simp [go_sem, *]
  have F11y1 : w11.frozen? ⟨w10.heap.size, 1, none⟩ = false := by rw [ff _ _ (by first | omega | (simp; omega) | simp)]; simp [go_sem, *]
  clear fc ff
  have X11 : Ext w w11 := Ext.trans (by repeat (first | (with_reducible exact Ext.refl _) | (with_reducible assumption) | (with_reducible refine Ext.alloc ?_ _) | (with_reducible refine Ext.drewN ?_ _) | (with_reducible refine Ext.drew ?_) | (with_reducible refine Ext.setCell ?_ (by simp <;> omega) _))) hx
  clear hx X10 C10a0 F10a0 C10a1 F10a1 C10b0 F10b0 C10b1 F10b1 C10c0 F10c0 C10c1 F10c1 C10s0 F10s0 C10s1 F10s1 C10t0 F10t0 C10t1 F10t1 C10p0 F10p0 C10p1 F10p1 C10q0 F10q0 C10q1 F10q1 C10x0 F10x0 C10x1 F10x1
  have l11a : w.heap.size < w11.heap.size := by omega
  have l11b : w.heap.size + 1 < w11.heap.size := by omega
  have l11c : w.heap.size + 1 + 1 < w11.heap.size := by omega
  have l11s : w5.heap.size < w11.heap.size := by omega
  have l11t : w6.heap.size < w11.heap.size := by omega
  have l11p : w7.heap.size < w11.heap.size := by omega
  have l11q : w8.heap.size < w11.heap.size := by omega
  have l11x : w9.heap.size < w11.heap.size := by omega
  have l11y : w10.heap.size < w11.heap.size := by omega
  go_wp2_with fail
  refine (HW.out _).mono ?_
  rintro e w12 ⟨rfl, hx⟩
  have fs12 : w11.heap.size + 1 ≤ w12.heap.size := by simpa using hx.size
  obtain ⟨fc, ff⟩ := And.intro hx.cells hx.marks
  have C12a0 : w12.cell? ⟨w.heap.size, 0, none⟩ = some (.int .i64 an) := by rw [fc _ _ (by first | omega | (simp; omega) | simp)]; simp [go_sem, *]
  have F12a0 : w12.frozen? ⟨w.heap.size, 0, none⟩ = false := by rw [ff _ _ (by first | omega | (simp; omega) | simp)]; simp [go_sem, *]
  have C12a1 : w12.cell? ⟨w.heap.size, 1, none⟩ = some (.int .i64 ad) := by rw [fc _ _ (by first | omega | (simp; omega) | simp)]; simp [go_sem, *]
  have F12a1 : w12.frozen? ⟨w.heap.size, 1, none⟩ = false := by rw [ff _ _ (by first | omega | (simp; omega) | simp)]; simp [go_sem, *]
  have C12b0 : w12.cell? ⟨w.heap.size + 1, 0, none⟩ = some (.int .i64 bn) := by rw [fc _ _ (by first | omega | (simp; omega) | simp)]; simp [go_sem, *]
  have F12b0 : w12.frozen? ⟨w.heap.size + 1, 0, none⟩ = false := by rw [ff _ _ (by first | omega | (simp; omega) | simp)]; simp [go_sem, *]
  have C12b1 : w12.cell? ⟨w.heap.size + 1, 1, none⟩ = some (.int .i64 bd) := by rw [fc _ _ (by first | omega | (simp; omega) | simp)]; simp [go_sem, *]
  have F12b1 : w12.frozen? ⟨w.heap.size + 1, 1, none⟩ = false := by rw [ff _ _ (by first | omega | (simp; omega) | simp)]; simp [go_sem, *]
  have C12c0 : w12.cell? ⟨w.heap.size + 1 + 1, 0, none⟩ = some (.int .i64 cn) := by rw [fc _ _ (by first | omega | (simp; omega) | simp)]; simp [go_sem, *]
  have F12c0 : w12.frozen? ⟨w.heap.size + 1 + 1, 0, none⟩ = false := by rw [ff _ _ (by first | omega | (simp; omega) | simp)]; simp [go_sem, *]
  have C12c1 : w12.cell? ⟨w.heap.size + 1 + 1, 1, none⟩ = some (.int .i64 cd) := by rw [fc _ _ (by first | omega | (simp; omega) | simp)]; simp [go_sem, *]
  have F12c1 : w12.frozen? ⟨w.heap.size + 1 + 1, 1, none⟩ = false := by rw [ff _ _ (by first | omega | (simp; omega) | simp)]; simp [go_sem, *]
  have C12s0 : w12.cell? ⟨w5.heap.size, 0, none⟩ = some (.int .i64 s1) := by rw [fc _ _ (by first | omega | (simp; omega) | simp)]; simp [go_sem, *]
  have F12s0 : w12.frozen? ⟨w5.heap.size, 0, none⟩ = false := by rw [ff _ _ (by first | omega | (simp; omega) | simp)]; simp [go_sem, *]
  have C12s1 : w12.cell? ⟨w5.heap.size, 1, none⟩ = some (.int .i64 s2) := by rw [fc _ _ (by first | omega | (simp; omega) | simp)]; simp [go_sem, *]
  have F12s1 : w12.frozen? ⟨w5.heap.size, 1, none⟩ = false := by rw [ff _ _ (by first | omega | (simp; omega) | simp)]; simp [go_sem, *]
  have C12t0 : w12.cell? ⟨w6.heap.size, 0, none⟩ = some (.int .i64 s1) := by rw [fc _ _ (by first | omega | (simp; omega) | simp)]; simp [go_sem, *]
  have F12t0 : w12.frozen? ⟨w6.heap.size, 0, none⟩ = false := by rw [ff _ _ (by first | omega | (simp; omega) | simp)]; simp [go_sem, *]
  have C12t1 : w12.cell? ⟨w6.heap.size, 1, none⟩ = some (.int .i64 s2) := by rw [fc _ _ (by first | omega | (simp; omega) | simp)]; simp [go_sem, *]
  have F12t1 : w12.frozen? ⟨w6.heap.size, 1, none⟩ = false := by rw [ff _ _ (by first | omega | (simp; omega) | simp)]; simp [go_sem, *]
  have C12p0 : w12.cell? ⟨w7.heap.size, 0, none⟩ = some (.int .i64 p1) := by rw [fc _ _ (by first | omega | (simp; omega) | simp)]; simp [go_sem, *]
  have F12p0 : w12.frozen? ⟨w7.heap.size, 0, none⟩ = false := by rw [ff _ _ (by first | omega | (simp; omega) | simp)]; simp [go_sem, *]
  have C12p1 : w12.cell? ⟨w7.heap.size, 1, none⟩ = some (.int .i64 p2) := by rw [fc _ _ (by first | omega | (simp; omega) | simp)]; simp [go_sem, *]
  have F12p1 : w12.frozen? ⟨w7.heap.size, 1, none⟩ = false := by rw [ff _ _ (by first | omega | (simp; omega) | simp)]; simp [go_sem, *]
  have C12q0 : w12.cell? ⟨w8.heap.size, 0, none⟩ = some (.int .i64 p1) := by rw [fc _ _ (by first | omega | (simp; omega) | simp)]; simp [go_sem, *]
  have F12q0 : w12.frozen? ⟨w8.heap.size, 0, none⟩ = false := by rw [ff _ _ (by first | omega | (simp; omega) | simp)]; simp [go_sem, *]
  have C12q1 : w12.cell? ⟨w8.heap.size, 1, none⟩ = some (.int .i64 p2) := by rw [fc _ _ (by first | omega | (simp; omega) | simp)]; simp [go_sem, *]
  have F12q1 : w12.frozen? ⟨w8.heap.size, 1, none⟩ = false := by rw [ff _ _ (by first | omega | (simp; omega) | simp)]; simp [go_sem, *]
  have C12x0 : w12.cell? ⟨w9.heap.size, 0, none⟩ = some (.int .i64 x1) := by rw [fc _ _ (by first | omega | (simp; omega) | simp)]; simp [go_sem, *]
  have F12x0 : w12.frozen? ⟨w9.heap.size, 0, none⟩ = false := by rw [ff _ _ (by first | omega | (simp; omega) | simp)]; simp [go_sem, *]
  have C12x1 : w12.cell? ⟨w9.heap.size, 1, none⟩ = some (.int .i64 x2) := by rw [fc _ _ (by first | omega | (simp; omega) | simp)]; simp [go_sem, *]
  have F12x1 : w12.frozen? ⟨w9.heap.size, 1, none⟩ = false := by rw [ff _ _ (by first | omega | (simp; omega) | simp)]; simp [go_sem, *]
  have C12y0 : w12.cell? ⟨w10.heap.size, 0, none⟩ = some (.int .i64 y1) := by rw [fc _ _ (by first | omega | (simp; omega) | simp)]; simp [go_sem, *]
  have F12y0 : w12.frozen? ⟨w10.heap.size, 0, none⟩ = false := by rw [ff _ _ (by first | omega | (simp; omega) | simp)]; simp [go_sem, *]
  have C12y1 : w12.cell? ⟨w10.heap.size, 1, none⟩ = some (.int .i64 y2) := by rw [fc _ _ (by first | omega | (simp; omega) | simp)]; simp [go_sem, *]
  have F12y1 : w12.frozen? ⟨w10.heap.size, 1, none⟩ = false := by rw [ff _ _ (by first | omega | (simp; omega) | simp)]; simp [go_sem, *]
  have C12z0 : w12.cell? ⟨w11.heap.size, 0, none⟩ = some (.int .i64 z1) := by rw [fc _ _ (by first | omega | (simp; omega) | simp)]; simp [go_sem, *]
  have F12z0 : w12.frozen? ⟨w11.heap.size, 0, none⟩ = false := by rw [ff _ _ (by first | omega | (simp; omega) | simp)]; simp [go_sem, *]
  have C12z1 : w12.cell? ⟨w11.heap.size, 1, none⟩ = some (.int .i64 z2) := by rw [fc _ _ (by first | omega | (simp; omega) | simp)]; simp [go_sem, *]
  have F12z1 : w12.frozen? ⟨w11.heap.size, 1, none⟩ = false := by rw [ff _ _ (by first | omega | (simp; omega) | simp)]; simp [go_sem, *]
  clear fc ff
  have X12 : Ext w w12 := Ext.trans (by repeat (first | (with_reducible exact Ext.refl _) | (with_reducible assumption) | (with_reducible refine Ext.alloc ?_ _) | (with_reducible refine Ext.drewN ?_ _) | (with_reducible refine Ext.drew ?_) | (with_reducible refine Ext.setCell ?_ (by simp <;> omega) _))) hx
  clear hx X11 C11a0 F11a0 C11a1 F11a1 C11b0 F11b0 C11b1 F11b1 C11c0 F11c0 C11c1 F11c1 C11s0 F11s0 C11s1 F11s1 C11t0 F11t0 C11t1 F11t1 C11p0 F11p0 C11p1 F11p1 C11q0 F11q0 C11q1 F11q1 C11x0 F11x0 C11x1 F11x1 C11y0 F11y0 C11y1 F11y1
  have l12a : w.heap.size < w12.heap.size := by omega
  have l12b : w.heap.size + 1 < w12.heap.size := by omega
  have l12c : w.heap.size + 1 + 1 < w12.heap.size := by omega
  have l12s : w5.heap.size < w12.heap.size := by omega
  have l12t : w6.heap.size < w12.heap.size := by omega
  have l12p : w7.heap.size < w12.heap.size := by omega
  have l12q : w8.heap.size < w12.heap.size := by omega
  have l12x : w9.heap.size < w12.heap.size := by omega
  have l12y : w10.heap.size < w12.heap.size := by omega
  have l12z : w11.heap.size < w12.heap.size := by omega
  go_wp2_with fail
  go_ret
  exact ⟨rfl, (by repeat (first | (with_reducible exact Ext.refl _) | (with_reducible assumption) | (with_reducible refine Ext.alloc ?_ _) | (with_reducible refine Ext.drewN ?_ _) | (with_reducible refine Ext.drew ?_) | (with_reducible refine Ext.setCell ?_ (by simp <;> omega) _)))⟩

set_option maxRecDepth 100000 in
set_option maxHeartbeats 1000000 in
theorem laws_1 (an ad bn bd cn cd s1 s2 p1 p2 pe x1 x2 y1 y2 z1 z2 v1 v2 ye ze ve : Int) (w : World) (G : Globs w) (hVa : ∀ W : World, Calls Tryd.prog 17 #[.agg #[.int .i64 an, .int .i64 ad]] W fun e w' => e = .returned (.bool true) ∧ Ext W w') (hVb : ∀ W : World, Calls Tryd.prog 17 #[.agg #[.int .i64 bn, .int .i64 bd]] W fun e w' => e = .returned (.bool true) ∧ Ext W w') (hVc : ∀ W : World, Calls Tryd.prog 17 #[.agg #[.int .i64 cn, .int .i64 cd]] W fun e w' => e = .returned (.bool true) ∧ Ext W w') (hSab : ∀ W : World, Calls Tryd.prog 23 #[.agg #[.int .i64 an, .int .i64 ad], .agg #[.int .i64 bn, .int .i64 bd]] W fun e w' => e = .returned (.tuple #[.agg #[.int .i64 s1, .int .i64 s2], .int .i64 0]) ∧ Ext W w') (hSba : ∀ W : World, Calls Tryd.prog 23 #[.agg #[.int .i64 bn, .int .i64 bd], .agg #[.int .i64 an, .int .i64 ad]] W fun e w' => e = .returned (.tuple #[.agg #[.int .i64 s1, .int .i64 s2], .int .i64 0]) ∧ Ext W w') (hPab : ∀ W : World, Calls Tryd.prog 27 #[.agg #[.int .i64 an, .int .i64 ad], .agg #[.int .i64 bn, .int .i64 bd]] W fun e w' => e = .returned (.tuple #[.agg #[.int .i64 p1, .int .i64 p2], .int .i64 pe]) ∧ Ext W w') (hPba : ∀ W : World, Calls Tryd.prog 27 #[.agg #[.int .i64 bn, .int .i64 bd], .agg #[.int .i64 an, .int .i64 ad]] W fun e w' => e = .returned (.tuple #[.agg #[.int .i64 p1, .int .i64 p2], .int .i64 pe]) ∧ Ext W w') (hX : ∀ W : World, Calls Tryd.prog 27 #[.agg #[.int .i64 s1, .int .i64 s2], .agg #[.int .i64 cn, .int .i64 cd]] W fun e w' => e = .returned (.tuple #[.agg #[.int .i64 x1, .int .i64 x2], .int .i64 3]) ∧ Ext W w') (hY : ∀ W : World, Calls Tryd.prog 27 #[.agg #[.int .i64 an, .int .i64 ad], .agg #[.int .i64 cn, .int .i64 cd]] W fun e w' => e = .returned (.tuple #[.agg #[.int .i64 y1, .int .i64 y2], .int .i64 ye]) ∧ Ext W w') (hZ : ∀ W : World, Calls Tryd.prog 27 #[.agg #[.int .i64 bn, .int .i64 bd], .agg #[.int .i64 cn, .int .i64 cd]] W fun e w' => e = .returned (.tuple #[.agg #[.int .i64 z1, .int .i64 z2], .int .i64 ze]) ∧ Ext W w') (hW : ∀ W : World, Calls Tryd.prog 23 #[.agg #[.int .i64 y1, .int .i64 y2], .agg #[.int .i64 z1, .int .i64 z2]] W fun e w' => e = .returned (.tuple #[.agg #[.int .i64 v1, .int .i64 v2], .int .i64 ve]) ∧ Ext W w')  :
    Calls Tryd.prog 9 #[.agg #[.int .i64 an, .int .i64 ad], .agg #[.int .i64 bn, .int .i64 bd], .agg #[.int .i64 cn, .int .i64 cd]] w fun e w' => e = .returned (.bool true) ∧ Ext w w' := by
  have HA := Lib.hid (fun W (G : Globs W) => awake_any W G)
  have HG := Lib.hid G
  have HVa := Lib.hid hVa
  have HVb := Lib.hid hVb
  have HVc := Lib.hid hVc
  have HSab := Lib.hid hSab
  have HSba := Lib.hid hSba
  have HPab := Lib.hid hPab
  have HPba := Lib.hid hPba
  have HX := Lib.hid hX
  have HY := Lib.hid hY
  have HZ := Lib.hid hZ
  have HW := Lib.hid hW
  clear G hVa hVb hVc hSab hSba hPab hPba hX hY hZ hW
  go_enter Tryd.func9, Tryd.ntmps9
  go_wp2_with fail
  refine (HA.out _ (HG.out.ext (by repeat (first | (with_reducible exact Ext.refl _) | (with_reducible assumption) | (with_reducible refine Ext.alloc ?_ _) | (with_reducible refine Ext.drewN ?_ _) | (with_reducible refine Ext.drew ?_) | (with_reducible refine Ext.setCell ?_ (by simp <;> omega) _))))).mono ?_
  rintro e w1 ⟨rfl, hx⟩
  have fs1 : w.heap.size + 1 + 1 + 1 ≤ w1.heap.size := by simpa using hx.size
  obtain ⟨fc, ff⟩ := And.intro hx.cells hx.marks
  have C1a0 : w1.cell? ⟨w.heap.size, 0, none⟩ = some (.int .i64 an) := by rw [fc _ _ (by first | omega | (simp; omega) | simp)]; simp [go_sem, *]
  have F1a0 : w1.frozen? ⟨w.heap.size, 0, none⟩ = false := by rw [ff _ _ (by first | omega | (simp; omega) | simp)]; simp [go_sem, *]
  have C1a1 : w1.cell? ⟨w.heap.size, 1, none⟩ = some (.int .i64 ad) := by rw [fc _ _ (by first | omega | (simp; omega) | simp)]; simp [go_sem, *]
  have F1a1 : w1.frozen? ⟨w.heap.size, 1, none⟩ = false := by rw [ff _ _ (by first | omega | (simp; omega) | simp)]; simp [go_sem, *]
  have C1b0 : w1.cell? ⟨w.heap.size + 1, 0, none⟩ = some (.int .i64 bn) := by rw [fc _ _ (by first | omega | (simp; omega) | simp)]; simp [go_sem, *]
  have F1b0 : w1.frozen? ⟨w.heap.size + 1, 0, none⟩ = false := by rw [ff _ _ (by first | omega | (simp; omega) | simp)]; simp [go_sem, *]
  have C1b1 : w1.cell? ⟨w.heap.size + 1, 1, none⟩ = some (.int .i64 bd) := by rw [fc _ _ (by first | omega | (simp; omega) | simp)]; simp [go_sem, *]
  have F1b1 : w1.frozen? ⟨w.heap.size + 1, 1, none⟩ = false := by rw [ff _ _ (by first | omega | (simp; omega) | simp)]; simp [go_sem, *]
  have C1c0 : w1.cell? ⟨w.heap.size + 1 + 1, 0, none⟩ = some (.int .i64 cn) := by rw [fc _ _ (by first | omega | (simp; omega) | simp)]; simp [go_sem, *]
  have F1c0 : w1.frozen? ⟨w.heap.size + 1 + 1, 0, none⟩ = false := by rw [ff _ _ (by first | omega | (simp; omega) | simp)]; simp [go_sem, *]
  have C1c1 : w1.cell? ⟨w.heap.size + 1 + 1, 1, none⟩ = some (.int .i64 cd) := by rw [fc _ _ (by first | omega | (simp; omega) | simp)]; simp [go_sem, *]
  have F1c1 : w1.frozen? ⟨w.heap.size + 1 + 1, 1, none⟩ = false := by rw [ff _ _ (by first | omega | (simp; omega) | simp)]; simp [go_sem, *]
  clear fc ff
  have X1 : Ext w w1 := Ext.trans (by repeat (first | (with_reducible exact Ext.refl _) | (with_reducible assumption) | (with_reducible refine Ext.alloc ?_ _) | (with_reducible refine Ext.drewN ?_ _) | (with_reducible refine Ext.drew ?_) | (with_reducible refine Ext.setCell ?_ (by simp <;> omega) _))) hx
  clear hx 
  have l1a : w.heap.size < w1.heap.size := by omega
  have l1b : w.heap.size + 1 < w1.heap.size := by omega
  have l1c : w.heap.size + 1 + 1 < w1.heap.size := by omega
  go_wp2_with fail
  refine (HVa.out _).mono ?_
  rintro e w2 ⟨rfl, hx⟩
  have fs2 : w1.heap.size ≤ w2.heap.size := by simpa using hx.size
  obtain ⟨fc, ff⟩ := And.intro hx.cells hx.marks
  have C2a0 : w2.cell? ⟨w.heap.size, 0, none⟩ = some (.int .i64 an) := by rw [fc _ _ (by first | omega | (simp; omega) | simp)]; simp [go_sem, *]
  have F2a0 : w2.frozen? ⟨w.heap.size, 0, none⟩ = false := by rw [ff _ _ (by first | omega | (simp; omega) | simp)]; simp [go_sem, *]
  have C2a1 : w2.cell? ⟨w.heap.size, 1, none⟩ = some (.int .i64 ad) := by rw [fc _ _ (by first | omega | (simp; omega) | simp)]; simp [go_sem, *]
  have F2a1 : w2.frozen? ⟨w.heap.size, 1, none⟩ = false := by rw [ff _ _ (by first | omega | (simp; omega) | simp)]; simp [go_sem, *]
  have C2b0 : w2.cell? ⟨w.heap.size + 1, 0, none⟩ = some (.int .i64 bn) := by rw [fc _ _ (by first | omega | (simp; omega) | simp)]; simp [go_sem, *]
  have F2b0 : w2.frozen? ⟨w.heap.size + 1, 0, none⟩ = false := by rw [ff _ _ (by first | omega | (simp; omega) | simp)]; simp [go_sem, *]
  have C2b1 : w2.cell? ⟨w.heap.size + 1, 1, none⟩ = some (.int .i64 bd) := by rw [fc _ _ (by first | omega | (simp; omega) | simp)]; simp [go_sem, *]
  have F2b1 : w2.frozen? ⟨w.heap.size + 1, 1, none⟩ = false := by rw [ff _ _ (by first | omega | (simp; omega) | simp)]; simp [go_sem, *]
  have C2c0 : w2.cell? ⟨w.heap.size + 1 + 1, 0, none⟩ = some (.int .i64 cn) := by rw [fc _ _ (by first | omega | (simp; omega) | simp)]; simp [go_sem, *]
  have F2c0 : w2.frozen? ⟨w.heap.size + 1 + 1, 0, none⟩ = false := by rw [ff _ _ (by first | omega | (simp; omega) | simp)]; simp [go_sem, *]
  have C2c1 : w2.cell? ⟨w.heap.size + 1 + 1, 1, none⟩ = some (.int .i64 cd) := by rw [fc _ _ (by first | omega | (simp; omega) | simp)]; simp [go_sem, *]
  have F2c1 : w2.frozen? ⟨w.heap.size + 1 + 1, 1, none⟩ = false := by rw [ff _ _ (by first | omega | (simp; omega) | simp)]; simp [go_sem, *]
  clear fc ff
  have X2 : Ext w w2 := Ext.trans (by repeat (first | (with_reducible exact Ext.refl _) | (with_reducible assumption) | (with_reducible refine Ext.alloc ?_ _) | (with_reducible refine Ext.drewN ?_ _) | (with_reducible refine Ext.drew ?_) | (with_reducible refine Ext.setCell ?_ (by simp <;> omega) _))) hx
  clear hx X1 C1a0 F1a0 C1a1 F1a1 C1b0 F1b0 C1b1 F1b1 C1c0 F1c0 C1c1 F1c1
  have l2a : w.heap.size < w2.heap.size := by omega
  have l2b : w.heap.size + 1 < w2.heap.size := by omega
  have l2c : w.heap.size + 1 + 1 < w2.heap.size := by omega
  go_wp2_with fail
  refine (HVb.out _).mono ?_
  rintro e w3 ⟨rfl, hx⟩
  have fs3 : w2.heap.size ≤ w3.heap.size := by simpa using hx.size
  obtain ⟨fc, ff⟩ := And.intro hx.cells hx.marks
  have C3a0 : w3.cell? ⟨w.heap.size, 0, none⟩ = some (.int .i64 an) := by rw [fc _ _ (by first | omega | (simp; omega) | simp)]; simp [go_sem, *]
  have F3a0 : w3.frozen? ⟨w.heap.size, 0, none⟩ = false := by rw [ff _ _ (by first | omega | (simp; omega) | simp)]; simp [go_sem, *]
  have C3a1 : w3.cell? ⟨w.heap.size, 1, none⟩ = some (.int .i64 ad) := by rw [fc _ _ (by first | omega | (simp; omega) | simp)]; simp [go_sem, *]
  have F3a1 : w3.frozen? ⟨w.heap.size, 1, none⟩ = false := by rw [ff _ _ (by first | omega | (simp; omega) | simp)]; simp [go_sem, *]
  have C3b0 : w3.cell? ⟨w.heap.size + 1, 0, none⟩ = some (.int .i64 bn) := by rw [fc _ _ (by first | omega | (simp; omega) | simp)]; simp [go_sem, *]
  have F3b0 : w3.frozen? ⟨w.heap.size + 1, 0, none⟩ = false := by rw [ff _ _ (by first | omega | (simp; omega) | simp)]; simp [go_sem, *]
  have C3b1 : w3.cell? ⟨w.heap.size + 1, 1, none⟩ = some (.int .i64 bd) := by rw [fc _ _ (by first | omega | (simp; omega) | simp)]; simp [go_sem, *]
  have F3b1 : w3.frozen? ⟨w.heap.size + 1, 1, none⟩ = false := by rw [ff _ _ (by first | omega | (simp; omega) | simp)]; simp [go_sem, *]
  have C3c0 : w3.cell? ⟨w.heap.size + 1 + 1, 0, none⟩ = some (.int .i64 cn) := by rw [fc _ _ (by first | omega | (simp; omega) | simp)]; simp [go_sem, *]
  have F3c0 : w3.frozen? ⟨w.heap.size + 1 + 1, 0, none⟩ = false := by rw [ff _ _ (by first | omega | (simp; omega) | simp)]; simp [go_sem, *]
  have C3c1 : w3.cell? ⟨w.heap.size + 1 + 1, 1, none⟩ = some (.int .i64 cd) := by rw [fc _ _ (by first | omega | (simp; omega) | simp)]; simp [go_sem, *]
  have F3c1 : w3.frozen? ⟨w.heap.size + 1 + 1, 1, none⟩ = false := by rw [ff _ _ (by first | omega | (simp; omega) | simp)]; simp [go_sem, *]
  clear fc ff
  have X3 : Ext w w3 := Ext.trans (by repeat (first | (with_reducible exact Ext.refl _) | (with_reducible assumption) | (with_reducible refine Ext.alloc ?_ _) | (with_reducible refine Ext.drewN ?_ _) | (with_reducible refine Ext.drew ?_) | (with_reducible refine Ext.setCell ?_ (by simp <;> omega) _))) hx
  clear hx X2 C2a0 F2a0 C2a1 F2a1 C2b0 F2b0 C2b1 F2b1 C2c0 F2c0 C2c1 F2c1
  have l3a : w.heap.size < w3.heap.size := by omega
  have l3b : w.heap.size + 1 < w3.heap.size := by omega
  have l3c : w.heap.size + 1 + 1 < w3.heap.size := by omega
  go_wp2_with fail
  refine (HVc.out _).mono ?_
  rintro e w4 ⟨rfl, hx⟩
  have fs4 : w3.heap.size ≤ w4.heap.size := by simpa using hx.size
  obtain ⟨fc, ff⟩ := And.intro hx.cells hx.marks
  have C4a0 : w4.cell? ⟨w.heap.size, 0, none⟩ = some (.int .i64 an) := by rw [fc _ _ (by first | omega | (simp; omega) | simp)]; simp [go_sem, *]
  have F4a0 : w4.frozen? ⟨w.heap.size, 0, none⟩ = false := by rw [ff _ _ (by first | omega | (simp; omega) | simp)]; simp [go_sem, *]
  have C4a1 : w4.cell? ⟨w.heap.size, 1, none⟩ = some (.int .i64 ad) := by rw [fc _ _ (by first | omega | (simp; omega) | simp)]; simp [go_sem, *]
  have F4a1 : w4.frozen? ⟨w.heap.size, 1, none⟩ = false := by rw [ff _ _ (by first | omega | (simp; omega) | simp)]; simp [go_sem, *]
  have C4b0 : w4.cell? ⟨w.heap.size + 1, 0, none⟩ = some (.int .i64 bn) := by rw [fc _ _ (by first | omega | (simp; omega) | simp)]; simp [go_sem, *]
  have F4b0 : w4.frozen? ⟨w.heap.size + 1, 0, none⟩ = false := by rw [ff _ _ (by first | omega | (simp; omega) | simp)]; simp [go_sem, *]
  have C4b1 : w4.cell? ⟨w.heap.size + 1, 1, none⟩ = some (.int .i64 bd) := by rw [fc _ _ (by first | omega | (simp; omega) | simp)]; simp [go_sem, *]
  have F4b1 : w4.frozen? ⟨w.heap.size + 1, 1, none⟩ = false := by rw [ff _ _ (by first | omega | (simp; omega) | simp)]; simp [go_sem, *]
  have C4c0 : w4.cell? ⟨w.heap.size + 1 + 1, 0, none⟩ = some (.int .i64 cn) := by rw [fc _ _ (by first | omega | (simp; omega) | simp)]; simp [go_sem, *]
  have F4c0 : w4.frozen? ⟨w.heap.size + 1 + 1, 0, none⟩ = false := by rw [ff _ _ (by first | omega | (simp; omega) | simp)]; simp [go_sem, *]
  have C4c1 : w4.cell? ⟨w.heap.size + 1 + 1, 1, none⟩ = some (.int .i64 cd) := by rw [fc _ _ (by first | omega | (simp; omega) | simp)]; simp [go_sem, *]
  have F4c1 : w4.frozen? ⟨w.heap.size + 1 + 1, 1, none⟩ = false := by rw [ff _ _ (by first | omega | (simp; omega) | simp)]; simp [go_sem, *]
  clear fc ff
  have X4 : Ext w w4 := Ext.trans (by repeat (first | (with_reducible exact Ext.refl _) | (with_reducible assumption) | (with_reducible refine Ext.alloc ?_ _) | (with_reducible refine Ext.drewN ?_ _) | (with_reducible refine Ext.drew ?_) | (with_reducible refine Ext.setCell ?_ (by simp <;> omega) _))) hx
  clear hx X3 C3a0 F3a0 C3a1 F3a1 C3b0 F3b0 C3b1 F3b1 C3c0 F3c0 C3c1 F3c1
  have l4a : w.heap.size < w4.heap.size := by omega
  have l4b : w.heap.size + 1 < w4.heap.size := by omega
  have l4c : w.heap.size + 1 + 1 < w4.heap.size := by omega
  go_wp2_with fail
  refine (HSab.out _).mono ?_
  rintro e w5 ⟨rfl, hx⟩
  have fs5 : w4.heap.size ≤ w5.heap.size := by simpa using hx.size
  obtain ⟨fc, ff⟩ := And.intro hx.cells hx.marks
  have C5a0 : w5.cell? ⟨w.heap.size, 0, none⟩ = some (.int .i64 an) := by rw [fc _ _ (by first | omega | (simp; omega) | simp)]; simp [go_sem, *]
  have F5a0 : w5.frozen? ⟨w.heap.size, 0, none⟩ = false := by rw [ff _ _ (by first | omega | (simp; omega) | simp)]; simp [go_sem, *]
  have C5a1 : w5.cell? ⟨w.heap.size, 1, none⟩ = some (.int .i64 ad) := by rw [fc _ _ (by first | omega | (simp; omega) | simp)]; simp [go_sem, *]
  have F5a1 : w5.frozen? ⟨w.heap.size, 1, none⟩ = false := by rw [ff _ _ (by first | omega | (simp; omega) | simp)]; simp [go_sem, *]
  have C5b0 : w5.cell? ⟨w.heap.size + 1, 0, none⟩ = some (.int .i64 bn) := by rw [fc _ _ (by first | omega | (simp; omega) | simp)]; simp [go_sem, *]
  have F5b0 : w5.frozen? ⟨w.heap.size + 1, 0, none⟩ = false := by rw [ff _ _ (by first | omega | (simp; omega) | simp)]; simp [go_sem, *]
  have C5b1 : w5.cell? ⟨w.heap.size + 1, 1, none⟩ = some (.int .i64 bd) := by rw [fc _ _ (by first | omega | (simp; omega) | simp)]; simp [go_sem, *]
  have F5b1 : w5.frozen? ⟨w.heap.size + 1, 1, none⟩ = false := by rw [ff _ _ (by first | omega | (simp; omega) | simp)]; simp [go_sem, *]
  have C5c0 : w5.cell? ⟨w.heap.size + 1 + 1, 0, none⟩ = some (.int .i64 cn) := by rw [fc _ _ (by first | omega | (simp; omega) | simp)]; simp [go_sem, *]
  have F5c0 : w5.frozen? ⟨w.heap.size + 1 + 1, 0, none⟩ = false := by rw [ff _ _ (by first | omega | (simp; omega) | simp)]; simp [go_sem, *]
  have C5c1 : w5.cell? ⟨w.heap.size + 1 + 1, 1, none⟩ = some (.int .i64 cd) := by rw [fc _ _ (by first | omega | (simp; omega) | simp)]; simp [go_sem, *]
  have F5c1 : w5.frozen? ⟨w.heap.size + 1 + 1, 1, none⟩ = false := by rw [ff _ _ (by first | omega | (simp; omega) | simp)]; simp [go_sem, *]
  clear fc ff
  have X5 : Ext w w5 := Ext.trans (by repeat (first | (with_reducible exact Ext.refl _) | (with_reducible assumption) | (with_reducible refine Ext.alloc ?_ _) | (with_reducible refine Ext.drewN ?_ _) | (with_reducible refine Ext.drew ?_) | (with_reducible refine Ext.setCell ?_ (by simp <;> omega) _))) hx
  clear hx X4 C4a0 F4a0 C4a1 F4a1 C4b0 F4b0 C4b1 F4b1 C4c0 F4c0 C4c1 F4c1
  have l5a : w.heap.size < w5.heap.size := by omega
  have l5b : w.heap.size + 1 < w5.heap.size := by omega
  have l5c : w.heap.size + 1 + 1 < w5.heap.size := by omega
  go_wp2_with fail
  refine (HSba.out _).mono ?_
  rintro e w6 ⟨rfl, hx⟩
  have fs6 : w5.heap.size + 1 ≤ w6.heap.size := by simpa using hx.size
  obtain ⟨fc, ff⟩ := And.intro hx.cells hx.marks
  have C6a0 : w6.cell? ⟨w.heap.size, 0, none⟩ = some (.int .i64 an) := by rw [fc _ _ (by first | omega | (simp; omega) | simp)]; simp [go_sem, *]
  have F6a0 : w6.frozen? ⟨w.heap.size, 0, none⟩ = false := by rw [ff _ _ (by first | omega | (simp; omega) | simp)]; simp [go_sem, *]
  have C6a1 : w6.cell? ⟨w.heap.size, 1, none⟩ = some (.int .i64 ad) := by rw [fc _ _ (by first | omega | (simp; omega) | simp)]; simp [go_sem, *]
  have F6a1 : w6.frozen? ⟨w.heap.size, 1, none⟩ = false := by rw [ff _ _ (by first | omega | (simp; omega) | simp)]; simp [go_sem, *]
  have C6b0 : w6.cell? ⟨w.heap.size + 1, 0, none⟩ = some (.int .i64 bn) := by rw [fc _ _ (by first | omega | (simp; omega) | simp)]; simp [go_sem, *]
  have F6b0 : w6.frozen? ⟨w.heap.size + 1, 0, none⟩ = false := by rw [ff _ _ (by first | omega | (simp; omega) | simp)]; simp [go_sem, *]
  have C6b1 : w6.cell? ⟨w.heap.size + 1, 1, none⟩ = some (.int .i64 bd) := by rw [fc _ _ (by first | omega | (simp; omega) | simp)]; simp [go_sem, *]
  have F6b1 : w6.frozen? ⟨w.heap.size + 1, 1, none⟩ = false := by rw [ff _ _ (by first | omega | (simp; omega) | simp)]; simp [go_sem, *]
  have C6c0 : w6.cell? ⟨w.heap.size + 1 + 1, 0, none⟩ = some (.int .i64 cn) := by rw [fc _ _ (by first | omega | (simp; omega) | simp)]; simp [go_sem, *]
  have F6c0 : w6.frozen? ⟨w.heap.size + 1 + 1, 0, none⟩ = false := by rw [ff _ _ (by first | omega | (simp; omega) | simp)]; simp [go_sem, *]
  have C6c1 : w6.cell? ⟨w.heap.size + 1 + 1, 1, none⟩ = some (.int .i64 cd) := by rw [fc _ _ (by first | omega | (simp; omega) | simp)]; simp [go_sem, *]
  have F6c1 : w6.frozen? ⟨w.heap.size + 1 + 1, 1, none⟩ = false := by rw [ff _ _ (by first | omega | (simp; omega) | simp)]; simp [go_sem, *]
  have C6s0 : w6.cell? ⟨w5.heap.size, 0, none⟩ = some (.int .i64 s1) := by rw [fc _ _ (by first | omega | (simp; omega) | simp)]; simp [go_sem, *]
  have F6s0 : w6.frozen? ⟨w5.heap.size, 0, none⟩ = false := by rw [ff _ _ (by first | omega | (simp; omega) | simp)]; simp [go_sem, *]
  have C6s1 : w6.cell? ⟨w5.heap.size, 1, none⟩ = some (.int .i64 s2) := by rw [fc _ _ (by first | omega | (simp; omega) | simp)]; simp [go_sem, *]
  have F6s1 : w6.frozen? ⟨w5.heap.size, 1, none⟩ = false := by rw [ff _ _ (by first | omega | (simp; omega) | simp)]; simp [go_sem, *]
  clear fc ff
  have X6 : Ext w w6 := Ext.trans (by repeat (first | (with_reducible exact Ext.refl _) | (with_reducible assumption) | (with_reducible refine Ext.alloc ?_ _) | (with_reducible refine Ext.drewN ?_ _) | (with_reducible refine Ext.drew ?_) | (with_reducible refine Ext.setCell ?_ (by simp <;> omega) _))) hx
  clear hx X5 C5a0 F5a0 C5a1 F5a1 C5b0 F5b0 C5b1 F5b1 C5c0 F5c0 C5c1 F5c1
  have l6a : w.heap.size < w6.heap.size := by omega
  have l6b : w.heap.size + 1 < w6.heap.size := by omega
  have l6c : w.heap.size + 1 + 1 < w6.heap.size := by omega
  have l6s : w5.heap.size < w6.heap.size := by omega
  go_wp2_with fail
  refine (HPab.out _).mono ?_
  rintro e w7 ⟨rfl, hx⟩
  have fs7 : w6.heap.size + 1 ≤ w7.heap.size := by simpa using hx.size
  obtain ⟨fc, ff⟩ := And.intro hx.cells hx.marks
  have C7a0 : w7.cell? ⟨w.heap.size, 0, none⟩ = some (.int .i64 an) := by rw [fc _ _ (by first | omega | (simp; omega) | simp)]; simp [go_sem, *]
  have F7a0 : w7.frozen? ⟨w.heap.size, 0, none⟩ = false := by rw [ff _ _ (by first | omega | (simp; omega) | simp)]; simp [go_sem, *]
  have C7a1 : w7.cell? ⟨w.heap.size, 1, none⟩ = some (.int .i64 ad) := by rw [fc _ _ (by first | omega | (simp; omega) | simp)]; simp [go_sem, *]
  have F7a1 : w7.frozen? ⟨w.heap.size, 1, none⟩ = false := by rw [ff _ _ (by first | omega | (simp; omega) | simp)]; simp [go_sem, *]
  have C7b0 : w7.cell? ⟨w.heap.size + 1, 0, none⟩ = some (.int .i64 bn) := by rw [fc _ _ (by first | omega | (simp; omega) | simp)]; simp [go_sem, *]
  have F7b0 : w7.frozen? ⟨w.heap.size + 1, 0, none⟩ = false := by rw [ff _ _ (by first | omega | (simp; omega) | simp)]; simp [go_sem, *]
  have C7b1 : w7.cell? ⟨w.heap.size + 1, 1, none⟩ = some (.int .i64 bd) := by rw [fc _ _ (by first | omega | (simp; omega) | simp)]; simp [go_sem, *]
  have F7b1 : w7.frozen? ⟨w.heap.size + 1, 1, none⟩ = false := by rw [ff _ _ (by first | omega | (simp; omega) | simp)]; simp [go_sem, *]
  have C7c0 : w7.cell? ⟨w.heap.size + 1 + 1, 0, none⟩ = some (.int .i64 cn) := by rw [fc _ _ (by first | omega | (simp; omega) | simp)]; simp [go_sem, *]
  have F7c0 : w7.frozen? ⟨w.heap.size + 1 + 1, 0, none⟩ = false := by rw [ff _ _ (by first | omega | (simp; omega) | simp)]; simp [go_sem, *]
  have C7c1 : w7.cell? ⟨w.heap.size + 1 + 1, 1, none⟩ = some (.int .i64 cd) := by rw [fc _ _ (by first | omega | (simp; omega) | simp)]; simp [go_sem, *]
  have F7c1 : w7.frozen? ⟨w.heap.size + 1 + 1, 1, none⟩ = false := by rw [ff _ _ (by first | omega | (simp; omega) | simp)]; simp [go_sem, *]
  have C7s0 : w7.cell? ⟨w5.heap.size, 0, none⟩ = some (.int .i64 s1) := by rw [fc _ _ (by first | omega | (simp; omega) | simp)]; simp [go_sem, *]
  have F7s0 : w7.frozen? ⟨w5.heap.size, 0, none⟩ = false := by rw [ff _ _ (by first | omega | (simp; omega) | simp)]; simp [go_sem, *]
  have C7s1 : w7.cell? ⟨w5.heap.size, 1, none⟩ = some (.int .i64 s2) := by rw [fc _ _ (by first | omega | (simp; omega) | simp)]; simp [go_sem, *]
  have F7s1 : w7.frozen? ⟨w5.heap.size, 1, none⟩ = false := by rw [ff _ _ (by first | omega | (simp; omega) | simp)]; simp [go_sem, *]
  have C7t0 : w7.cell? ⟨w6.heap.size, 0, none⟩ = some (.int .i64 s1) := by rw [fc _ _ (by first | omega | (simp; omega) | simp)]; simp [go_sem, *]
  have F7t0 : w7.frozen? ⟨w6.heap.size, 0, none⟩ = false := by rw [ff _ _ (by first | omega | (simp; omega) | simp)]; simp [go_sem, *]
  have C7t1 : w7.cell? ⟨w6.heap.size, 1, none⟩ = some (.int .i64 s2) := by rw [fc _ _ (by first | omega | (simp; omega) | simp)]; simp [go_sem, *]
  have F7t1 : w7.frozen? ⟨w6.heap.size, 1, none⟩ = false := by rw [ff _ _ (by first | omega | (simp; omega) | simp)]; simp [go_sem, *]
  clear fc ff
  have X7 : Ext w w7 := Ext.trans (by repeat (first | (with_reducible exact Ext.refl _) | (with_reducible assumption) | (with_reducible refine Ext.alloc ?_ _) | (with_reducible refine Ext.drewN ?_ _) | (with_reducible refine Ext.drew ?_) | (with_reducible refine Ext.setCell ?_ (by simp <;> omega) _))) hx
  clear hx X6 C6a0 F6a0 C6a1 F6a1 C6b0 F6b0 C6b1 F6b1 C6c0 F6c0 C6c1 F6c1 C6s0 F6s0 C6s1 F6s1
  have l7a : w.heap.size < w7.heap.size := by omega
  have l7b : w.heap.size + 1 < w7.heap.size := by omega
  have l7c : w.heap.size + 1 + 1 < w7.heap.size := by omega
  have l7s : w5.heap.size < w7.heap.size := by omega
  have l7t : w6.heap.size < w7.heap.size := by omega
  go_wp2_with fail
  refine (HPba.out _).mono ?_
  rintro e w8 ⟨rfl, hx⟩
  have fs8 : w7.heap.size + 1 ≤ w8.heap.size := by simpa using hx.size
  obtain ⟨fc, ff⟩ := And.intro hx.cells hx.marks
  have C8a0 : w8.cell? ⟨w.heap.size, 0, none⟩ = some (.int .i64 an) := by rw [fc _ _ (by first | omega | (simp; omega) | simp)]; simp [go_sem, *]
  have F8a0 : w8.frozen? ⟨w.heap.size, 0, none⟩ = false := by rw [ff _ _ (by first | omega | (simp; omega) | simp)]; simp [go_sem, *]
  have C8a1 : w8.cell? ⟨w.heap.size, 1, none⟩ = some (.int .i64 ad) := by rw [fc _ _ (by first | omega | (simp; omega) | simp)]; simp [go_sem, *]
  have F8a1 : w8.frozen? ⟨w.heap.size, 1, none⟩ = false := by rw [ff _ _ (by first | omega | (simp; omega) | simp)]; simp [go_sem, *]
  have C8b0 : w8.cell? ⟨w.heap.size + 1, 0, none⟩ = some (.int .i64 bn) := by rw [fc _ _ (by first | omega | (simp; omega) | simp)]; simp [go_sem, *]
  have F8b0 : w8.frozen? ⟨w.heap.size + 1, 0, none⟩ = false := by rw [ff _ _ (by first | omega | (simp; omega) | simp)]; simp [go_sem, *]
  have C8b1 : w8.cell? ⟨w.heap.size + 1, 1, none⟩ = some (.int .i64 bd) := by rw [fc _ _ (by first | omega | (simp; omega) | simp)]; simp [go_sem, *]
  have F8b1 : w8.frozen? ⟨w.heap.size + 1, 1, none⟩ = false := by rw [ff _ _ (by first | omega | (simp; omega) | simp)]; simp [go_sem, *]
  have C8c0 : w8.cell? ⟨w.heap.size + 1 + 1, 0, none⟩ = some (.int .i64 cn) := by rw [fc _ _ (by first | omega | (simp; omega) | simp)]; simp [go_sem, *]
  have F8c0 : w8.frozen? ⟨w.heap.size + 1 + 1, 0, none⟩ = false := by rw [ff _ _ (by first | omega | (simp; omega) | simp)]; simp [go_sem, *]
  have C8c1 : w8.cell? ⟨w.heap.size + 1 + 1, 1, none⟩ = some (.int .i64 cd) := by rw [fc _ _ (by first | omega | (simp; omega) | simp)]; simp [go_sem, *]
  have F8c1 : w8.frozen? ⟨w.heap.size + 1 + 1, 1, none⟩ = false := by rw [ff _ _ (by first | omega | (simp; omega) | simp)]; simp [go_sem, *]
  have C8s0 : w8.cell? ⟨w5.heap.size, 0, none⟩ = some (.int .i64 s1) := by rw [fc _ _ (by first | omega | (simp; omega) | simp)]; simp [go_sem, *]
  have F8s0 : w8.frozen? ⟨w5.heap.size, 0, none⟩ = false := by rw [ff _ _ (by first | omega | (simp; omega) | simp)]; simp [go_sem, *]
  have C8s1 : w8.cell? ⟨w5.heap.size, 1, none⟩ = some (.int .i64 s2) := by rw [fc _ _ (by first | omega | (simp; omega) | simp)]; simp [go_sem, *]
  have F8s1 : w8.frozen? ⟨w5.heap.size, 1, none⟩ = false := by rw [ff _ _ (by first | omega | (simp; omega) | simp)]; simp [go_sem, *]
  have C8t0 : w8.cell? ⟨w6.heap.size, 0, none⟩ = some (.int .i64 s1) := by rw [fc _ _ (by first | omega | (simp; omega) | simp)]; simp [go_sem, *]
  have F8t0 : w8.frozen? ⟨w6.heap.size, 0, none⟩ = false := by rw [ff _ _ (by first | omega | (simp; omega) | simp)]; simp [go_sem, *]
  have C8t1 : w8.cell? ⟨w6.heap.size, 1, none⟩ = some (.int .i64 s2) := by rw [fc _ _ (by first | omega | (simp; omega) | simp)]; simp [go_sem, *]
  have F8t1 : w8.frozen? ⟨w6.heap.size, 1, none⟩ = false := by rw [ff _ _ (by first | omega | (simp; omega) | simp)]; simp [go_sem, *]
  have C8p0 : w8.cell? ⟨w7.heap.size, 0, none⟩ = some (.int .i64 p1) := by rw [fc _ _ (by first | omega | (simp; omega) | simp)]; simp [go_sem, *]
  have F8p0 : w8.frozen? ⟨w7.heap.size, 0, none⟩ = false := by rw [ff _ _ (by first | omega | (simp; omega) | simp)]; simp [go_sem, *]
  have C8p1 : w8.cell? ⟨w7.heap.size, 1, none⟩ = some (.int .i64 p2) := by rw [fc _ _ (by first | omega | (simp; omega) | simp)]; simp [go_sem, *]
  have F8p1 : w8.frozen? ⟨w7.heap.size, 1, none⟩ = false := by rw [ff _ _ (by first | omega | (simp; omega) | simp)]; simp [go_sem, *]
  clear fc ff
  have X8 : Ext w w8 := Ext.trans (by repeat (first | (with_reducible exact Ext.refl _) | (with_reducible assumption) | (with_reducible refine Ext.alloc ?_ _) | (with_reducible refine Ext.drewN ?_ _) | (with_reducible refine Ext.drew ?_) | (with_reducible refine Ext.setCell ?_ (by simp <;> omega) _))) hx
  clear hx X7 C7a0 F7a0 C7a1 F7a1 C7b0 F7b0 C7b1 F7b1 C7c0 F7c0 C7c1 F7c1 C7s0 F7s0 C7s1 F7s1 C7t0 F7t0 C7t1 F7t1
  have l8a : w.heap.size < w8.heap.size := by omega
  have l8b : w.heap.size + 1 < w8.heap.size := by omega
  have l8c : w.heap.size + 1 + 1 < w8.heap.size := by omega
  have l8s : w5.heap.size < w8.heap.size := by omega
  have l8t : w6.heap.size < w8.heap.size := by omega
  have l8p : w7.heap.size < w8.heap.size := by omega
  go_wp2_with fail
  refine (HX.out _).mono ?_
  rintro e w9 ⟨rfl, hx⟩
  have fs9 : w8.heap.size + 1 ≤ w9.heap.size := by simpa using hx.size
  obtain ⟨fc, ff⟩ := And.intro hx.cells hx.marks
  have C9a0 : w9.cell? ⟨w.heap.size, 0, none⟩ = some (.int .i64 an) := by rw [fc _ _ (by first | omega | (simp; omega) | simp)]; simp [go_sem, *]
  have F9a0 : w9.frozen? ⟨w.heap.size, 0, none⟩ = false := by rw [ff _ _ (by first | omega | (simp; omega) | simp)]; simp [go_sem, *]
  have C9a1 : w9.cell? ⟨w.heap.size, 1, none⟩ = some (.int .i64 ad) := by rw [fc _ _ (by first | omega | (simp; omega) | simp)]; simp [go_sem, *]
  have F9a1 : w9.frozen? ⟨w.heap.size, 1, none⟩ = false := by rw [ff _ _ (by first | omega | (simp; omega) | simp)]; simp [go_sem, *]
  have C9b0 : w9.cell? ⟨w.heap.size + 1, 0, none⟩ = some (.int .i64 bn) := by rw [fc _ _ (by first | omega | (simp; omega) | simp)]; simp [go_sem, *]
  have F9b0 : w9.frozen? ⟨w.heap.size + 1, 0, none⟩ = false := by rw [ff _ _ (by first | omega | (simp; omega) | simp)]; simp [go_sem, *]
  have C9b1 : w9.cell? ⟨w.heap.size + 1, 1, none⟩ = some (.int .i64 bd) := by rw [fc _ _ (by first | omega | (simp; omega) | simp)]; simp [go_sem, *]
  have F9b1 : w9.frozen? ⟨w.heap.size + 1, 1, none⟩ = false := by rw [ff _ _ (by first | omega | (simp; omega) | simp)]; simp [go_sem, *]
  have C9c0 : w9.cell? ⟨w.heap.size + 1 + 1, 0, none⟩ = some (.int .i64 cn) := by rw [fc _ _ (by first | omega | (simp; omega) | simp)]; simp [go_sem, *]
  have F9c0 : w9.frozen? ⟨w.heap.size + 1 + 1, 0, none⟩ = false := by rw [ff _ _ (by first | omega | (simp; omega) | simp)]; simp [go_sem, *]
  have C9c1 : w9.cell? ⟨w.heap.size + 1 + 1, 1, none⟩ = some (.int .i64 cd) := by rw [fc _ _ (by first | omega | (simp; omega) | simp)]; simp [go_sem, *]
  have F9c1 : w9.frozen? ⟨w.heap.size + 1 + 1, 1, none⟩ = false := by rw [ff _ _ (by first | omega | (simp; omega) | simp)]; simp [go_sem, *]
  have C9s0 : w9.cell? ⟨w5.heap.size, 0, none⟩ = some (.int .i64 s1) := by rw [fc _ _ (by first | omega | (simp; omega) | simp)]; simp [go_sem, *]
  have F9s0 : w9.frozen? ⟨w5.heap.size, 0, none⟩ = false := by rw [ff _ _ (by first | omega | (simp; omega) | simp)]; simp [go_sem, *]
  have C9s1 : w9.cell? ⟨w5.heap.size, 1, none⟩ = some (.int .i64 s2) := by rw [fc _ _ (by first | omega | (simp; omega) | simp)]; simp [go_sem, *]
  have F9s1 : w9.frozen? ⟨w5.heap.size, 1, none⟩ = false := by rw [ff _ _ (by first | omega | (simp; omega) | simp)]; simp [go_sem, *]
  have C9t0 : w9.cell? ⟨w6.heap.size, 0, none⟩ = some (.int .i64 s1) := by rw [fc _ _ (by first | omega | (simp; omega) | simp)]; simp [go_sem, *]
  have F9t0 : w9.frozen? ⟨w6.heap.size, 0, none⟩ = false := by rw [ff _ _ (by first | omega | (simp; omega) | simp)]; simp [go_sem, *]
  have C9t1 : w9.cell? ⟨w6.heap.size, 1, none⟩ = some (.int .i64 s2) := by rw [fc _ _ (by first | omega | (simp; omega) | simp)]; simp [go_sem, *]
  have F9t1 : w9.frozen? ⟨w6.heap.size, 1, none⟩ = false := by rw [ff _ _ (by first | omega | (simp; omega) | simp)]; simp [go_sem, *]
  have C9p0 : w9.cell? ⟨w7.heap.size, 0, none⟩ = some (.int .i64 p1) := by rw [fc _ _ (by first | omega | (simp; omega) | simp)]; simp [go_sem, *]
  have F9p0 : w9.frozen? ⟨w7.heap.size, 0, none⟩ = false := by rw [ff _ _ (by first | omega | (simp; omega) | simp)]; simp [go_sem, *]
  have C9p1 : w9.cell? ⟨w7.heap.size, 1, none⟩ = some (.int .i64 p2) := by rw [fc _ _ (by first | omega | (simp; omega) | simp)]; simp [go_sem, *]
  have F9p1 : w9.frozen? ⟨w7.heap.size, 1, none⟩ = false := by rw [ff _ _ (by first | omega | (simp; omega) | simp)]; simp [go_sem, *]
  have C9q0 : w9.cell? ⟨w8.heap.size, 0, none⟩ = some (.int .i64 p1) := by rw [fc _ _ (by first | omega | (simp; omega) | simp)]; simp [go_sem, *]
  have F9q0 : w9.frozen? ⟨w8.heap.size, 0, none⟩ = false := by rw [ff _ _ (by first | omega | (simp; omega) | simp)]; simp [go_sem, *]
  have C9q1 : w9.cell? ⟨w8.heap.size, 1, none⟩ = some (.int .i64 p2) := by rw [fc _ _ (by first | omega | (simp; omega) | simp)]; simp [go_sem, *]
  have F9q1 : w9.frozen? ⟨w8.heap.size, 1, none⟩ = false := by rw [ff _ _ (by first | omega | (simp; omega) | simp)]; simp [go_sem, *]
  clear fc ff
  have X9 : Ext w w9 := Ext.trans (by repeat (first | (with_reducible exact Ext.refl _) | (with_reducible assumption) | (with_reducible refine Ext.alloc ?_ _) | (with_reducible refine Ext.drewN ?_ _) | (with_reducible refine Ext.drew ?_) | (with_reducible refine Ext.setCell ?_ (by simp <;> omega) _))) hx
  clear hx X8 C8a0 F8a0 C8a1 F8a1 C8b0 F8b0 C8b1 F8b1 C8c0 F8c0 C8c1 F8c1 C8s0 F8s0 C8s1 F8s1 C8t0 F8t0 C8t1 F8t1 C8p0 F8p0 C8p1 F8p1
  have l9a : w.heap.size < w9.heap.size := by omega
  have l9b : w.heap.size + 1 < w9.heap.size := by omega
  have l9c : w.heap.size + 1 + 1 < w9.heap.size := by omega
  have l9s : w5.heap.size < w9.heap.size := by omega
  have l9t : w6.heap.size < w9.heap.size := by omega
  have l9p : w7.heap.size < w9.heap.size := by omega
  have l9q : w8.heap.size < w9.heap.size := by omega
  go_wp2_with fail
  refine (HY.out _).mono ?_
  rintro e w10 ⟨rfl, hx⟩
  have fs10 : w9.heap.size + 1 ≤ w10.heap.size := by simpa using hx.size
  obtain ⟨fc, ff⟩ := And.intro hx.cells hx.marks
  have C10a0 : w10.cell? ⟨w.heap.size, 0, none⟩ = some (.int .i64 an) := by rw [fc _ _ (by first | omega | (simp; omega) | simp)]; simp [go_sem, *]
  have F10a0 : w10.frozen? ⟨w.heap.size, 0, none⟩ = false := by rw [ff _ _ (by first | omega | (simp; omega) | simp)]; simp [go_sem, *]
  have C10a1 : w10.cell? ⟨w.heap.size, 1, none⟩ = some (.int .i64 ad) := by rw [fc _ _ (by first | omega | (simp; omega) | simp)]; simp [go_sem, *]
  have F10a1 : w10.frozen? ⟨w.heap.size, 1, none⟩ = false := by rw [ff _ _ (by first | omega | (simp; omega) | simp)]; simp [go_sem, *]
  have C10b0 : w10.cell? ⟨w.heap.size + 1, 0, none⟩ = some (.int .i64 bn) := by rw [fc _ _ (by first | omega | (simp; omega) | simp)]; simp [go_sem, *]
  have F10b0 : w10.frozen? ⟨w.heap.size + 1, 0, none⟩ = false := by rw [ff _ _ (by first | omega | (simp; omega) | simp)]; simp [go_sem, *]
  have C10b1 : w10.cell? ⟨w.heap.size + 1, 1, none⟩ = some (.int .i64 bd) := by rw [fc _ _ (by first | omega | (simp; omega) | simp)]; simp [go_sem, *]
  have F10b1 : w10.frozen? ⟨w.heap.size + 1, 1, none⟩ = false := by rw [ff _ _ (by first | omega | (simp; omega) | simp)]; simp [go_sem, *]
  have C10c0 : w10.cell? ⟨w.heap.size + 1 + 1, 0, none⟩ = some (.int .i64 cn) := by rw [fc _ _ (by first | omega | (simp; omega) | simp)]; simp [go_sem, *]
  have F10c0 : w10.frozen? ⟨w.heap.size + 1 + 1, 0, none⟩ = false := by rw [ff _ _ (by first | omega | (simp; omega) | simp)]; simp [go_sem, *]
  have C10c1 : w10.cell? ⟨w.heap.size + 1 + 1, 1, none⟩ = some (.int .i64 cd) := by rw [fc _ _ (by first | omega | (simp; omega) | simp)]; simp [go_sem, *]
  have F10c1 : w10.frozen? ⟨w.heap.size + 1 + 1, 1, none⟩ = false := by rw [ff _ _ (by first | omega | (simp; omega) | simp)]; simp [go_sem, *]
  have C10s0 : w10.cell? ⟨w5.heap.size, 0, none⟩ = some (.int .i64 s1) := by rw [fc _ _ (by first | omega | (simp; omega) | simp)]; simp [go_sem, *]
  have F10s0 : w10.frozen? ⟨w5.heap.size, 0, none⟩ = false := by rw [ff _ _ (by first | omega | (simp; omega) | simp)]; simp [go_sem, *]
  have C10s1 : w10.cell? ⟨w5.heap.size, 1, none⟩ = some (.int .i64 s2) := by rw [fc _ _ (by first | omega | (simp; omega) | simp)]; simp [go_sem, *]
  have F10s1 : w10.frozen? ⟨w5.heap.size, 1, none⟩ = false := by rw [ff _ _ (by first | omega | (simp; omega) | simp)]; simp [go_sem, *]
  have C10t0 : w10.cell? ⟨w6.heap.size, 0, none⟩ = some (.int .i64 s1) := by rw [fc _ _ (by first | omega | (simp; omega) | simp)]; simp [go_sem, *]
  have F10t0 : w10.frozen? ⟨w6.heap.size, 0, none⟩ = false := by rw [ff _ _ (by first | omega | (simp; omega) | simp)]; simp [go_sem, *]
  have C10t1 : w10.cell? ⟨w6.heap.size, 1, none⟩ = some (.int .i64 s2) := by rw [fc _ _ (by first | omega | (simp; omega) | simp)]; simp [go_sem, *]
  have F10t1 : w10.frozen? ⟨w6.heap.size, 1, none⟩ = false := by rw [ff _ _ (by first | omega | (simp; omega) | simp)]; simp [go_sem, *]
  have C10p0 : w10.cell? ⟨w7.heap.size, 0, none⟩ = some (.int .i64 p1) := by rw [fc _ _ (by first | omega | (simp; omega) | simp)]; simp [go_sem, *]
  have F10p0 : w10.frozen? ⟨w7.heap.size, 0, none⟩ = false := by rw [ff _ _ (by first | omega | (simp; omega) | simp)]; simp [go_sem, *]
  have C10p1 : w10.cell? ⟨w7.heap.size, 1, none⟩ = some (.int .i64 p2) := by rw [fc _ _ (by first | omega | (simp; omega) | simp)]; simp [go_sem, *]
  have F10p1 : w10.frozen? ⟨w7.heap.size, 1, none⟩ = false := by rw [ff _ _ (by first | omega | (simp; omega) | simp)]; simp [go_sem, *]
  have C10q0 : w10.cell? ⟨w8.heap.size, 0, none⟩ = some (.int .i64 p1) := by rw [fc _ _ (by first | omega | (simp; omega) | simp)]; simp [go_sem, *]
  have F10q0 : w10.frozen? ⟨w8.heap.size, 0, none⟩ = false := by rw [ff _ _ (by first | omega | (simp; omega) | simp)]; simp [go_sem, *]
  have C10q1 : w10.cell? ⟨w8.heap.size, 1, none⟩ = some (.int .i64 p2) := by rw [fc _ _ (by first | omega | (simp; omega) | simp)]; simp [go_sem, *]
  have F10q1 : w10.frozen? ⟨w8.heap.size, 1, none⟩ = false := by rw [ff _ _ (by first | omega | (simp; omega) | simp)]; simp [go_sem, *]
  have C10x0 : w10.cell? ⟨w9.heap.size, 0, none⟩ = some (.int .i64 x1) := by rw [fc _ _ (by first | omega | (simp; omega) | simp)]; simp [go_sem, *]
  have F10x0 : w10.frozen? ⟨w9.heap.size, 0, none⟩ = false := by rw [ff _ _ (by first | omega | (simp; omega) | simp)]; simp [go_sem, *]
  have C10x1 : w10.cell? ⟨w9.heap.size, 1, none⟩ = some (.int .i64 x2) := by rw [fc _ _ (by first | omega | (simp; omega) | simp)]; simp [go_sem, *]
  have F10x1 : w10.frozen? ⟨w9.heap.size, 1, none⟩ = false := by rw [ff _ _ (by first | omega | (simp; omega) | simp)]; simp [go_sem, *]
  clear fc ff
  have X10 : Ext w w10 := Ext.trans (by repeat (first | (with_reducible exact Ext.refl _) | (with_reducible assumption) | (with_reducible refine Ext.alloc ?_ _) | (with_reducible refine Ext.drewN ?_ _) | (with_reducible refine Ext.drew ?_) | (with_reducible refine Ext.setCell ?_ (by simp <;> omega) _))) hx
  clear hx X9 C9a0 F9a0 C9a1 F9a1 C9b0 F9b0 C9b1 F9b1 C9c0 F9c0 C9c1 F9c1 C9s0 F9s0 C9s1 F9s1 C9t0 F9t0 C9t1 F9t1 C9p0 F9p0 C9p1 F9p1 C9q0 F9q0 C9q1 F9q1
  have l10a : w.heap.size < w10.heap.size := by omega
  have l10b : w.heap.size + 1 < w10.heap.size := by omega
  have l10c : w.heap.size + 1 + 1 < w10.heap.size := by omega
  have l10s : w5.heap.size < w10.heap.size := by omega
  have l10t : w6.heap.size < w10.heap.size := by omega
  have l10p : w7.heap.size < w10.heap.size := by omega
  have l10q : w8.heap.size < w10.heap.size := by omega
  have l10x : w9.heap.size < w10.heap.size := by omega
  go_wp2_with fail
  refine (HZ.out _).mono ?_
  rintro e w11 ⟨rfl, hx⟩
  have fs11 : w10.heap.size + 1 ≤ w11.heap.size := by simpa using hx.size
  obtain ⟨fc, ff⟩ := And.intro hx.cells hx.marks
  have C11a0 : w11.cell? ⟨w.heap.size, 0, none⟩ = some (.int .i64 an) := by rw [fc _ _ (by first | omega | (simp; omega) | simp)]; simp [go_sem, *]
  have F11a0 : w11.frozen? ⟨w.heap.size, 0, none⟩ = false := by rw [ff _ _ (by first | omega | (simp; omega) | simp)]; simp [go_sem, *]
  have C11a1 : w11.cell? ⟨w.heap.size, 1, none⟩ = some (.int .i64 ad) := by rw [fc _ _ (by first | omega | (simp; omega) | simp)]; simp [go_sem, *]
  have F11a1 : w11.frozen? ⟨w.heap.size, 1, none⟩ = false := by rw [ff _ _ (by first | omega | (simp; omega) | simp)]; simp [go_sem, *]
  have C11b0 : w11.cell? ⟨w.heap.size + 1, 0, none⟩ = some (.int .i64 bn) := by rw [fc _ _ (by first | omega | (simp; omega) | simp)]; simp [go_sem, *]
  have F11b0 : w11.frozen? ⟨w.heap.size + 1, 0, none⟩ = false := by rw [ff _ _ (by first | omega | (simp; omega) | simp)]; simp [go_sem, *]
  have C11b1 : w11.cell? ⟨w.heap.size + 1, 1, none⟩ = some (.int .i64 bd) := by rw [fc _ _ (by first | omega | (simp; omega) | simp)]; simp [go_sem, *]
  have F11b1 : w11.frozen? ⟨w.heap.size + 1, 1, none⟩ = false := by rw [ff _ _ (by first | omega | (simp; omega) | simp)]; simp [go_sem, *]
  have C11c0 : w11.cell? ⟨w.heap.size + 1 + 1, 0, none⟩ = some (.int .i64 cn) := by rw [fc _ _ (by first | omega | (simp; omega) | simp)]; simp [go_sem, *]
  have F11c0 : w11.frozen? ⟨w.heap.size + 1 + 1, 0, none⟩ = false := by rw [ff _ _ (by first | omega | (simp; omega) | simp)]; simp [go_sem, *]
  have C11c1 : w11.cell? ⟨w.heap.size + 1 + 1, 1, none⟩ = some (.int .i64 cd) := by rw [fc _ _ (by first | omega | (simp; omega) | simp)]; simp [go_sem, *]
  have F11c1 : w11.frozen? ⟨w.heap.size + 1 + 1, 1, none⟩ = false := by rw [ff _ _ (by first | omega | (simp; omega) | simp)]; simp [go_sem, *]
  have C11s0 : w11.cell? ⟨w5.heap.size, 0, none⟩ = some (.int .i64 s1) := by rw [fc _ _ (by first | omega | (simp; omega) | simp)]; simp [go_sem, *]
  have F11s0 : w11.frozen? ⟨w5.heap.size, 0, none⟩ = false := by rw [ff _ _ (by first | omega | (simp; omega) | simp)]; simp [go_sem, *]
  have C11s1 : w11.cell? ⟨w5.heap.size, 1, none⟩ = some (.int .i64 s2) := by rw [fc _ _ (by first | omega | (simp; omega) | simp)]; simp [go_sem, *]
  have F11s1 : w11.frozen? ⟨w5.heap.size, 1, none⟩ = false := by rw [ff _ _ (by first | omega | (simp; omega) | simp)]; simp [go_sem, *]
  have C11t0 : w11.cell? ⟨w6.heap.size, 0, none⟩ = some (.int .i64 s1) := by rw [fc _ _ (by first | omega | (simp; omega) | simp)]; simp [go_sem, *]
  have F11t0 : w11.frozen? ⟨w6.heap.size, 0, none⟩ = false := by rw [ff _ _ (by first | omega | (simp; omega) | simp)]; simp [go_sem, *]
  have C11t1 : w11.cell? ⟨w6.heap.size, 1, none⟩ = some (.int .i64 s2) := by rw [fc _ _ (by first | omega | (simp; omega) | simp)]; simp [go_sem, *]
  have F11t1 : w11.frozen? ⟨w6.heap.size, 1, none⟩ = false := by rw [ff _ _ (by first | omega | (simp; omega) | simp)]; simp [go_sem, *]
  have C11p0 : w11.cell? ⟨w7.heap.size, 0, none⟩ = some (.int .i64 p1) := by rw [fc _ _ (by first | omega | (simp; omega) | simp)]; simp [go_sem, *]
  have F11p0 : w11.frozen? ⟨w7.heap.size, 0, none⟩ = false := by rw [ff _ _ (by first | omega | (simp; omega) | simp)]; simp [go_sem, *]
  have C11p1 : w11.cell? ⟨w7.heap.size, 1, none⟩ = some (.int .i64 p2) := by rw [fc _ _ (by first | omega | (simp; omega) | simp)]; simp [go_sem, *]
  have F11p1 : w11.frozen? ⟨w7.heap.size, 1, none⟩ = false := by rw [ff _ _ (by first | omega | (simp; omega) | simp)]; simp [go_sem, *]
  have C11q0 : w11.cell? ⟨w8.heap.size, 0, none⟩ = some (.int .i64 p1) := by rw [fc _ _ (by first | omega | (simp; omega) | simp)]; simp [go_sem, *]
  have F11q0 : w11.frozen? ⟨w8.heap.size, 0, none⟩ = false := by rw [ff _ _ (by first | omega | (simp; omega) | simp)]; simp [go_sem, *]
  have C11q1 : w11.cell? ⟨w8.heap.size, 1, none⟩ = some (.int .i64 p2) := by rw [fc _ _ (by first | omega | (simp; omega) | simp)]; simp [go_sem, *]
  have F11q1 : w11.frozen? ⟨w8.heap.size, 1, none⟩ = false := by rw [ff _ _ (by first | omega | (simp; omega) | simp)]; simp [go_sem, *]
  have C11x0 : w11.cell? ⟨w9.heap.size, 0, none⟩ = some (.int .i64 x1) := by rw [fc _ _ (by first | omega | (simp; omega) | simp)]; simp [go_sem, *]
  have F11x0 : w11.frozen? ⟨w9.heap.size, 0, none⟩ = false := by rw [ff _ _ (by first | omega | (simp; omega) | simp)]; simp [go_sem, *]
  have C11x1 : w11.cell? ⟨w9.heap.size, 1, none⟩ = some (.int .i64 x2) := by rw [fc _ _ (by first | omega | (simp; omega) | simp)]; simp [go_sem, *]
  have F11x1 : w11.frozen? ⟨w9.heap.size, 1, none⟩ = false := by rw [ff _ _ (by first | omega | (simp; omega) | simp)]; simp [go_sem, *]
  have C11y0 : w11.cell? ⟨w10.heap.size, 0, none⟩ = some (.int .i64 y1) := by rw [fc _ _ (by first | omega | (simp; omega) | simp)]; simp [go_sem, *]
  have F11y0 : w11.frozen? ⟨w10.heap.size, 0, none⟩ = false := by rw [ff _ _ (by first | omega | (simp; omega) | simp)]; simp [go_sem, *]
  have C11y1 : w11.cell? ⟨w10.heap.size, 1, none⟩ = some (.int .i64 y2) := by rw [fc _ _ (by first | omega | (simp; omega) | simp)]; simp [go_sem, *]
  have F11y1 : w11.frozen? ⟨w10.heap.size, 1, none⟩ = false := by rw [ff _ _ (by first | omega | (simp; omega) | simp)]; simp [go_sem, *]
  clear fc ff
  have X11 : Ext w w11 := Ext.trans (by repeat (first | (with_reducible exact Ext.refl _) | (with_reducible assumption) | (with_reducible refine Ext.alloc ?_ _) | (with_reducible refine Ext.drewN ?_ _) | (with_reducible refine Ext.drew ?_) | (with_reducible refine Ext.setCell ?_ (by simp <;> omega) _))) hx
  clear hx X10 C10a0 F10a0 C10a1 F10a1 C10b0 F10b0 C10b1 F10b1 C10c0 F10c0 C10c1 F10c1 C10s0 F10s0 C10s1 F10s1 C10t0 F10t0 C10t1 F10t1 C10p0 F10p0 C10p1 F10p1 C10q0 F10q0 C10q1 F10q1 C10x0 F10x0 C10x1 F10x1
  have l11a : w.heap.size < w11.heap.size := by omega
  have l11b : w.heap.size + 1 < w11.heap.size := by omega
  have l11c : w.heap.size + 1 + 1 < w11.heap.size := by omega
  have l11s : w5.heap.size < w11.heap.size := by omega
  have l11t : w6.heap.size < w11.heap.size := by omega
  have l11p : w7.heap.size < w11.heap.size := by omega
  have l11q : w8.heap.size < w11.heap.size := by omega
  have l11x : w9.heap.size < w11.heap.size := by omega
  have l11y : w10.heap.size < w11.heap.size := by omega
  go_wp2_with fail
  refine (HW.out _).mono ?_
  rintro e w12 ⟨rfl, hx⟩
  have fs12 : w11.heap.size + 1 ≤ w12.heap.size := by simpa using hx.size
  obtain ⟨fc, ff⟩ := And.intro hx.cells hx.marks
  have C12a0 : w12.cell? ⟨w.heap.size, 0, none⟩ = some (.int .i64 an) := by rw [fc _ _ (by first | omega | (simp; omega) | simp)]; simp [go_sem, *]
  have F12a0 : w12.frozen? ⟨w.heap.size, 0, none⟩ = false := by rw [ff _ _ (by first | omega | (simp; omega) | simp)]; simp [go_sem, *]
  have C12a1 : w12.cell? ⟨w.heap.size, 1, none⟩ = some (.int .i64 ad) := by rw [fc _ _ (by first | omega | (simp; omega) | simp)]; simp [go_sem, *]
  have F12a1 : w12.frozen? ⟨w.heap.size, 1, none⟩ = false := by rw [ff _ _ (by first | omega | (simp; omega) | simp)]; simp [go_sem, *]
  have C12b0 : w12.cell? ⟨w.heap.size + 1, 0, none⟩ = some (.int .i64 bn) := by rw [fc _ _ (by first | omega | (simp; omega) | simp)]; simp [go_sem, *]
  have F12b0 : w12.frozen? ⟨w.heap.size + 1, 0, none⟩ = false := by rw [ff _ _ (by first | omega | (simp; omega) | simp)]; simp [go_sem, *]
  have C12b1 : w12.cell? ⟨w.heap.size + 1, 1, none⟩ = some (.int .i64 bd) := by rw [fc _ _ (by first | omega | (simp; omega) | simp)]; simp [go_sem, *]
  have F12b1 : w12.frozen? ⟨w.heap.size + 1, 1, none⟩ = false := by rw [ff _ _ (by first | omega | (simp; omega) | simp)]; simp [go_sem, *]
  have C12c0 : w12.cell? ⟨w.heap.size + 1 + 1, 0, none⟩ = some (.int .i64 cn) := by rw [fc _ _ (by first | omega | (simp; omega) | simp)]; simp [go_sem, *]
  have F12c0 : w12.frozen? ⟨w.heap.size + 1 + 1, 0, none⟩ = false := by rw [ff _ _ (by first | omega | (simp; omega) | simp)]; simp [go_sem, *]
  have C12c1 : w12.cell? ⟨w.heap.size + 1 + 1, 1, none⟩ = some (.int .i64 cd) := by rw [fc _ _ (by first | omega | (simp; omega) | simp)]; simp [go_sem, *]
  have F12c1 : w12.frozen? ⟨w.heap.size + 1 + 1, 1, none⟩ = false := by rw [ff _ _ (by first | omega | (simp; omega) | simp)]; simp [go_sem, *]
  have C12s0 : w12.cell? ⟨w5.heap.size, 0, none⟩ = some (.int .i64 s1) := by rw [fc _ _ (by first | omega | (simp; omega) | simp)]; simp [go_sem, *]
  have F12s0 : w12.frozen? ⟨w5.heap.size, 0, none⟩ = false := by rw [ff _ _ (by first | omega | (simp; omega) | simp)]; simp [go_sem, *]
  have C12s1 : w12.cell? ⟨w5.heap.size, 1, none⟩ = some (.int .i64 s2) := by rw [fc _ _ (by first | omega | (simp; omega) | simp)]; simp [go_sem, *]
  have F12s1 : w12.frozen? ⟨w5.heap.size, 1, none⟩ = false := by rw [ff _ _ (by first | omega | (simp; omega) | simp)]; simp [go_sem, *]
  have C12t0 : w12.cell? ⟨w6.heap.size, 0, none⟩ = some (.int .i64 s1) := by rw [fc _ _ (by first | omega | (simp; omega) | simp)]; simp [go_sem, *]
  have F12t0 : w12.frozen? ⟨w6.heap.size, 0, none⟩ = false := by rw [ff _ _ (by first | omega | (simp; omega) | simp)]; simp [go_sem, *]
  have C12t1 : w12.cell? ⟨w6.heap.size, 1, none⟩ = some (.int .i64 s2) := by rw [fc _ _ (by first | omega | (simp; omega) | simp)]; simp [go_sem, *]
  have F12t1 : w12.frozen? ⟨w6.heap.size, 1, none⟩ = false := by rw [ff _ _ (by first | omega | (simp; omega) | simp)]; simp [go_sem, *]
  have C12p0 : w12.cell? ⟨w7.heap.size, 0, none⟩ = some (.int .i64 p1) := by rw [fc _ _ (by first | omega | (simp; omega) | simp)]; simp [go_sem, *]
  have F12p0 : w12.frozen? ⟨w7.heap.size, 0, none⟩ = false := by rw [ff _ _ (by first | omega | (simp; omega) | simp)]; simp [go_sem, *]
  have C12p1 : w12.cell? ⟨w7.heap.size, 1, none⟩ = some (.int .i64 p2) := by rw [fc _ _ (by first | omega | (simp; omega) | simp)]; simp [go_sem, *]
  have F12p1 : w12.frozen? ⟨w7.heap.size, 1, none⟩ = false := by rw [ff _ _ (by first | omega | (simp; omega) | simp)]; simp [go_sem, *]
  have C12q0 : w12.cell? ⟨w8.heap.size, 0, none⟩ = some (.int .i64 p1) := by rw [fc _ _ (by first | omega | (simp; omega) | simp)]; simp [go_sem, *]
  have F12q0 : w12.frozen? ⟨w8.heap.size, 0, none⟩ = false := by rw [ff _ _ (by first | omega | (simp; omega) | simp)]; simp [go_sem, *]
  have C12q1 : w12.cell? ⟨w8.heap.size, 1, none⟩ = some (.int .i64 p2) := by rw [fc _ _ (by first | omega | (simp; omega) | simp)]; simp [go_sem, *]
  have F12q1 : w12.frozen? ⟨w8.heap.size, 1, none⟩ = false := by rw [ff _ _ (by first | omega | (simp; omega) | simp)]; simp [go_sem, *]
  have C12x0 : w12.cell? ⟨w9.heap.size, 0, none⟩ = some (.int .i64 x1) := by rw [fc _ _ (by first | omega | (simp; omega) | simp)]; simp [go_sem, *]
  have F12x0 : w12.frozen? ⟨w9.heap.size, 0, none⟩ = false := by rw [ff _ _ (by first | omega | (simp; omega) | simp)]; simp [go_sem, *]
  have C12x1 : w12.cell? ⟨w9.heap.size, 1, none⟩ = some (.int .i64 x2) := by rw [fc _ _ (by first | omega | (simp; omega) | simp)]; simp [go_sem, *]
  have F12x1 : w12.frozen? ⟨w9.heap.size, 1, none⟩ = false := by rw [ff _ _ (by first | omega | (simp; omega) | simp)]; simp [go_sem, *]
  have C12y0 : w12.cell? ⟨w10.heap.size, 0, none⟩ = some (.int .i64 y1) := by rw [fc _ _ (by first | omega | (simp; omega) | simp)]; simp [go_sem, *]
  have F12y0 : w12.frozen? ⟨w10.heap.size, 0, none⟩ = false := by rw [ff _ _ (by first | omega | (simp; omega) | simp)]; simp [go_sem, *]
  have C12y1 : w12.cell? ⟨w10.heap.size, 1, none⟩ = some (.int .i64 y2) := by rw [fc _ _ (by first | omega | (simp; omega) | simp)]; simp [go_sem, *]
  have F12y1 : w12.frozen? ⟨w10.heap.size, 1, none⟩ = false := by rw [ff _ _ (by first | omega | (simp; omega) | simp)]; simp [go_sem, *]
  have C12z0 : w12.cell? ⟨w11.heap.size, 0, none⟩ = some (.int .i64 z1) := by rw [fc _ _ (by first | omega | (simp; omega) | simp)]; simp [go_sem, *]
  have F12z0 : w12.frozen? ⟨w11.heap.size, 0, none⟩ = false := by rw [ff _ _ (by first | omega | (simp; omega) | simp)]; simp [go_sem, *]
  have C12z1 : w12.cell? ⟨w11.heap.size, 1, none⟩ = some (.int .i64 z2) := by rw [fc _ _ (by first | omega | (simp; omega) | simp)]; simp [go_sem, *]
  have F12z1 : w12.frozen? ⟨w11.heap.size, 1, none⟩ = false := by rw [ff _ _ (by first | omega | (simp; omega) | simp)]; simp [go_sem, *]
  clear fc ff
  have X12 : Ext w w12 := Ext.trans (by repeat (first | (with_reducible exact Ext.refl _) | (with_reducible assumption) | (with_reducible refine Ext.alloc ?_ _) | (with_reducible refine Ext.drewN ?_ _) | (with_reducible refine Ext.drew ?_) | (with_reducible refine Ext.setCell ?_ (by simp <;> omega) _))) hx
  clear hx X11 C11a0 F11a0 C11a1 F11a1 C11b0 F11b0 C11b1 F11b1 C11c0 F11c0 C11c1 F11c1 C11s0 F11s0 C11s1 F11s1 C11t0 F11t0 C11t1 F11t1 C11p0 F11p0 C11p1 F11p1 C11q0 F11q0 C11q1 F11q1 C11x0 F11x0 C11x1 F11x1 C11y0 F11y0 C11y1 F11y1
  have l12a : w.heap.size < w12.heap.size := by omega
  have l12b : w.heap.size + 1 < w12.heap.size := by omega
  have l12c : w.heap.size + 1 + 1 < w12.heap.size := by omega
  have l12s : w5.heap.size < w12.heap.size := by omega
  have l12t : w6.heap.size < w12.heap.size := by omega
  have l12p : w7.heap.size < w12.heap.size := by omega
  have l12q : w8.heap.size < w12.heap.size := by omega
  have l12x : w9.heap.size < w12.heap.size := by omega
  have l12y : w10.heap.size < w12.heap.size := by omega
  have l12z : w11.heap.size < w12.heap.size := by omega
  go_wp2_with fail
  go_ret
  exact ⟨rfl, (by repeat (first | (with_reducible exact Ext.refl _) | (with_reducible assumption) | (with_reducible refine Ext.alloc ?_ _) | (with_reducible refine Ext.drewN ?_ _) | (with_reducible refine Ext.drew ?_) | (with_reducible refine Ext.setCell ?_ (by simp <;> omega) _)))⟩

set_option maxRecDepth 100000 in
set_option maxHeartbeats 1000000 in
theorem laws_2 (an ad bn bd cn cd s1 s2 p1 p2 pe x1 x2 y1 y2 z1 z2 v1 v2 ze ve : Int) (w : World) (G : Globs w) (hVa : ∀ W : World, Calls Tryd.prog 17 #[.agg #[.int .i64 an, .int .i64 ad]] W fun e w' => e = .returned (.bool true) ∧ Ext W w') (hVb : ∀ W : World, Calls Tryd.prog 17 #[.agg #[.int .i64 bn, .int .i64 bd]] W fun e w' => e = .returned (.bool true) ∧ Ext W w') (hVc : ∀ W : World, Calls Tryd.prog 17 #[.agg #[.int .i64 cn, .int .i64 cd]] W fun e w' => e = .returned (.bool true) ∧ Ext W w') (hSab : ∀ W : World, Calls Tryd.prog 23 #[.agg #[.int .i64 an, .int .i64 ad], .agg #[.int .i64 bn, .int .i64 bd]] W fun e w' => e = .returned (.tuple #[.agg #[.int .i64 s1, .int .i64 s2], .int .i64 0]) ∧ Ext W w') (hSba : ∀ W : World, Calls Tryd.prog 23 #[.agg #[.int .i64 bn, .int .i64 bd], .agg #[.int .i64 an, .int .i64 ad]] W fun e w' => e = .returned (.tuple #[.agg #[.int .i64 s1, .int .i64 s2], .int .i64 0]) ∧ Ext W w') (hPab : ∀ W : World, Calls Tryd.prog 27 #[.agg #[.int .i64 an, .int .i64 ad], .agg #[.int .i64 bn, .int .i64 bd]] W fun e w' => e = .returned (.tuple #[.agg #[.int .i64 p1, .int .i64 p2], .int .i64 pe]) ∧ Ext W w') (hPba : ∀ W : World, Calls Tryd.prog 27 #[.agg #[.int .i64 bn, .int .i64 bd], .agg #[.int .i64 an, .int .i64 ad]] W fun e w' => e = .returned (.tuple #[.agg #[.int .i64 p1, .int .i64 p2], .int .i64 pe]) ∧ Ext W w') (hX : ∀ W : World, Calls Tryd.prog 27 #[.agg #[.int .i64 s1, .int .i64 s2], .agg #[.int .i64 cn, .int .i64 cd]] W fun e w' => e = .returned (.tuple #[.agg #[.int .i64 x1, .int .i64 x2], .int .i64 0]) ∧ Ext W w') (hY : ∀ W : World, Calls Tryd.prog 27 #[.agg #[.int .i64 an, .int .i64 ad], .agg #[.int .i64 cn, .int .i64 cd]] W fun e w' => e = .returned (.tuple #[.agg #[.int .i64 y1, .int .i64 y2], .int .i64 3]) ∧ Ext W w') (hZ : ∀ W : World, Calls Tryd.prog 27 #[.agg #[.int .i64 bn, .int .i64 bd], .agg #[.int .i64 cn, .int .i64 cd]] W fun e w' => e = .returned (.tuple #[.agg #[.int .i64 z1, .int .i64 z2], .int .i64 ze]) ∧ Ext W w') (hW : ∀ W : World, Calls Tryd.prog 23 #[.agg #[.int .i64 y1, .int .i64 y2], .agg #[.int .i64 z1, .int .i64 z2]] W fun e w' => e = .returned (.tuple #[.agg #[.int .i64 v1, .int .i64 v2], .int .i64 ve]) ∧ Ext W w')  :
    Calls Tryd.prog 9 #[.agg #[.int .i64 an, .int .i64 ad], .agg #[.int .i64 bn, .int .i64 bd], .agg #[.int .i64 cn, .int .i64 cd]] w fun e w' => e = .returned (.bool true) ∧ Ext w w' := by
  have HA := Lib.hid (fun W (G : Globs W) => awake_any W G)
  have HG := Lib.hid G
  have HVa := Lib.hid hVa
  have HVb := Lib.hid hVb
  have HVc := Lib.hid hVc
  have HSab := Lib.hid hSab
  have HSba := Lib.hid hSba
  have HPab := Lib.hid hPab
  have HPba := Lib.hid hPba
  have HX := Lib.hid hX
  have HY := Lib.hid hY
  have HZ := Lib.hid hZ
  have HW := Lib.hid hW
  clear G hVa hVb hVc hSab hSba hPab hPba hX hY hZ hW
  go_enter Tryd.func9, Tryd.ntmps9
  go_wp2_with fail
  refine (HA.out _ (HG.out.ext (by repeat (first | (with_reducible exact Ext.refl _) | (with_reducible assumption) | (with_reducible refine Ext.alloc ?_ _) | (with_reducible refine Ext.drewN ?_ _) | (with_reducible refine Ext.drew ?_) | (with_reducible refine Ext.setCell ?_ (by simp <;> omega) _))))).mono ?_
  rintro e w1 ⟨rfl, hx⟩
  have fs1 : w.heap.size + 1 + 1 + 1 ≤ w1.heap.size := by simpa using hx.size
  obtain ⟨fc, ff⟩ := And.intro hx.cells hx.marks
  have C1a0 : w1.cell? ⟨w.heap.size, 0, none⟩ = some (.int .i64 an) := by rw [fc _ _ (by first | omega | (simp; omega) | simp)]; simp [go_sem, *]
  have F1a0 : w1.frozen? ⟨w.heap.size, 0, none⟩ = false := by rw [ff _ _ (by first | omega | (simp; omega) | simp)]; simp [go_sem, *]
  have C1a1 : w1.cell? ⟨w.heap.size, 1, none⟩ = some (.int .i64 ad) := by rw [fc _ _ (by first | omega | (simp; omega) | simp)]; simp [go_sem, *]
  have F1a1 : w1.frozen? ⟨w.heap.size, 1, none⟩ = false := by rw [ff _ _ (by first | omega | (simp; omega) | simp)]; simp [go_sem, *]
  have C1b0 : w1.cell? ⟨w.heap.size + 1, 0, none⟩ = some (.int .i64 bn) := by rw [fc _ _ (by first | omega | (simp; omega) | simp)]; simp [go_sem, *]
  have F1b0 : w1.frozen? ⟨w.heap.size + 1, 0, none⟩ = false := by rw [ff _ _ (by first | omega | (simp; omega) | simp)]; simp [go_sem, *]
  have C1b1 : w1.cell? ⟨w.heap.size + 1, 1, none⟩ = some (.int .i64 bd) := by rw [fc _ _ (by first | omega | (simp; omega) | simp)]; simp [go_sem, *]
  have F1b1 : w1.frozen? ⟨w.heap.size + 1, 1, none⟩ = false := by rw [ff _ _ (by first | omega | (simp; omega) | simp)]; simp [go_sem, *]
  have C1c0 : w1.cell? ⟨w.heap.size + 1 + 1, 0, none⟩ = some (.int .i64 cn) := by rw [fc _ _ (by first | omega | (simp; omega) | simp)]; simp [go_sem, *]
  have F1c0 : w1.frozen? ⟨w.heap.size + 1 + 1, 0, none⟩ = false := by rw [ff _ _ (by first | omega | (simp; omega) | simp)]; simp [go_sem, *]
  have C1c1 : w1.cell? ⟨w.heap.size + 1 + 1, 1, none⟩ = some (.int .i64 cd) := by rw [fc _ _ (by first | omega | (simp; omega) | simp)]; simp [go_sem, *]
  have F1c1 : w1.frozen? ⟨w.heap.size + 1 + 1, 1, none⟩ = false := by rw [ff _ _ (by first | omega | (simp; omega) | simp)]; simp [go_sem, *]
  clear fc ff
  have X1 : Ext w w1 := Ext.trans (by repeat (first | (with_reducible exact Ext.refl _) | (with_reducible assumption) | (with_reducible refine Ext.alloc ?_ _) | (with_reducible refine Ext.drewN ?_ _) | (with_reducible refine Ext.drew ?_) | (with_reducible refine Ext.setCell ?_ (by simp <;> omega) _))) hx
  clear hx 
  have l1a : w.heap.size < w1.heap.size := by omega
  have l1b : w.heap.size + 1 < w1.heap.size := by omega
  have l1c : w.heap.size + 1 + 1 < w1.heap.size := by omega
  go_wp2_with fail
  refine (HVa.out _).mono ?_
  rintro e w2 ⟨rfl, hx⟩
  have fs2 : w1.heap.size ≤ w2.heap.size := by simpa using hx.size
  obtain ⟨fc, ff⟩ := And.intro hx.cells hx.marks
  have C2a0 : w2.cell? ⟨w.heap.size, 0, none⟩ = some (.int .i64 an) := by rw [fc _ _ (by first | omega | (simp; omega) | simp)]; simp [go_sem, *]
  have F2a0 : w2.frozen? ⟨w.heap.size, 0, none⟩ = false := by rw [ff _ _ (by first | omega | (simp; omega) | simp)]; simp [go_sem, *]
  have C2a1 : w2.cell? ⟨w.heap.size, 1, none⟩ = some (.int .i64 ad) := by rw [fc _ _ (by first | omega | (simp; omega) | simp)]; simp [go_sem, *]
  have F2a1 : w2.frozen? ⟨w.heap.size, 1, none⟩ = false := by rw [ff _ _ (by first | omega | (simp; omega) | simp)]; simp [go_sem, *]
  have C2b0 : w2.cell? ⟨w.heap.size + 1, 0, none⟩ = some (.int .i64 bn) := by rw [fc _ _ (by first | omega | (simp; omega) | simp)]; simp [go_sem, *]
  have F2b0 : w2.frozen? ⟨w.heap.size + 1, 0, none⟩ = false := by rw [ff _ _ (by first | omega | (simp; omega) | simp)]; simp [go_sem, *]
  have C2b1 : w2.cell? ⟨w.heap.size + 1, 1, none⟩ = some (.int .i64 bd) := by rw [fc _ _ (by first | omega | (simp; omega) | simp)]; simp [go_sem, *]
  have F2b1 : w2.frozen? ⟨w.heap.size + 1, 1, none⟩ = false := by rw [ff _ _ (by first | omega | (simp; omega) | simp)]; simp [go_sem, *]
  have C2c0 : w2.cell? ⟨w.heap.size + 1 + 1, 0, none⟩ = some (.int .i64 cn) := by rw [fc _ _ (by first | omega | (simp; omega) | simp)]; simp [go_sem, *]
  have F2c0 : w2.frozen? ⟨w.heap.size + 1 + 1, 0, none⟩ = false := by rw [ff _ _ (by first | omega | (simp; omega) | simp)]; simp [go_sem, *]
  have C2c1 : w2.cell? ⟨w.heap.size + 1 + 1, 1, none⟩ = some (.int .i64 cd) := by rw [fc _ _ (by first | omega | (simp; omega) | simp)]; simp [go_sem, *]
  have F2c1 : w2.frozen? ⟨w.heap.size + 1 + 1, 1, none⟩ = false := by rw [ff _ _ (by first | omega | (simp; omega) | simp)]; simp [go_sem, *]
  clear fc ff
  have X2 : Ext w w2 := Ext.trans (by repeat (first | (with_reducible exact Ext.refl _) | (with_reducible assumption) | (with_reducible refine Ext.alloc ?_ _) | (with_reducible refine Ext.drewN ?_ _) | (with_reducible refine Ext.drew ?_) | (with_reducible refine Ext.setCell ?_ (by simp <;> omega) _))) hx
  clear hx X1 C1a0 F1a0 C1a1 F1a1 C1b0 F1b0 C1b1 F1b1 C1c0 F1c0 C1c1 F1c1
  have l2a : w.heap.size < w2.heap.size := by omega
  have l2b : w.heap.size + 1 < w2.heap.size := by omega
  have l2c : w.heap.size + 1 + 1 < w2.heap.size := by omega
  go_wp2_with fail
  refine (HVb.out _).mono ?_
  rintro e w3 ⟨rfl, hx⟩
  have fs3 : w2.heap.size ≤ w3.heap.size := by simpa using hx.size
  obtain ⟨fc, ff⟩ := And.intro hx.cells hx.marks
  have C3a0 : w3.cell? ⟨w.heap.size, 0, none⟩ = some (.int .i64 an) := by rw [fc _ _ (by first | omega | (simp; omega) | simp)]; simp [go_sem, *]
  have F3a0 : w3.frozen? ⟨w.heap.size, 0, none⟩ = false := by rw [ff _ _ (by first | omega | (simp; omega) | simp)]; simp [go_sem, *]
  have C3a1 : w3.cell? ⟨w.heap.size, 1, none⟩ = some (.int .i64 ad) := by rw [fc _ _ (by first | omega | (simp; omega) | simp)]; simp [go_sem, *]
  have F3a1 : w3.frozen? ⟨w.heap.size, 1, none⟩ = false := by rw [ff _ _ (by first | omega | (simp; omega) | simp)]; simp [go_sem, *]
  have C3b0 : w3.cell? ⟨w.heap.size + 1, 0, none⟩ = some (.int .i64 bn) := by rw [fc _ _ (by first | omega | (simp; omega) | simp)]; simp [go_sem, *]
  have F3b0 : w3.frozen? ⟨w.heap.size + 1, 0, none⟩ = false := by rw [ff _ _ (by first | omega | (simp; omega) | simp)]; simp [go_sem, *]
  have C3b1 : w3.cell? ⟨w.heap.size + 1, 1, none⟩ = some (.int .i64 bd) := by rw [fc _ _ (by first | omega | (simp; omega) | simp)]; simp [go_sem, *]
  have F3b1 : w3.frozen? ⟨w.heap.size + 1, 1, none⟩ = false := by rw [ff _ _ (by first | omega | (simp; omega) | simp)]; simp [go_sem, *]
  have C3c0 : w3.cell? ⟨w.heap.size + 1 + 1, 0, none⟩ = some (.int .i64 cn) := by rw [fc _ _ (by first | omega | (simp; omega) | simp)]; simp [go_sem, *]
  have F3c0 : w3.frozen? ⟨w.heap.size + 1 + 1, 0, none⟩ = false := by rw [ff _ _ (by first | omega | (simp; omega) | simp)]; simp [go_sem, *]
  have C3c1 : w3.cell? ⟨w.heap.size + 1 + 1, 1, none⟩ = some (.int .i64 cd) := by rw [fc _ _ (by first | omega | (simp; omega) | simp)]; simp [go_sem, *]
  have F3c1 : w3.frozen? ⟨w.heap.size + 1 + 1, 1, none⟩ = false := by rw [ff _ _ (by first | omega | (simp; omega) | simp)]; simp [go_sem, *]
  clear fc ff
  have X3 : Ext w w3 := Ext.trans (by repeat (first | (with_reducible exact Ext.refl _) | (with_reducible assumption) | (with_reducible refine Ext.alloc ?_ _) | (with_reducible refine Ext.drewN ?_ _) | (with_reducible refine Ext.drew ?_) | (with_reducible refine Ext.setCell ?_ (by simp <;> omega) _))) hx
  clear hx X2 C2a0 F2a0 C2a1 F2a1 C2b0 F2b0 C2b1 F2b1 C2c0 F2c0 C2c1 F2c1
  have l3a : w.heap.size < w3.heap.size := by omega
  have l3b : w.heap.size + 1 < w3.heap.size := by omega
  have l3c : w.heap.size + 1 + 1 < w3.heap.size := by omega
  go_wp2_with fail
  refine (HVc.out _).mono ?_
  rintro e w4 ⟨rfl, hx⟩
  have fs4 : w3.heap.size ≤ w4.heap.size := by simpa using hx.size
  obtain ⟨fc, ff⟩ := And.intro hx.cells hx.marks
  have C4a0 : w4.cell? ⟨w.heap.size, 0, none⟩ = some (.int .i64 an) := by rw [fc _ _ (by first | omega | (simp; omega) | simp)]; simp [go_sem, *]
  have F4a0 : w4.frozen? ⟨w.heap.size, 0, none⟩ = false := by rw [ff _ _ (by first | omega | (simp; omega) | simp)]; simp [go_sem, *]
  have C4a1 : w4.cell? ⟨w.heap.size, 1, none⟩ = some (.int .i64 ad) := by rw [fc _ _ (by first | omega | (simp; omega) | simp)]; simp [go_sem, *]
  have F4a1 : w4.frozen? ⟨w.heap.size, 1, none⟩ = false := by rw [ff _ _ (by first | omega | (simp; omega) | simp)]; simp [go_sem, *]
  have C4b0 : w4.cell? ⟨w.heap.size + 1, 0, none⟩ = some (.int .i64 bn) := by rw [fc _ _ (by first | omega | (simp; omega) | simp)]; simp [go_sem, *]
  have F4b0 : w4.frozen? ⟨w.heap.size + 1, 0, none⟩ = false := by rw [ff _ _ (by first | omega | (simp; omega) | simp)]; simp [go_sem, *]
  have C4b1 : w4.cell? ⟨w.heap.size + 1, 1, none⟩ = some (.int .i64 bd) := by rw [fc _ _ (by first | omega | (simp; omega) | simp)]; simp [go_sem, *]
  have F4b1 : w4.frozen? ⟨w.heap.size + 1, 1, none⟩ = false := by rw [ff _ _ (by first | omega | (simp; omega) | simp)]; simp [go_sem, *]
  have C4c0 : w4.cell? ⟨w.heap.size + 1 + 1, 0, none⟩ = some (.int .i64 cn) := by rw [fc _ _ (by first | omega | (simp; omega) | simp)]; simp [go_sem, *]
  have F4c0 : w4.frozen? ⟨w.heap.size + 1 + 1, 0, none⟩ = false := by rw [ff _ _ (by first | omega | (simp; omega) | simp)]; simp [go_sem, *]
  have C4c1 : w4.cell? ⟨w.heap.size + 1 + 1, 1, none⟩ = some (.int .i64 cd) := by rw [fc _ _ (by first | omega | (simp; omega) | simp)]; simp [go_sem, *]
  have F4c1 : w4.frozen? ⟨w.heap.size + 1 + 1, 1, none⟩ = false := by rw [ff _ _ (by first | omega | (simp; omega) | simp)]; simp [go_sem, *]
  clear fc ff
  have X4 : Ext w w4 := Ext.trans (by repeat (first | (with_reducible exact Ext.refl _) | (with_reducible assumption) | (with_reducible refine Ext.alloc ?_ _) | (with_reducible refine Ext.drewN ?_ _) | (with_reducible refine Ext.drew ?_) | (with_reducible refine Ext.setCell ?_ (by simp <;> omega) _))) hx
  clear hx X3 C3a0 F3a0 C3a1 F3a1 C3b0 F3b0 C3b1 F3b1 C3c0 F3c0 C3c1 F3c1
  have l4a : w.heap.size < w4.heap.size := by omega
  have l4b : w.heap.size + 1 < w4.heap.size := by omega
  have l4c : w.heap.size + 1 + 1 < w4.heap.size := by omega
  go_wp2_with fail
  refine (HSab.out _).mono ?_
  rintro e w5 ⟨rfl, hx⟩
  have fs5 : w4.heap.size ≤ w5.heap.size := by simpa using hx.size
  obtain ⟨fc, ff⟩ := And.intro hx.cells hx.marks
  have C5a0 : w5.cell? ⟨w.heap.size, 0, none⟩ = some (.int .i64 an) := by rw [fc _ _ (by first | omega | (simp; omega) | simp)]; simp [go_sem, *]
  have F5a0 : w5.frozen? ⟨w.heap.size, 0, none⟩ = false := by rw [ff _ _ (by first | omega | (simp; omega) | simp)]; simp [go_sem, *]
  have C5a1 : w5.cell? ⟨w.heap.size, 1, none⟩ = some (.int .i64 ad) := by rw [fc _ _ (by first | omega | (simp; omega) | simp)]; simp [go_sem, *]
  have F5a1 : w5.frozen? ⟨w.heap.size, 1, none⟩ = false := by rw [ff _ _ (by first | omega | (simp; omega) | simp)]; simp [go_sem, *]
  have C5b0 : w5.cell? ⟨w.heap.size + 1, 0, none⟩ = some (.int .i64 bn) := by rw [fc _ _ (by first | omega | (simp; omega) | simp)]; simp [go_sem, *]
  have F5b0 : w5.frozen? ⟨w.heap.size + 1, 0, none⟩ = false := by rw [ff _ _ (by first | omega | (simp; omega) | simp)]; simp [go_sem, *]
  have C5b1 : w5.cell? ⟨w.heap.size + 1, 1, none⟩ = some (.int .i64 bd) := by rw [fc _ _ (by first | omega | (simp; omega) | simp)]; simp [go_sem, *]
  have F5b1 : w5.frozen? ⟨w.heap.size + 1, 1, none⟩ = false := by rw [ff _ _ (by first | omega | (simp; omega) | simp)]; simp [go_sem, *]
  have C5c0 : w5.cell? ⟨w.heap.size + 1 + 1, 0, none⟩ = some (.int .i64 cn) := by rw [fc _ _ (by first | omega | (simp; omega) | simp)]; simp [go_sem, *]
  have F5c0 : w5.frozen? ⟨w.heap.size + 1 + 1, 0, none⟩ = false := by rw [ff _ _ (by first | omega | (simp; omega) | simp)]; simp [go_sem, *]
  have C5c1 : w5.cell? ⟨w.heap.size + 1 + 1, 1, none⟩ = some (.int .i64 cd) := by rw [fc _ _ (by first | omega | (simp; omega) | simp)]; simp [go_sem, *]
  have F5c1 : w5.frozen? ⟨w.heap.size + 1 + 1, 1, none⟩ = false := by rw [ff _ _ (by first | omega | (simp; omega) | simp)]; simp [go_sem, *]
  clear fc ff
  have X5 : Ext w w5 := Ext.trans (by repeat (first | (with_reducible exact Ext.refl _) | (with_reducible assumption) | (with_reducible refine Ext.alloc ?_ _) | (with_reducible refine Ext.drewN ?_ _) | (with_reducible refine Ext.drew ?_) | (with_reducible refine Ext.setCell ?_ (by simp <;> omega) _))) hx
  clear hx X4 C4a0 F4a0 C4a1 F4a1 C4b0 F4b0 C4b1 F4b1 C4c0 F4c0 C4c1 F4c1
  have l5a : w.heap.size < w5.heap.size := by omega
  have l5b : w.heap.size + 1 < w5.heap.size := by omega
  have l5c : w.heap.size + 1 + 1 < w5.heap.size := by omega
  go_wp2_with fail
  refine (HSba.out _).mono ?_
  rintro e w6 ⟨rfl, hx⟩
  have fs6 : w5.heap.size + 1 ≤ w6.heap.size := by simpa using hx.size
  obtain ⟨fc, ff⟩ := And.intro hx.cells hx.marks
  have C6a0 : w6.cell? ⟨w.heap.size, 0, none⟩ = some (.int .i64 an) := by rw [fc _ _ (by first | omega | (simp; omega) | simp)]; simp [go_sem, *]
  have F6a0 : w6.frozen? ⟨w.heap.size, 0, none⟩ = false := by rw [ff _ _ (by first | omega | (simp; omega) | simp)]; simp [go_sem, *]
  have C6a1 : w6.cell? ⟨w.heap.size, 1, none⟩ = some (.int .i64 ad) := by rw [fc _ _ (by first | omega | (simp; omega) | simp)]; simp [go_sem, *]
  have F6a1 : w6.frozen? ⟨w.heap.size, 1, none⟩ = false := by rw [ff _ _ (by first | omega | (simp; omega) | simp)]; simp [go_sem, *]
  have C6b0 : w6.cell? ⟨w.heap.size + 1, 0, none⟩ = some (.int .i64 bn) := by rw [fc _ _ (by first | omega | (simp; omega) | simp)]; simp [go_sem, *]
  have F6b0 : w6.frozen? ⟨w.heap.size + 1, 0, none⟩ = false := by rw [ff _ _ (by first | omega | (simp; omega) | simp)]; simp [go_sem, *]
  have C6b1 : w6.cell? ⟨w.heap.size + 1, 1, none⟩ = some (.int .i64 bd) := by rw [fc _ _ (by first | omega | (simp; omega) | simp)]; simp [go_sem, *]
  have F6b1 : w6.frozen? ⟨w.heap.size + 1, 1, none⟩ = false := by rw [ff _ _ (by first | omega | (simp; omega) | simp)]; simp [go_sem, *]
  have C6c0 : w6.cell? ⟨w.heap.size + 1 + 1, 0, none⟩ = some (.int .i64 cn) := by rw [fc _ _ (by first | omega | (simp; omega) | simp)]; simp [go_sem, *]
  have F6c0 : w6.frozen? ⟨w.heap.size + 1 + 1, 0, none⟩ = false := by rw [ff _ _ (by first | omega | (simp; omega) | simp)]; simp [go_sem, *]
  have C6c1 : w6.cell? ⟨w.heap.size + 1 + 1, 1, none⟩ = some (.int .i64 cd) := by rw [fc _ _ (by first | omega | (simp; omega) | simp)]; simp [go_sem, *]
  have F6c1 : w6.frozen? ⟨w.heap.size + 1 + 1, 1, none⟩ = false := by rw [ff _ _ (by first | omega | (simp; omega) | simp)]; simp [go_sem, *]
  have C6s0 : w6.cell? ⟨w5.heap.size, 0, none⟩ = some (.int .i64 s1) := by rw [fc _ _ (by first | omega | (simp; omega) | simp)]; simp [go_sem, *]
  have F6s0 : w6.frozen? ⟨w5.heap.size, 0, none⟩ = false := by rw [ff _ _ (by first | omega | (simp; omega) | simp)]; simp [go_sem, *]
  have C6s1 : w6.cell? ⟨w5.heap.size, 1, none⟩ = some (.int .i64 s2) := by rw [fc _ _ (by first | omega | (simp; omega) | simp)]; simp [go_sem, *]
  have F6s1 : w6.frozen? ⟨w5.heap.size, 1, none⟩ = false := by rw [ff _ _ (by first | omega | (simp; omega) | simp)]; simp [go_sem, *]
  clear fc ff
  have X6 : Ext w w6 := Ext.trans (by repeat (first | (with_reducible exact Ext.refl _) | (with_reducible assumption) | (with_reducible refine Ext.alloc ?_ _) | (with_reducible refine Ext.drewN ?_ _) | (with_reducible refine Ext.drew ?_) | (with_reducible refine Ext.setCell ?_ (by simp <;> omega) _))) hx
  clear hx X5 C5a0 F5a0 C5a1 F5a1 C5b0 F5b0 C5b1 F5b1 C5c0 F5c0 C5c1 F5c1
  have l6a : w.heap.size < w6.heap.size := by omega
  have l6b : w.heap.size + 1 < w6.heap.size := by omega
  have l6c : w.heap.size + 1 + 1 < w6.heap.size := by omega
  have l6s : w5.heap.size < w6.heap.size := by omega
  go_wp2_with fail
  refine (HPab.out _).mono ?_
  rintro e w7 ⟨rfl, hx⟩
  have fs7 : w6.heap.size + 1 ≤ w7.heap.size := by simpa using hx.size
  obtain ⟨fc, ff⟩ := And.intro hx.cells hx.marks
  have C7a0 : w7.cell? ⟨w.heap.size, 0, none⟩ = some (.int .i64 an) := by rw [fc _ _ (by first | omega | (simp; omega) | simp)]; simp [go_sem, *]
  have F7a0 : w7.frozen? ⟨w.heap.size, 0, none⟩ = false := by rw [ff _ _ (by first | omega | (simp; omega) | simp)]; simp [go_sem, *]
  have C7a1 : w7.cell? ⟨w.heap.size, 1, none⟩ = some (.int .i64 ad) := by rw [fc _ _ (by first | omega | (simp; omega) | simp)]; simp [go_sem, *]
  have F7a1 : w7.frozen? ⟨w.heap.size, 1, none⟩ = false := by rw [ff _ _ (by first | omega | (simp; omega) | simp)]; simp [go_sem, *]
  have C7b0 : w7.cell? ⟨w.heap.size + 1, 0, none⟩ = some (.int .i64 bn) := by rw [fc _ _ (by first | omega | (simp; omega) | simp)]; simp [go_sem, *]
  have F7b0 : w7.frozen? ⟨w.heap.size + 1, 0, none⟩ = false := by rw [ff _ _ (by first | omega | (simp; omega) | simp)]; simp [go_sem, *]
  have C7b1 : w7.cell? ⟨w.heap.size + 1, 1, none⟩ = some (.int .i64 bd) := by rw [fc _ _ (by first | omega | (simp; omega) | simp)]; simp [go_sem, *]
  have F7b1 : w7.frozen? ⟨w.heap.size + 1, 1, none⟩ = false := by rw [ff _ _ (by first | omega | (simp; omega) | simp)]; simp [go_sem, *]
  have C7c0 : w7.cell? ⟨w.heap.size + 1 + 1, 0, none⟩ = some (.int .i64 cn) := by rw [fc _ _ (by first | omega | (simp; omega) | simp)]; simp [go_sem, *]
  have F7c0 : w7.frozen? ⟨w.heap.size + 1 + 1, 0, none⟩ = false := by rw [ff _ _ (by first | omega | (simp; omega) | simp)]; simp [go_sem, *]
  have C7c1 : w7.cell? ⟨w.heap.size + 1 + 1, 1, none⟩ = some (.int .i64 cd) := by rw [fc _ _ (by first | omega | (simp; omega) | simp)]; simp [go_sem, *]
  have F7c1 : w7.frozen? ⟨w.heap.size + 1 + 1, 1, none⟩ = false := by rw [ff _ _ (by first | omega | (simp; omega) | simp)]; simp [go_sem, *]
  have C7s0 : w7.cell? ⟨w5.heap.size, 0, none⟩ = some (.int .i64 s1) := by rw [fc _ _ (by first | omega | (simp; omega) | simp)]; simp [go_sem, *]
  have F7s0 : w7.frozen? ⟨w5.heap.size, 0, none⟩ = false := by rw [ff _ _ (by first | omega | (simp; omega) | simp)]; simp [go_sem, *]
  have C7s1 : w7.cell? ⟨w5.heap.size, 1, none⟩ = some (.int .i64 s2) := by rw [fc _ _ (by first | omega | (simp; omega) | simp)]; simp [go_sem, *]
  have F7s1 : w7.frozen? ⟨w5.heap.size, 1, none⟩ = false := by rw [ff _ _ (by first | omega | (simp; omega) | simp)]; simp [go_sem, *]
  have C7t0 : w7.cell? ⟨w6.heap.size, 0, none⟩ = some (.int .i64 s1) := by rw [fc _ _ (by first | omega | (simp; omega) | simp)]; simp [go_sem, *]
  have F7t0 : w7.frozen? ⟨w6.heap.size, 0, none⟩ = false := by rw [ff _ _ (by first | omega | (simp; omega) | simp)]; simp [go_sem, *]
  have C7t1 : w7.cell? ⟨w6.heap.size, 1, none⟩ = some (.int .i64 s2) := by rw [fc _ _ (by first | omega | (simp; omega) | simp)]; simp [go_sem, *]
  have F7t1 : w7.frozen? ⟨w6.heap.size, 1, none⟩ = false := by rw [ff _ _ (by first | omega | (simp; omega) | simp)]; simp [go_sem, *]
  clear fc ff
  have X7 : Ext w w7 := Ext.trans (by repeat (first | (with_reducible exact Ext.refl _) | (with_reducible assumption) | (with_reducible refine Ext.alloc ?_ _) | (with_reducible refine Ext.drewN ?_ _) | (with_reducible refine Ext.drew ?_) | (with_reducible refine Ext.setCell ?_ (by simp <;> omega) _))) hx
  clear hx X6 C6a0 F6a0 C6a1 F6a1 C6b0 F6b0 C6b1 F6b1 C6c0 F6c0 C6c1 F6c1 C6s0 F6s0 C6s1 F6s1
  have l7a : w.heap.size < w7.heap.size := by omega
  have l7b : w.heap.size + 1 < w7.heap.size := by omega
  have l7c : w.heap.size + 1 + 1 < w7.heap.size := by omega
  have l7s : w5.heap.size < w7.heap.size := by omega
  have l7t : w6.heap.size < w7.heap.size := by omega
  go_wp2_with fail
  refine (HPba.out _).mono ?_
  rintro e w8 ⟨rfl, hx⟩
  have fs8 : w7.heap.size + 1 ≤ w8.heap.size := by simpa using hx.size
  obtain ⟨fc, ff⟩ := And.intro hx.cells hx.marks
  have C8a0 : w8.cell? ⟨w.heap.size, 0, none⟩ = some (.int .i64 an) := by rw [fc _ _ (by first | omega | (simp; omega) | simp)]; simp [go_sem, *]
  have F8a0 : w8.frozen? ⟨w.heap.size, 0, none⟩ = false := by rw [ff _ _ (by first | omega | (simp; omega) | simp)]; simp [go_sem, *]
  have C8a1 : w8.cell? ⟨w.heap.size, 1, none⟩ = some (.int .i64 ad) := by rw [fc _ _ (by first | omega | (simp; omega) | simp)]; simp [go_sem, *]
  have F8a1 : w8.frozen? ⟨w.heap.size, 1, none⟩ = false := by rw [ff _ _ (by first | omega | (simp; omega) | simp)]; simp [go_sem, *]
  have C8b0 : w8.cell? ⟨w.heap.size + 1, 0, none⟩ = some (.int .i64 bn) := by rw [fc _ _ (by first | omega | (simp; omega) | simp)]; simp [go_sem, *]
  have F8b0 : w8.frozen? ⟨w.heap.size + 1, 0, none⟩ = false := by rw [ff _ _ (by first | omega | (simp; omega) | simp)]; simp [go_sem, *]
  have C8b1 : w8.cell? ⟨w.heap.size + 1, 1, none⟩ = some (.int .i64 bd) := by rw [fc _ _ (by first | omega | (simp; omega) | simp)]; simp [go_sem, *]
  have F8b1 : w8.frozen? ⟨w.heap.size + 1, 1, none⟩ = false := by rw [ff _ _ (by first | omega | (simp; omega) | simp)]; simp [go_sem, *]
  have C8c0 : w8.cell? ⟨w.heap.size + 1 + 1, 0, none⟩ = some (.int .i64 cn) := by rw [fc _ _ (by first | omega | (simp; omega) | simp)]; simp [go_sem, *]
  have F8c0 : w8.frozen? ⟨w.heap.size + 1 + 1, 0, none⟩ = false := by rw [ff _ _ (by first | omega | (simp; omega) | simp)]; simp [go_sem, *]
  have C8c1 : w8.cell? ⟨w.heap.size + 1 + 1, 1, none⟩ = some (.int .i64 cd) := by rw [fc _ _ (by first | omega | (simp; omega) | simp)]; simp [go_sem, *]
  have F8c1 : w8.frozen? ⟨w.heap.size + 1 + 1, 1, none⟩ = false := by rw [ff _ _ (by first | omega | (simp; omega) | simp)]; simp [go_sem, *]
  have C8s0 : w8.cell? ⟨w5.heap.size, 0, none⟩ = some (.int .i64 s1) := by rw [fc _ _ (by first | omega | (simp; omega) | simp)]; simp [go_sem, *]
  have F8s0 : w8.frozen? ⟨w5.heap.size, 0, none⟩ = false := by rw [ff _ _ (by first | omega | (simp; omega) | simp)]; simp [go_sem, *]
  have C8s1 : w8.cell? ⟨w5.heap.size, 1, none⟩ = some (.int .i64 s2) := by rw [fc _ _ (by first | omega | (simp; omega) | simp)]; simp [go_sem, *]
  have F8s1 : w8.frozen? ⟨w5.heap.size, 1, none⟩ = false := by rw [ff _ _ (by first | omega | (simp; omega) | simp)]; simp [go_sem, *]
  have C8t0 : w8.cell? ⟨w6.heap.size, 0, none⟩ = some (.int .i64 s1) := by rw [fc _ _ (by first | omega | (simp; omega) | simp)]; simp [go_sem, *]
  have F8t0 : w8.frozen? ⟨w6.heap.size, 0, none⟩ = false := by rw [ff _ _ (by first | omega | (simp; omega) | simp)]; simp [go_sem, *]
  have C8t1 : w8.cell? ⟨w6.heap.size, 1, none⟩ = some (.int .i64 s2) := by rw [fc _ _ (by first | omega | (simp; omega) | simp)]; simp [go_sem, *]
  have F8t1 : w8.frozen? ⟨w6.heap.size, 1, none⟩ = false := by rw [ff _ _ (by first | omega | (simp; omega) | simp)]; simp [go_sem, *]
  have C8p0 : w8.cell? ⟨w7.heap.size, 0, none⟩ = some (.int .i64 p1) := by rw [fc _ _ (by first | omega | (simp; omega) | simp)]; simp [go_sem, *]
  have F8p0 : w8.frozen? ⟨w7.heap.size, 0, none⟩ = false := by rw [ff _ _ (by first | omega | (simp; omega) | simp)]; simp [go_sem, *]
  have C8p1 : w8.cell? ⟨w7.heap.size, 1, none⟩ = some (.int .i64 p2) := by rw [fc _ _ (by first | omega | (simp; omega) | simp)]; simp [go_sem, *]
  have F8p1 : w8.frozen? ⟨w7.heap.size, 1, none⟩ = false := by rw [ff _ _ (by first | omega | (simp; omega) | simp)]; simp [go_sem, *]
  clear fc ff
  have X8 : Ext w w8 := Ext.trans (by repeat (first | (with_reducible exact Ext.refl _) | (with_reducible assumption) | (with_reducible refine Ext.alloc ?_ _) | (with_reducible refine Ext.drewN ?_ _) | (with_reducible refine Ext.drew ?_) | (with_reducible refine Ext.setCell ?_ (by simp <;> omega) _))) hx
  clear hx X7 C7a0 F7a0 C7a1 F7a1 C7b0 F7b0 C7b1 F7b1 C7c0 F7c0 C7c1 F7c1 C7s0 F7s0 C7s1 F7s1 C7t0 F7t0 C7t1 F7t1
  have l8a : w.heap.size < w8.heap.size := by omega
  have l8b : w.heap.size + 1 < w8.heap.size := by omega
  have l8c : w.heap.size + 1 + 1 < w8.heap.size := by omega
  have l8s : w5.heap.size < w8.heap.size := by omega
  have l8t : w6.heap.size < w8.heap.size := by omega
  have l8p : w7.heap.size < w8.heap.size := by omega
  go_wp2_with fail
  refine (HX.out _).mono ?_
  rintro e w9 ⟨rfl, hx⟩
  have fs9 : w8.heap.size + 1 ≤ w9.heap.size := by simpa using hx.size
  obtain ⟨fc, ff⟩ := And.intro hx.cells hx.marks
  have C9a0 : w9.cell? ⟨w.heap.size, 0, none⟩ = some (.int .i64 an) := by rw [fc _ _ (by first | omega | (simp; omega) | simp)]; simp [go_sem, *]
  have F9a0 : w9.frozen? ⟨w.heap.size, 0, none⟩ = false := by rw [ff _ _ (by first | omega | (simp; omega) | simp)]; simp [go_sem, *]
  have C9a1 : w9.cell? ⟨w.heap.size, 1, none⟩ = some (.int .i64 ad) := by rw [fc _ _ (by first | omega | (simp; omega) | simp)]; simp [go_sem, *]
  have F9a1 : w9.frozen? ⟨w.heap.size, 1, none⟩ = false := by rw [ff _ _ (by first | omega | (simp; omega) | simp)]; simp [go_sem, *]
  have C9b0 : w9.cell? ⟨w.heap.size + 1, 0, none⟩ = some (.int .i64 bn) := by rw [fc _ _ (by first | omega | (simp; omega) | simp)]; simp [go_sem, *]
  have F9b0 : w9.frozen? ⟨w.heap.size + 1, 0, none⟩ = false := by rw [ff _ _ (by first | omega | (simp; omega) | simp)]; simp [go_sem, *]
  have C9b1 : w9.cell? ⟨w.heap.size + 1, 1, none⟩ = some (.int .i64 bd) := by rw [fc _ _ (by first | omega | (simp; omega) | simp)]; simp [go_sem, *]
  have F9b1 : w9.frozen? ⟨w.heap.size + 1, 1, none⟩ = false := by rw [ff _ _ (by first | omega | (simp; omega) | simp)]; simp [go_sem, *]
  have C9c0 : w9.cell? ⟨w.heap.size + 1 + 1, 0, none⟩ = some (.int .i64 cn) := by rw [fc _ _ (by first | omega | (simp; omega) | simp)]; simp [go_sem, *]
  have F9c0 : w9.frozen? ⟨w.heap.size + 1 + 1, 0, none⟩ = false := by rw [ff _ _ (by first | omega | (simp; omega) | simp)]; simp [go_sem, *]
  have C9c1 : w9.cell? ⟨w.heap.size + 1 + 1, 1, none⟩ = some (.int .i64 cd) := by rw [fc _ _ (by first | omega | (simp; omega) | simp)]; simp [go_sem, *]
  have F9c1 : w9.frozen? ⟨w.heap.size + 1 + 1, 1, none⟩ = false := by rw [ff _ _ (by first | omega | (simp; omega) | simp)]; simp [go_sem, *]
  have C9s0 : w9.cell? ⟨w5.heap.size, 0, none⟩ = some (.int .i64 s1) := by rw [fc _ _ (by first | omega | (simp; omega) | simp)]; simp [go_sem, *]
  have F9s0 : w9.frozen? ⟨w5.heap.size, 0, none⟩ = false := by rw [ff _ _ (by first | omega | (simp; omega) | simp)]; simp [go_sem, *]
  have C9s1 : w9.cell? ⟨w5.heap.size, 1, none⟩ = some (.int .i64 s2) := by rw [fc _ _ (by first | omega | (simp; omega) | simp)]; simp [go_sem, *]
  have F9s1 : w9.frozen? ⟨w5.heap.size, 1, none⟩ = false := by rw [ff _ _ (by first | omega | (simp; omega) | simp)]; simp [go_sem, *]
  have C9t0 : w9.cell? ⟨w6.heap.size, 0, none⟩ = some (.int .i64 s1) := by rw [fc _ _ (by first | omega | (simp; omega) | simp)]; simp [go_sem, *]
  have F9t0 : w9.frozen? ⟨w6.heap.size, 0, none⟩ = false := by rw [ff _ _ (by first | omega | (simp; omega) | simp)]; simp [go_sem, *]
  have C9t1 : w9.cell? ⟨w6.heap.size, 1, none⟩ = some (.int .i64 s2) := by rw [fc _ _ (by first | omega | (simp; omega) | simp)]; simp [go_sem, *]
  have F9t1 : w9.frozen? ⟨w6.heap.size, 1, none⟩ = false := by rw [ff _ _ (by first | omega | (simp; omega) | simp)]; simp [go_sem, *]
  have C9p0 : w9.cell? ⟨w7.heap.size, 0, none⟩ = some (.int .i64 p1) := by rw [fc _ _ (by first | omega | (simp; omega) | simp)]; simp [go_sem, *]
  have F9p0 : w9.frozen? ⟨w7.heap.size, 0, none⟩ = false := by rw [ff _ _ (by first | omega | (simp; omega) | simp)]; simp [go_sem, *]
  have C9p1 : w9.cell? ⟨w7.heap.size, 1, none⟩ = some (.int .i64 p2) := by rw [fc _ _ (by first | omega | (simp; omega) | simp)]; simp [go_sem, *]
  have F9p1 : w9.frozen? ⟨w7.heap.size, 1, none⟩ = false := by rw [ff _ _ (by first | omega | (simp; omega) | simp)]; simp [go_sem, *]
  have C9q0 : w9.cell? ⟨w8.heap.size, 0, none⟩ = some (.int .i64 p1) := by rw [fc _ _ (by first | omega | (simp; omega) | simp)]; simp [go_sem, *]
  have F9q0 : w9.frozen? ⟨w8.heap.size, 0, none⟩ = false := by rw [ff _ _ (by first | omega | (simp; omega) | simp)]; simp [go_sem, *]
  have C9q1 : w9.cell? ⟨w8.heap.size, 1, none⟩ = some (.int .i64 p2) := by rw [fc _ _ (by first | omega | (simp; omega) | simp)]; simp [go_sem, *]
  have F9q1 : w9.frozen? ⟨w8.heap.size, 1, none⟩ = false := by rw [ff _ _ (by first | omega | (simp; omega) | simp)]; simp [go_sem, *]
  clear fc ff
  have X9 : Ext w w9 := Ext.trans (by repeat (first | (with_reducible exact Ext.refl _) | (with_reducible assumption) | (with_reducible refine Ext.alloc ?_ _) | (with_reducible refine Ext.drewN ?_ _) | (with_reducible refine Ext.drew ?_) | (with_reducible refine Ext.setCell ?_ (by simp <;> omega) _))) hx
  clear hx X8 C8a0 F8a0 C8a1 F8a1 C8b0 F8b0 C8b1 F8b1 C8c0 F8c0 C8c1 F8c1 C8s0 F8s0 C8s1 F8s1 C8t0 F8t0 C8t1 F8t1 C8p0 F8p0 C8p1 F8p1
  have l9a : w.heap.size < w9.heap.size := by omega
  have l9b : w.heap.size + 1 < w9.heap.size := by omega
  have l9c : w.heap.size + 1 + 1 < w9.heap.size := by omega
  have l9s : w5.heap.size < w9.heap.size := by omega
  have l9t : w6.heap.size < w9.heap.size := by omega
  have l9p : w7.heap.size < w9.heap.size := by omega
  have l9q : w8.heap.size < w9.heap.size := by omega
  go_wp2_with fail
  refine (HY.out _).mono ?_
  rintro e w10 ⟨rfl, hx⟩
  have fs10 : w9.heap.size + 1 ≤ w10.heap.size := by simpa using hx.size
  obtain ⟨fc, ff⟩ := And.intro hx.cells hx.marks
  have C10a0 : w10.cell? ⟨w.heap.size, 0, none⟩ = some (.int .i64 an) := by rw [fc _ _ (by first | omega | (simp; omega) | simp)]; simp [go_sem, *]
  have F10a0 : w10.frozen? ⟨w.heap.size, 0, none⟩ = false := by rw [ff _ _ (by first | omega | (simp; omega) | simp)]; simp [go_sem, *]
  have C10a1 : w10.cell? ⟨w.heap.size, 1, none⟩ = some (.int .i64 ad) := by rw [fc _ _ (by first | omega | (simp; omega) | simp)]; simp [go_sem, *]
  have F10a1 : w10.frozen? ⟨w.heap.size, 1, none⟩ = false := by rw [ff _ _ (by first | omega | (simp; omega) | simp)]; simp [go_sem, *]
  have C10b0 : w10.cell? ⟨w.heap.size + 1, 0, none⟩ = some (.int .i64 bn) := by rw [fc _ _ (by first | omega | (simp; omega) | simp)]; simp [go_sem, *]
  have F10b0 : w10.frozen? ⟨w.heap.size + 1, 0, none⟩ = false := by rw [ff _ _ (by first | omega | (simp; omega) | simp)]; simp [go_sem, *]
  have C10b1 : w10.cell? ⟨w.heap.size + 1, 1, none⟩ = some (.int .i64 bd) := by rw [fc _ _ (by first | omega | (simp; omega) | simp)]; simp [go_sem, *]
  have F10b1 : w10.frozen? ⟨w.heap.size + 1, 1, none⟩ = false := by rw [ff _ _ (by first | omega | (simp; omega) | simp)]; simp [go_sem, *]
  have C10c0 : w10.cell? ⟨w.heap.size + 1 + 1, 0, none⟩ = some (.int .i64 cn) := by rw [fc _ _ (by first | omega | (simp; omega) | simp)]; simp [go_sem, *]
  have F10c0 : w10.frozen? ⟨w.heap.size + 1 + 1, 0, none⟩ = false := by rw [ff _ _ (by first | omega | (simp; omega) | simp)]; simp [go_sem, *]
  have C10c1 : w10.cell? ⟨w.heap.size + 1 + 1, 1, none⟩ = some (.int .i64 cd) := by rw [fc _ _ (by first | omega | (simp; omega) | simp)]; simp [go_sem, *]
  have F10c1 : w10.frozen? ⟨w.heap.size + 1 + 1, 1, none⟩ = false := by rw [ff _ _ (by first | omega | (simp; omega) | simp)]; simp [go_sem, *]
  have C10s0 : w10.cell? ⟨w5.heap.size, 0, none⟩ = some (.int .i64 s1) := by rw [fc _ _ (by first | omega | (simp; omega) | simp)]; simp [go_sem, *]
  have F10s0 : w10.frozen? ⟨w5.heap.size, 0, none⟩ = false := by rw [ff _ _ (by first | omega | (simp; omega) | simp)]; simp [go_sem, *]
  have C10s1 : w10.cell? ⟨w5.heap.size, 1, none⟩ = some (.int .i64 s2) := by rw [fc _ _ (by first | omega | (simp; omega) | simp)]; simp [go_sem, *]
  have F10s1 : w10.frozen? ⟨w5.heap.size, 1, none⟩ = false := by rw [ff _ _ (by first | omega | (simp; omega) | simp)]; simp [go_sem, *]
  have C10t0 : w10.cell? ⟨w6.heap.size, 0, none⟩ = some (.int .i64 s1) := by rw [fc _ _ (by first | omega | (simp; omega) | simp)]; simp [go_sem, *]
  have F10t0 : w10.frozen? ⟨w6.heap.size, 0, none⟩ = false := by rw [ff _ _ (by first | omega | (simp; omega) | simp)]; simp [go_sem, *]
  have C10t1 : w10.cell? ⟨w6.heap.size, 1, none⟩ = some (.int .i64 s2) := by rw [fc _ _ (by first | omega | (simp; omega) | simp)]; simp [go_sem, *]
  have F10t1 : w10.frozen? ⟨w6.heap.size, 1, none⟩ = false := by rw [ff _ _ (by first | omega | (simp; omega) | simp)]; simp [go_sem, *]
  have C10p0 : w10.cell? ⟨w7.heap.size, 0, none⟩ = some (.int .i64 p1) := by rw [fc _ _ (by first | omega | (simp; omega) | simp)]; simp [go_sem, *]
  have F10p0 : w10.frozen? ⟨w7.heap.size, 0, none⟩ = false := by rw [ff _ _ (by first | omega | (simp; omega) | simp)]; simp [go_sem, *]
  have C10p1 : w10.cell? ⟨w7.heap.size, 1, none⟩ = some (.int .i64 p2) := by rw [fc _ _ (by first | omega | (simp; omega) | simp)]; simp [go_sem, *]
  have F10p1 : w10.frozen? ⟨w7.heap.size, 1, none⟩ = false := by rw [ff _ _ (by first | omega | (simp; omega) | simp)]; simp [go_sem, *]
  have C10q0 : w10.cell? ⟨w8.heap.size, 0, none⟩ = some (.int .i64 p1) := by rw [fc _ _ (by first | omega | (simp; omega) | simp)]; simp [go_sem, *]
  have F10q0 : w10.frozen? ⟨w8.heap.size, 0, none⟩ = false := by rw [ff _ _ (by first | omega | (simp; omega) | simp)]; simp [go_sem, *]
  have C10q1 : w10.cell? ⟨w8.heap.size, 1, none⟩ = some (.int .i64 p2) := by rw [fc _ _ (by first | omega | (simp; omega) | simp)]; simp [go_sem, *]
  have F10q1 : w10.frozen? ⟨w8.heap.size, 1, none⟩ = false := by rw [ff _ _ (by first | omega | (simp; omega) | simp)]; simp [go_sem, *]
  have C10x0 : w10.cell? ⟨w9.heap.size, 0, none⟩ = some (.int .i64 x1) := by rw [fc _ _ (by first | omega | (simp; omega) | simp)]; simp [go_sem, *]
  have F10x0 : w10.frozen? ⟨w9.heap.size, 0, none⟩ = false := by rw [ff _ _ (by first | omega | (simp; omega) | simp)]; simp [go_sem, *]
  have C10x1 : w10.cell? ⟨w9.heap.size, 1, none⟩ = some (.int .i64 x2) := by rw [fc _ _ (by first | omega | (simp; omega) | simp)]; simp [go_sem, *]
  have F10x1 : w10.frozen? ⟨w9.heap.size, 1, none⟩ = false := by rw [ff _ _ (by first | omega | (simp; omega) | simp)]; simp [go_sem, *]
  clear fc ff
  have X10 : Ext w w10 := Ext.trans (by repeat (first | (with_reducible exact Ext.refl _) | (with_reducible assumption) | (with_reducible refine Ext.alloc ?_ _) | (with_reducible refine Ext.drewN ?_ _) | (with_reducible refine Ext.drew ?_) | (with_reducible refine Ext.setCell ?_ (by simp <;> omega) _))) hx
  clear hx X9 C9a0 F9a0 C9a1 F9a1 C9b0 F9b0 C9b1 F9b1 C9c0 F9c0 C9c1 F9c1 C9s0 F9s0 C9s1 F9s1 C9t0 F9t0 C9t1 F9t1 C9p0 F9p0 C9p1 F9p1 C9q0 F9q0 C9q1 F9q1
  have l10a : w.heap.size < w10.heap.size := by omega
  have l10b : w.heap.size + 1 < w10.heap.size := by omega
  have l10c : w.heap.size + 1 + 1 < w10.heap.size := by omega
  have l10s : w5.heap.size < w10.heap.size := by omega
  have l10t : w6.heap.size < w10.heap.size := by omega
  have l10p : w7.heap.size < w10.heap.size := by omega
  have l10q : w8.heap.size < w10.heap.size := by omega
  have l10x : w9.heap.size < w10.heap.size := by omega
  go_wp2_with fail
  refine (HZ.out _).mono ?_
  rintro e w11 ⟨rfl, hx⟩
  have fs11 : w10.heap.size + 1 ≤ w11.heap.size := by simpa using hx.size
  obtain ⟨fc, ff⟩ := And.intro hx.cells hx.marks
  have C11a0 : w11.cell? ⟨w.heap.size, 0, none⟩ = some (.int .i64 an) := by rw [fc _ _ (by first | omega | (simp; omega) | simp)]; simp [go_sem, *]
  have F11a0 : w11.frozen? ⟨w.heap.size, 0, none⟩ = false := by rw [ff _ _ (by first | omega | (simp; omega) | simp)]; simp [go_sem, *]
  have C11a1 : w11.cell? ⟨w.heap.size, 1, none⟩ = some (.int .i64 ad) := by rw [fc _ _ (by first | omega | (simp; omega) | simp)]; simp [go_sem, *]
  have F11a1 : w11.frozen? ⟨w.heap.size, 1, none⟩ = false := by rw [ff _ _ (by first | omega | (simp; omega) | simp)]; simp [go_sem, *]
  have C11b0 : w11.cell? ⟨w.heap.size + 1, 0, none⟩ = some (.int .i64 bn) := by rw [fc _ _ (by first | omega | (simp; omega) | simp)]; simp [go_sem, *]
  have F11b0 : w11.frozen? ⟨w.heap.size + 1, 0, none⟩ = false := by rw [ff _ _ (by first | omega | (simp; omega) | simp)]; simp [go_sem, *]
  have C11b1 : w11.cell? ⟨w.heap.size + 1, 1, none⟩ = some (.int .i64 bd) := by rw [fc _ _ (by first | omega | (simp; omega) | simp)]; simp [go_sem, *]
  have F11b1 : w11.frozen? ⟨w.heap.size + 1, 1, none⟩ = false := by rw [ff _ _ (by first | omega | (simp; omega) | simp)]; simp [go_sem, *]
  have C11c0 : w11.cell? ⟨w.heap.size + 1 + 1, 0, none⟩ = some (.int .i64 cn) := by rw [fc _ _ (by first | omega | (simp; omega) | simp)]; simp [go_sem, *]
  have F11c0 : w11.frozen? ⟨w.heap.size + 1 + 1, 0, none⟩ = false := by rw [ff _ _ (by first | omega | (simp; omega) | simp)]; simp [go_sem, *]
  have C11c1 : w11.cell? ⟨w.heap.size + 1 + 1, 1, none⟩ = some (.int .i64 cd) := by rw [fc _ _ (by first | omega | (simp; omega) | simp)]; simp [go_sem, *]
  have F11c1 : w11.frozen? ⟨w.heap.size + 1 + 1, 1, none⟩ = false := by rw [ff _ _ (by first | omega | (simp; omega) | simp)]; simp [go_sem, *]
  have C11s0 : w11.cell? ⟨w5.heap.size, 0, none⟩ = some (.int .i64 s1) := by rw [fc _ _ (by first | omega | (simp; omega) | simp)]; simp [go_sem, *]
  have F11s0 : w11.frozen? ⟨w5.heap.size, 0, none⟩ = false := by rw [ff _ _ (by first | omega | (simp; omega) | simp)]; simp [go_sem, *]
  have C11s1 : w11.cell? ⟨w5.heap.size, 1, none⟩ = some (.int .i64 s2) := by rw [fc _ _ (by first | omega | (simp; omega) | simp)]; simp [go_sem, *]
  have F11s1 : w11.frozen? ⟨w5.heap.size, 1, none⟩ = false := by rw [ff _ _ (by first | omega | (simp; omega) | simp)]; simp [go_sem, *]
  have C11t0 : w11.cell? ⟨w6.heap.size, 0, none⟩ = some (.int .i64 s1) := by rw [fc _ _ (by first | omega | (simp; omega) | simp)]; simp [go_sem, *]
  have F11t0 : w11.frozen? ⟨w6.heap.size, 0, none⟩ = false := by rw [ff _ _ (by first | omega | (simp; omega) | simp)]; simp [go_sem, *]
  have C11t1 : w11.cell? ⟨w6.heap.size, 1, none⟩ = some (.int .i64 s2) := by rw [fc _ _ (by first | omega | (simp; omega) | simp)]; simp [go_sem, *]
  have F11t1 : w11.frozen? ⟨w6.heap.size, 1, none⟩ = false := by rw [ff _ _ (by first | omega | (simp; omega) | simp)]; simp [go_sem, *]
  have C11p0 : w11.cell? ⟨w7.heap.size, 0, none⟩ = some (.int .i64 p1) := by rw [fc _ _ (by first | omega | (simp; omega) | simp)]; simp [go_sem, *]
  have F11p0 : w11.frozen? ⟨w7.heap.size, 0, none⟩ = false := by rw [ff _ _ (by first | omega | (simp; omega) | simp)]; simp [go_sem, *]
  have C11p1 : w11.cell? ⟨w7.heap.size, 1, none⟩ = some (.int .i64 p2) := by rw [fc _ _ (by first | omega | (simp; omega) | simp)]; simp [go_sem, *]
  have F11p1 : w11.frozen? ⟨w7.heap.size, 1, none⟩ = false := by rw [ff _ _ (by first | omega | (simp; omega) | simp)]; simp [go_sem, *]
  have C11q0 : w11.cell? ⟨w8.heap.size, 0, none⟩ = some (.int .i64 p1) := by rw [fc _ _ (by first | omega | (simp; omega) | simp)]; simp [go_sem, *]
  have F11q0 : w11.frozen? ⟨w8.heap.size, 0, none⟩ = false := by rw [ff _ _ (by first | omega | (simp; omega) | simp)]; simp [go_sem, *]
  have C11q1 : w11.cell? ⟨w8.heap.size, 1, none⟩ = some (.int .i64 p2) := by rw [fc _ _ (by first | omega | (simp; omega) | simp)]; simp [go_sem, *]
  have F11q1 : w11.frozen? ⟨w8.heap.size, 1, none⟩ = false := by rw [ff _ _ (by first | omega | (simp; omega) | simp)]; simp [go_sem, *]
  have C11x0 : w11.cell? ⟨w9.heap.size, 0, none⟩ = some (.int .i64 x1) := by rw [fc _ _ (by first | omega | (simp; omega) | simp)]; simp [go_sem, *]
  have F11x0 : w11.frozen? ⟨w9.heap.size, 0, none⟩ = false := by rw [ff _ _ (by first | omega | (simp; omega) | simp)]; simp [go_sem, *]
  have C11x1 : w11.cell? ⟨w9.heap.size, 1, none⟩ = some (.int .i64 x2) := by rw [fc _ _ (by first | omega | (simp; omega) | simp)]; simp [go_sem, *]
  have F11x1 : w11.frozen? ⟨w9.heap.size, 1, none⟩ = false := by rw [ff _ _ (by first | omega | (simp; omega) | simp)]; simp [go_sem, *]
  have C11y0 : w11.cell? ⟨w10.heap.size, 0, none⟩ = some (.int .i64 y1) := by rw [fc _ _ (by first | omega | (simp; omega) | simp)]; simp [go_sem, *]
  have F11y0 : w11.frozen? ⟨w10.heap.size, 0, none⟩ = false := by rw [ff _ _ (by first | omega | (simp; omega) | simp)]; simp [go_sem, *]
  have C11y1 : w11.cell? ⟨w10.heap.size, 1, none⟩ = some (.int .i64 y2) := by rw [fc _ _ (by first | omega | (simp; omega) | simp)]; simp [go_sem, *]
  have F11y1 : w11.frozen? ⟨w10.heap.size, 1, none⟩ = false := by rw [ff _ _ (by first | omega | (simp; omega) | simp)]; simp [go_sem, *]
  clear fc ff
  have X11 : Ext w w11 := Ext.trans (by repeat (first | (with_reducible exact Ext.refl _) | (with_reducible assumption) | (with_reducible refine Ext.alloc ?_ _) | (with_reducible refine Ext.drewN ?_ _) | (with_reducible refine Ext.drew ?_) | (with_reducible refine Ext.setCell ?_ (by simp <;> omega) _))) hx
  clear hx X10 C10a0 F10a0 C10a1 F10a1 C10b0 F10b0 C10b1 F10b1 C10c0 F10c0 C10c1 F10c1 C10s0 F10s0 C10s1 F10s1 C10t0 F10t0 C10t1 F10t1 C10p0 F10p0 C10p1 F10p1 C10q0 F10q0 C10q1 F10q1 C10x0 F10x0 C10x1 F10x1
  have l11a : w.heap.size < w11.heap.size := by omega
  have l11b : w.heap.size + 1 < w11.heap.size := by omega
  have l11c : w.heap.size + 1 + 1 < w11.heap.size := by omega
  have l11s : w5.heap.size < w11.heap.size := by omega
  have l11t : w6.heap.size < w11.heap.size := by omega
  have l11p : w7.heap.size < w11.heap.size := by omega
  have l11q : w8.heap.size < w11.heap.size := by omega
  have l11x : w9.heap.size < w11.heap.size := by omega
  have l11y : w10.heap.size < w11.heap.size := by omega
  go_wp2_with fail
  refine (HW.out _).mono ?_
  rintro e w12 ⟨rfl, hx⟩
  have fs12 : w11.heap.size + 1 ≤ w12.heap.size := by simpa using hx.size
  obtain ⟨fc, ff⟩ := And.intro hx.cells hx.marks
  have C12a0 : w12.cell? ⟨w.heap.size, 0, none⟩ = some (.int .i64 an) := by rw [fc _ _ (by first | omega | (simp; omega) | simp)]; simp [go_sem, *]
  have F12a0 : w12.frozen? ⟨w.heap.size, 0, none⟩ = false := by rw [ff _ _ (by first | omega | (simp; omega) | simp)]; simp [go_sem, *]
  have C12a1 : w12.cell? ⟨w.heap.size, 1, none⟩ = some (.int .i64 ad) := by rw [fc _ _ (by first | omega | (simp; omega) | simp)]; simp [go_sem, *]
  have F12a1 : w12.frozen? ⟨w.heap.size, 1, none⟩ = false := by rw [ff _ _ (by first | omega | (simp; omega) | simp)]; simp [go_sem, *]
  have C12b0 : w12.cell? ⟨w.heap.size + 1, 0, none⟩ = some (.int .i64 bn) := by rw [fc _ _ (by first | omega | (simp; omega) | simp)]; simp [go_sem, *]
  have F12b0 : w12.frozen? ⟨w.heap.size + 1, 0, none⟩ = false := by rw [ff _ _ (by first | omega | (simp; omega) | simp)]; simp [go_sem, *]
  have C12b1 : w12.cell? ⟨w.heap.size + 1, 1, none⟩ = some (.int .i64 bd) := by rw [fc _ _ (by first | omega | (simp; omega) | simp)]; simp [go_sem, *]
  have F12b1 : w12.frozen? ⟨w.heap.size + 1, 1, none⟩ = false := by rw [ff _ _ (by first | omega | (simp; omega) | simp)]; simp [go_sem, *]
  have C12c0 : w12.cell? ⟨w.heap.size + 1 + 1, 0, none⟩ = some (.int .i64 cn) := by rw [fc _ _ (by first | omega | (simp; omega) | simp)]; simp [go_sem, *]
  have F12c0 : w12.frozen? ⟨w.heap.size + 1 + 1, 0, none⟩ = false := by rw [ff _ _ (by first | omega | (simp; omega) | simp)]; simp [go_sem, *]
  have C12c1 : w12.cell? ⟨w.heap.size + 1 + 1, 1, none⟩ = some (.int .i64 cd) := by rw [fc _ _ (by first | omega | (simp; omega) | simp)]; simp [go_sem, *]
  have F12c1 : w12.frozen? ⟨w.heap.size + 1 + 1, 1, none⟩ = false := by rw [ff _ _ (by first | omega | (simp; omega) | simp)]; simp [go_sem, *]
  have C12s0 : w12.cell? ⟨w5.heap.size, 0, none⟩ = some (.int .i64 s1) := by rw [fc _ _ (by first | omega | (simp; omega) | simp)]; simp [go_sem, *]
  have F12s0 : w12.frozen? ⟨w5.heap.size, 0, none⟩ = false := by rw [ff _ _ (by first | omega | (simp; omega) | simp)]; simp [go_sem, *]
  have C12s1 : w12.cell? ⟨w5.heap.size, 1, none⟩ = some (.int .i64 s2) := by rw [fc _ _ (by first | omega | (simp; omega) | simp)]; simp [go_sem, *]
  have F12s1 : w12.frozen? ⟨w5.heap.size, 1, none⟩ = false := by rw [ff _ _ (by first | omega | (simp; omega) | simp)]; simp [go_sem, *]
  have C12t0 : w12.cell? ⟨w6.heap.size, 0, none⟩ = some (.int .i64 s1) := by rw [fc _ _ (by first | omega | (simp; omega) | simp)]; simp [go_sem, *]
  have F12t0 : w12.frozen? ⟨w6.heap.size, 0, none⟩ = false := by rw [ff _ _ (by first | omega | (simp; omega) | simp)]; simp [go_sem, *]
  have C12t1 : w12.cell? ⟨w6.heap.size, 1, none⟩ = some (.int .i64 s2) := by rw [fc _ _ (by first | omega | (simp; omega) | simp)]; simp [go_sem, *]
  have F12t1 : w12.frozen? ⟨w6.heap.size, 1, none⟩ = false := by rw [ff _ _ (by first | omega | (simp; omega) | simp)]; simp [go_sem, *]
  have C12p0 : w12.cell? ⟨w7.heap.size, 0, none⟩ = some (.int .i64 p1) := by rw [fc _ _ (by first | omega | (simp; omega) | simp)]; simp [go_sem, *]
  have F12p0 : w12.frozen? ⟨w7.heap.size, 0, none⟩ = false := by rw [ff _ _ (by first | omega | (simp; omega) | simp)]; simp [go_sem, *]
  have C12p1 : w12.cell? ⟨w7.heap.size, 1, none⟩ = some (.int .i64 p2) := by rw [fc _ _ (by first | omega | (simp; omega) | simp)]; simp [go_sem, *]
  have F12p1 : w12.frozen? ⟨w7.heap.size, 1, none⟩ = false := by rw [ff _ _ (by first | omega | (simp; omega) | simp)]; simp [go_sem, *]
  have C12q0 : w12.cell? ⟨w8.heap.size, 0, none⟩ = some (.int .i64 p1) := by rw [fc _ _ (by first | omega | (simp; omega) | simp)]; simp [go_sem, *]
  have F12q0 : w12.frozen? ⟨w8.heap.size, 0, none⟩ = false := by rw [ff _ _ (by first | omega | (simp; omega) | simp)]; simp [go_sem, *]
  have C12q1 : w12.cell? ⟨w8.heap.size, 1, none⟩ = some (.int .i64 p2) := by rw [fc _ _ (by first | omega | (simp; omega) | simp)]; simp [go_sem, *]
  have F12q1 : w12.frozen? ⟨w8.heap.size, 1, none⟩ = false := by rw [ff _ _ (by first | omega | (simp; omega) | simp)]; simp [go_sem, *]
  have C12x0 : w12.cell? ⟨w9.heap.size, 0, none⟩ = some (.int .i64 x1) := by rw [fc _ _ (by first | omega | (simp; omega) | simp)]; simp [go_sem, *]
  have F12x0 : w12.frozen? ⟨w9.heap.size, 0, none⟩ = false := by rw [ff _ _ (by first | omega | (simp; omega) | simp)]; simp [go_sem, *]
  have C12x1 : w12.cell? ⟨w9.heap.size, 1, none⟩ = some (.int .i64 x2) := by rw [fc _ _ (by first | omega | (simp; omega) | simp)]; simp [go_sem, *]
  have F12x1 : w12.frozen? ⟨w9.heap.size, 1, none⟩ = false := by rw [ff _ _ (by first | omega | (simp; omega) | simp)]; simp [go_sem, *]
  have C12y0 : w12.cell? ⟨w10.heap.size, 0, none⟩ = some (.int .i64 y1) := by rw [fc _ _ (by first | omega | (simp; omega) | simp)]; simp [go_sem, *]
  have F12y0 : w12.frozen? ⟨w10.heap.size, 0, none⟩ = false := by rw [ff _ _ (by first | omega | (simp; omega) | simp)]; simp [go_sem, *]
  have C12y1 : w12.cell? ⟨w10.heap.size, 1, none⟩ = some (.int .i64 y2) := by rw [fc _ _ (by first | omega | (simp; omega) | simp)]; simp [go_sem, *]
  have F12y1 : w12.frozen? ⟨w10.heap.size, 1, none⟩ = false := by rw [ff _ _ (by first | omega | (simp; omega) | simp)]; simp [go_sem, *]
  have C12z0 : w12.cell? ⟨w11.heap.size, 0, none⟩ = some (.int .i64 z1) := by rw [fc _ _ (by first | omega | (simp; omega) | simp)]; simp [go_sem, *]
  have F12z0 : w12.frozen? ⟨w11.heap.size, 0, none⟩ = false := by rw [ff _ _ (by first | omega | (simp; omega) | simp)]; simp [go_sem, *]
  have C12z1 : w12.cell? ⟨w11.heap.size, 1, none⟩ = some (.int .i64 z2) := by rw [fc _ _ (by first | omega | (simp; omega) | simp)]; simp [go_sem, *]
  have F12z1 : w12.frozen? ⟨w11.heap.size, 1, none⟩ = false := by rw [ff _ _ (by first | omega | (simp; omega) | simp)]; simp [go_sem, *]
  clear fc ff
  have X12 : Ext w w12 := Ext.trans (by repeat (first | (with_reducible exact Ext.refl _) | (with_reducible assumption) | (with_reducible refine Ext.alloc ?_ _) | (with_reducible refine Ext.drewN ?_ _) | (with_reducible refine Ext.drew ?_) | (with_reducible refine Ext.setCell ?_ (by simp <;> omega) _))) hx
  clear hx X11 C11a0 F11a0 C11a1 F11a1 C11b0 F11b0 C11b1 F11b1 C11c0 F11c0 C11c1 F11c1 C11s0 F11s0 C11s1 F11s1 C11t0 F11t0 C11t1 F11t1 C11p0 F11p0 C11p1 F11p1 C11q0 F11q0 C11q1 F11q1 C11x0 F11x0 C11x1 F11x1 C11y0 F11y0 C11y1 F11y1
  have l12a : w.heap.size < w12.heap.size := by omega
  have l12b : w.heap.size + 1 < w12.heap.size := by omega
  have l12c : w.heap.size + 1 + 1 < w12.heap.size := by omega
  have l12s : w5.heap.size < w12.heap.size := by omega
  have l12t : w6.heap.size < w12.heap.size := by omega
  have l12p : w7.heap.size < w12.heap.size := by omega
  have l12q : w8.heap.size < w12.heap.size := by omega
  have l12x : w9.heap.size < w12.heap.size := by omega
  have l12y : w10.heap.size < w12.heap.size := by omega
  have l12z : w11.heap.size < w12.heap.size := by omega
  go_wp2_with fail
  go_ret
  exact ⟨rfl, (by repeat (first | (with_reducible exact Ext.refl _) | (with_reducible assumption) | (with_reducible refine Ext.alloc ?_ _) | (with_reducible refine Ext.drewN ?_ _) | (with_reducible refine Ext.drew ?_) | (with_reducible refine Ext.setCell ?_ (by simp <;> omega) _)))⟩

end Go.Proofs.YtifhgkdajnngnaaDoor
