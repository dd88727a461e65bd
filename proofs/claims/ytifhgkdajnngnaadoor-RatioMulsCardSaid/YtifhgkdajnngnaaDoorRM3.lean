/- The walks of RatioAdds (7). -/
import Derived.Test.YtifhgkdajnngnaaDoorRR6
namespace Go.Proofs.YtifhgkdajnngnaaDoor
open Go.RowKit Go.Par
set_option maxRecDepth 100000 in
set_option maxHeartbeats 10000000 in
theorem adds_bad1 (an ad bn bd : Int) (w : World) (G : Globs w) (hS : ∀ W : World, Calls Tryd.prog 23 #[.agg #[.int .i64 an, .int .i64 ad], .agg #[.int .i64 bn, .int .i64 bd]] W fun e w' => e = .returned (.tuple #[.agg #[.int .i64 0, .int .i64 0], .int .i64 1]) ∧ Ext W w') (hD : ∀ W : World, Calls Tryd.prog 24 #[.agg #[.int .i64 an, .int .i64 ad], .agg #[.int .i64 bn, .int .i64 bd]] W fun e w' => e = .returned (.tuple #[.agg #[.int .i64 0, .int .i64 0], .int .i64 1]) ∧ Ext W w') (hVa : ∀ W : World, Calls Tryd.prog 18 #[.int .i64 an, .int .i64 ad] W fun e w' => e = .returned (.bool false) ∧ Ext W w') :
    Calls Tryd.prog 7 #[.agg #[.int .i64 an, .int .i64 ad], .agg #[.int .i64 bn, .int .i64 bd]] w fun e w' => e = .returned (.bool true) ∧ Ext w w' := by
  have HA := Lib.hid (fun W (G : Globs W) => awake_any W G)
  have HG := Lib.hid G
  have HS := Lib.hid hS
  have HD := Lib.hid hD
  have HVa := Lib.hid hVa
  clear G hS hD hVa
  have X0 : Ext w w := Ext.refl w
  go_enter Tryd.func7, Tryd.ntmps7
  go_wp2_with fail
  refine (HA.out _ (HG.out.ext (by repeat (first | (with_reducible exact Ext.refl _) | (with_reducible assumption) | (with_reducible refine Ext.alloc ?_ _) | (with_reducible refine Ext.drewN ?_ _) | (with_reducible refine Ext.drew ?_) | (with_reducible refine Ext.setCell ?_ (by simp <;> omega) _))))).mono ?_
  rintro e w1 ⟨rfl, hx⟩
  have fs1 : w.heap.size + 1 + 1 ≤ w1.heap.size := by simpa using hx.size
  obtain ⟨fc, ff⟩ := And.intro hx.cells hx.marks
  have C1a0 : w1.cell? ⟨w.heap.size, 0, none⟩ = some (Value.int IntKind.i64 an) := by rw [fc _ _ (by first | omega | (simp; omega) | simp)]; simp [go_sem, *]
  have F1a0 : w1.frozen? ⟨w.heap.size, 0, none⟩ = false := by rw [ff _ _ (by first | omega | (simp; omega) | simp)]; simp [go_sem, *]
  have C1a1 : w1.cell? ⟨w.heap.size, 1, none⟩ = some (Value.int IntKind.i64 ad) := by rw [fc _ _ (by first | omega | (simp; omega) | simp)]; simp [go_sem, *]
  have F1a1 : w1.frozen? ⟨w.heap.size, 1, none⟩ = false := by rw [ff _ _ (by first | omega | (simp; omega) | simp)]; simp [go_sem, *]
  have C1b0 : w1.cell? ⟨w.heap.size + 1, 0, none⟩ = some (Value.int IntKind.i64 bn) := by rw [fc _ _ (by first | omega | (simp; omega) | simp)]; simp [go_sem, *]
  have F1b0 : w1.frozen? ⟨w.heap.size + 1, 0, none⟩ = false := by rw [ff _ _ (by first | omega | (simp; omega) | simp)]; simp [go_sem, *]
  have C1b1 : w1.cell? ⟨w.heap.size + 1, 1, none⟩ = some (Value.int IntKind.i64 bd) := by rw [fc _ _ (by first | omega | (simp; omega) | simp)]; simp [go_sem, *]
  have F1b1 : w1.frozen? ⟨w.heap.size + 1, 1, none⟩ = false := by rw [ff _ _ (by first | omega | (simp; omega) | simp)]; simp [go_sem, *]
  clear fc ff
  have X1 : Ext w w1 := Ext.trans (by repeat (first | (with_reducible exact Ext.refl _) | (with_reducible assumption) | (with_reducible refine Ext.alloc ?_ _) | (with_reducible refine Ext.drewN ?_ _) | (with_reducible refine Ext.drew ?_) | (with_reducible refine Ext.setCell ?_ (by simp <;> omega) _))) hx
  clear hx 
  have l1a : w.heap.size < w1.heap.size := by omega
  have l1b : w.heap.size + 1 < w1.heap.size := by omega
  go_wp2_with fail
  refine (HS.out _).mono ?_
  rintro e w2 ⟨rfl, hx⟩
  have fs2 : w1.heap.size ≤ w2.heap.size := by simpa using hx.size
  obtain ⟨fc, ff⟩ := And.intro hx.cells hx.marks
  have C2a0 : w2.cell? ⟨w.heap.size, 0, none⟩ = some (Value.int IntKind.i64 an) := by rw [fc _ _ (by first | omega | (simp; omega) | simp)]; simp [go_sem, *]
  have F2a0 : w2.frozen? ⟨w.heap.size, 0, none⟩ = false := by rw [ff _ _ (by first | omega | (simp; omega) | simp)]; simp [go_sem, *]
  have C2a1 : w2.cell? ⟨w.heap.size, 1, none⟩ = some (Value.int IntKind.i64 ad) := by rw [fc _ _ (by first | omega | (simp; omega) | simp)]; simp [go_sem, *]
  have F2a1 : w2.frozen? ⟨w.heap.size, 1, none⟩ = false := by rw [ff _ _ (by first | omega | (simp; omega) | simp)]; simp [go_sem, *]
  have C2b0 : w2.cell? ⟨w.heap.size + 1, 0, none⟩ = some (Value.int IntKind.i64 bn) := by rw [fc _ _ (by first | omega | (simp; omega) | simp)]; simp [go_sem, *]
  have F2b0 : w2.frozen? ⟨w.heap.size + 1, 0, none⟩ = false := by rw [ff _ _ (by first | omega | (simp; omega) | simp)]; simp [go_sem, *]
  have C2b1 : w2.cell? ⟨w.heap.size + 1, 1, none⟩ = some (Value.int IntKind.i64 bd) := by rw [fc _ _ (by first | omega | (simp; omega) | simp)]; simp [go_sem, *]
  have F2b1 : w2.frozen? ⟨w.heap.size + 1, 1, none⟩ = false := by rw [ff _ _ (by first | omega | (simp; omega) | simp)]; simp [go_sem, *]
  clear fc ff
  have X2 : Ext w w2 := Ext.trans (by repeat (first | (with_reducible exact Ext.refl _) | (with_reducible assumption) | (with_reducible refine Ext.alloc ?_ _) | (with_reducible refine Ext.drewN ?_ _) | (with_reducible refine Ext.drew ?_) | (with_reducible refine Ext.setCell ?_ (by simp <;> omega) _))) hx
  clear hx X1 C1a0 F1a0 C1a1 F1a1 C1b0 F1b0 C1b1 F1b1
  have l2a : w.heap.size < w2.heap.size := by omega
  have l2b : w.heap.size + 1 < w2.heap.size := by omega
  go_wp2_with fail
  refine (HD.out _).mono ?_
  rintro e w3 ⟨rfl, hx⟩
  have fs3 : w2.heap.size + 1 ≤ w3.heap.size := by simpa using hx.size
  obtain ⟨fc, ff⟩ := And.intro hx.cells hx.marks
  have C3a0 : w3.cell? ⟨w.heap.size, 0, none⟩ = some (Value.int IntKind.i64 an) := by rw [fc _ _ (by first | omega | (simp; omega) | simp)]; simp [go_sem, *]
  have F3a0 : w3.frozen? ⟨w.heap.size, 0, none⟩ = false := by rw [ff _ _ (by first | omega | (simp; omega) | simp)]; simp [go_sem, *]
  have C3a1 : w3.cell? ⟨w.heap.size, 1, none⟩ = some (Value.int IntKind.i64 ad) := by rw [fc _ _ (by first | omega | (simp; omega) | simp)]; simp [go_sem, *]
  have F3a1 : w3.frozen? ⟨w.heap.size, 1, none⟩ = false := by rw [ff _ _ (by first | omega | (simp; omega) | simp)]; simp [go_sem, *]
  have C3b0 : w3.cell? ⟨w.heap.size + 1, 0, none⟩ = some (Value.int IntKind.i64 bn) := by rw [fc _ _ (by first | omega | (simp; omega) | simp)]; simp [go_sem, *]
  have F3b0 : w3.frozen? ⟨w.heap.size + 1, 0, none⟩ = false := by rw [ff _ _ (by first | omega | (simp; omega) | simp)]; simp [go_sem, *]
  have C3b1 : w3.cell? ⟨w.heap.size + 1, 1, none⟩ = some (Value.int IntKind.i64 bd) := by rw [fc _ _ (by first | omega | (simp; omega) | simp)]; simp [go_sem, *]
  have F3b1 : w3.frozen? ⟨w.heap.size + 1, 1, none⟩ = false := by rw [ff _ _ (by first | omega | (simp; omega) | simp)]; simp [go_sem, *]
  have C3s0 : w3.cell? ⟨w2.heap.size, 0, none⟩ = some (Value.int IntKind.i64 0) := by rw [fc _ _ (by first | omega | (simp; omega) | simp)]; simp [go_sem, *]
  have F3s0 : w3.frozen? ⟨w2.heap.size, 0, none⟩ = false := by rw [ff _ _ (by first | omega | (simp; omega) | simp)]; simp [go_sem, *]
  have C3s1 : w3.cell? ⟨w2.heap.size, 1, none⟩ = some (Value.int IntKind.i64 0) := by rw [fc _ _ (by first | omega | (simp; omega) | simp)]; simp [go_sem, *]
  have F3s1 : w3.frozen? ⟨w2.heap.size, 1, none⟩ = false := by rw [ff _ _ (by first | omega | (simp; omega) | simp)]; simp [go_sem, *]
  clear fc ff
  have X3 : Ext w w3 := Ext.trans (by repeat (first | (with_reducible exact Ext.refl _) | (with_reducible assumption) | (with_reducible refine Ext.alloc ?_ _) | (with_reducible refine Ext.drewN ?_ _) | (with_reducible refine Ext.drew ?_) | (with_reducible refine Ext.setCell ?_ (by simp <;> omega) _))) hx
  clear hx X2 C2a0 F2a0 C2a1 F2a1 C2b0 F2b0 C2b1 F2b1
  have l3a : w.heap.size < w3.heap.size := by omega
  have l3b : w.heap.size + 1 < w3.heap.size := by omega
  have l3s : w2.heap.size < w3.heap.size := by omega
  go_wp2_with fail
  refine (HVa.out _).mono ?_
  rintro e w4 ⟨rfl, hx⟩
  have fs4 : w3.heap.size + 1 ≤ w4.heap.size := by simpa using hx.size
  obtain ⟨fc, ff⟩ := And.intro hx.cells hx.marks
  have C4a0 : w4.cell? ⟨w.heap.size, 0, none⟩ = some (Value.int IntKind.i64 an) := by rw [fc _ _ (by first | omega | (simp; omega) | simp)]; simp [go_sem, *]
  have F4a0 : w4.frozen? ⟨w.heap.size, 0, none⟩ = false := by rw [ff _ _ (by first | omega | (simp; omega) | simp)]; simp [go_sem, *]
  have C4a1 : w4.cell? ⟨w.heap.size, 1, none⟩ = some (Value.int IntKind.i64 ad) := by rw [fc _ _ (by first | omega | (simp; omega) | simp)]; simp [go_sem, *]
  have F4a1 : w4.frozen? ⟨w.heap.size, 1, none⟩ = false := by rw [ff _ _ (by first | omega | (simp; omega) | simp)]; simp [go_sem, *]
  have C4b0 : w4.cell? ⟨w.heap.size + 1, 0, none⟩ = some (Value.int IntKind.i64 bn) := by rw [fc _ _ (by first | omega | (simp; omega) | simp)]; simp [go_sem, *]
  have F4b0 : w4.frozen? ⟨w.heap.size + 1, 0, none⟩ = false := by rw [ff _ _ (by first | omega | (simp; omega) | simp)]; simp [go_sem, *]
  have C4b1 : w4.cell? ⟨w.heap.size + 1, 1, none⟩ = some (Value.int IntKind.i64 bd) := by rw [fc _ _ (by first | omega | (simp; omega) | simp)]; simp [go_sem, *]
  have F4b1 : w4.frozen? ⟨w.heap.size + 1, 1, none⟩ = false := by rw [ff _ _ (by first | omega | (simp; omega) | simp)]; simp [go_sem, *]
  have C4s0 : w4.cell? ⟨w2.heap.size, 0, none⟩ = some (Value.int IntKind.i64 0) := by rw [fc _ _ (by first | omega | (simp; omega) | simp)]; simp [go_sem, *]
  have F4s0 : w4.frozen? ⟨w2.heap.size, 0, none⟩ = false := by rw [ff _ _ (by first | omega | (simp; omega) | simp)]; simp [go_sem, *]
  have C4s1 : w4.cell? ⟨w2.heap.size, 1, none⟩ = some (Value.int IntKind.i64 0) := by rw [fc _ _ (by first | omega | (simp; omega) | simp)]; simp [go_sem, *]
  have F4s1 : w4.frozen? ⟨w2.heap.size, 1, none⟩ = false := by rw [ff _ _ (by first | omega | (simp; omega) | simp)]; simp [go_sem, *]
  have C4d0 : w4.cell? ⟨w3.heap.size, 0, none⟩ = some (Value.int IntKind.i64 0) := by rw [fc _ _ (by first | omega | (simp; omega) | simp)]; simp [go_sem, *]
  have F4d0 : w4.frozen? ⟨w3.heap.size, 0, none⟩ = false := by rw [ff _ _ (by first | omega | (simp; omega) | simp)]; simp [go_sem, *]
  have C4d1 : w4.cell? ⟨w3.heap.size, 1, none⟩ = some (Value.int IntKind.i64 0) := by rw [fc _ _ (by first | omega | (simp; omega) | simp)]; simp [go_sem, *]
  have F4d1 : w4.frozen? ⟨w3.heap.size, 1, none⟩ = false := by rw [ff _ _ (by first | omega | (simp; omega) | simp)]; simp [go_sem, *]
  clear fc ff
  have X4 : Ext w w4 := Ext.trans (by repeat (first | (with_reducible exact Ext.refl _) | (with_reducible assumption) | (with_reducible refine Ext.alloc ?_ _) | (with_reducible refine Ext.drewN ?_ _) | (with_reducible refine Ext.drew ?_) | (with_reducible refine Ext.setCell ?_ (by simp <;> omega) _))) hx
  clear hx X3 C3a0 F3a0 C3a1 F3a1 C3b0 F3b0 C3b1 F3b1 C3s0 F3s0 C3s1 F3s1
  have l4a : w.heap.size < w4.heap.size := by omega
  have l4b : w.heap.size + 1 < w4.heap.size := by omega
  have l4s : w2.heap.size < w4.heap.size := by omega
  have l4d : w3.heap.size < w4.heap.size := by omega
  go_wp2_with fail
  go_ret
  exact ⟨rfl, (by repeat (first | (with_reducible exact Ext.refl _) | (with_reducible assumption) | (with_reducible refine Ext.alloc ?_ _) | (with_reducible refine Ext.drewN ?_ _) | (with_reducible refine Ext.drew ?_) | (with_reducible refine Ext.setCell ?_ (by simp <;> omega) _)))⟩
set_option maxRecDepth 100000 in
set_option maxHeartbeats 10000000 in
theorem adds_bad2 (an ad bn bd : Int) (w : World) (G : Globs w) (hS : ∀ W : World, Calls Tryd.prog 23 #[.agg #[.int .i64 an, .int .i64 ad], .agg #[.int .i64 bn, .int .i64 bd]] W fun e w' => e = .returned (.tuple #[.agg #[.int .i64 0, .int .i64 0], .int .i64 1]) ∧ Ext W w') (hD : ∀ W : World, Calls Tryd.prog 24 #[.agg #[.int .i64 an, .int .i64 ad], .agg #[.int .i64 bn, .int .i64 bd]] W fun e w' => e = .returned (.tuple #[.agg #[.int .i64 0, .int .i64 0], .int .i64 1]) ∧ Ext W w') (hVa : ∀ W : World, Calls Tryd.prog 18 #[.int .i64 an, .int .i64 ad] W fun e w' => e = .returned (.bool true) ∧ Ext W w') (hVb : ∀ W : World, Calls Tryd.prog 18 #[.int .i64 bn, .int .i64 bd] W fun e w' => e = .returned (.bool false) ∧ Ext W w') :
    Calls Tryd.prog 7 #[.agg #[.int .i64 an, .int .i64 ad], .agg #[.int .i64 bn, .int .i64 bd]] w fun e w' => e = .returned (.bool true) ∧ Ext w w' := by
  have HA := Lib.hid (fun W (G : Globs W) => awake_any W G)
  have HG := Lib.hid G
  have HS := Lib.hid hS
  have HD := Lib.hid hD
  have HVa := Lib.hid hVa
  have HVb := Lib.hid hVb
  clear G hS hD hVa hVb
  have X0 : Ext w w := Ext.refl w
  go_enter Tryd.func7, Tryd.ntmps7
  go_wp2_with fail
  refine (HA.out _ (HG.out.ext (by repeat (first | (with_reducible exact Ext.refl _) | (with_reducible assumption) | (with_reducible refine Ext.alloc ?_ _) | (with_reducible refine Ext.drewN ?_ _) | (with_reducible refine Ext.drew ?_) | (with_reducible refine Ext.setCell ?_ (by simp <;> omega) _))))).mono ?_
  rintro e w1 ⟨rfl, hx⟩
  have fs1 : w.heap.size + 1 + 1 ≤ w1.heap.size := by simpa using hx.size
  obtain ⟨fc, ff⟩ := And.intro hx.cells hx.marks
  have C1a0 : w1.cell? ⟨w.heap.size, 0, none⟩ = some (Value.int IntKind.i64 an) := by rw [fc _ _ (by first | omega | (simp; omega) | simp)]; simp [go_sem, *]
  have F1a0 : w1.frozen? ⟨w.heap.size, 0, none⟩ = false := by rw [ff _ _ (by first | omega | (simp; omega) | simp)]; simp [go_sem, *]
  have C1a1 : w1.cell? ⟨w.heap.size, 1, none⟩ = some (Value.int IntKind.i64 ad) := by rw [fc _ _ (by first | omega | (simp; omega) | simp)]; simp [go_sem, *]
  have F1a1 : w1.frozen? ⟨w.heap.size, 1, none⟩ = false := by rw [ff _ _ (by first | omega | (simp; omega) | simp)]; simp [go_sem, *]
  have C1b0 : w1.cell? ⟨w.heap.size + 1, 0, none⟩ = some (Value.int IntKind.i64 bn) := by rw [fc _ _ (by first | omega | (simp; omega) | simp)]; simp [go_sem, *]
  have F1b0 : w1.frozen? ⟨w.heap.size + 1, 0, none⟩ = false := by rw [ff _ _ (by first | omega | (simp; omega) | simp)]; simp [go_sem, *]
  have C1b1 : w1.cell? ⟨w.heap.size + 1, 1, none⟩ = some (Value.int IntKind.i64 bd) := by rw [fc _ _ (by first | omega | (simp; omega) | simp)]; simp [go_sem, *]
  have F1b1 : w1.frozen? ⟨w.heap.size + 1, 1, none⟩ = false := by rw [ff _ _ (by first | omega | (simp; omega) | simp)]; simp [go_sem, *]
  clear fc ff
  have X1 : Ext w w1 := Ext.trans (by repeat (first | (with_reducible exact Ext.refl _) | (with_reducible assumption) | (with_reducible refine Ext.alloc ?_ _) | (with_reducible refine Ext.drewN ?_ _) | (with_reducible refine Ext.drew ?_) | (with_reducible refine Ext.setCell ?_ (by simp <;> omega) _))) hx
  clear hx 
  have l1a : w.heap.size < w1.heap.size := by omega
  have l1b : w.heap.size + 1 < w1.heap.size := by omega
  go_wp2_with fail
  refine (HS.out _).mono ?_
  rintro e w2 ⟨rfl, hx⟩
  have fs2 : w1.heap.size ≤ w2.heap.size := by simpa using hx.size
  obtain ⟨fc, ff⟩ := And.intro hx.cells hx.marks
  have C2a0 : w2.cell? ⟨w.heap.size, 0, none⟩ = some (Value.int IntKind.i64 an) := by rw [fc _ _ (by first | omega | (simp; omega) | simp)]; simp [go_sem, *]
  have F2a0 : w2.frozen? ⟨w.heap.size, 0, none⟩ = false := by rw [ff _ _ (by first | omega | (simp; omega) | simp)]; simp [go_sem, *]
  have C2a1 : w2.cell? ⟨w.heap.size, 1, none⟩ = some (Value.int IntKind.i64 ad) := by rw [fc _ _ (by first | omega | (simp; omega) | simp)]; simp [go_sem, *]
  have F2a1 : w2.frozen? ⟨w.heap.size, 1, none⟩ = false := by rw [ff _ _ (by first | omega | (simp; omega) | simp)]; simp [go_sem, *]
  have C2b0 : w2.cell? ⟨w.heap.size + 1, 0, none⟩ = some (Value.int IntKind.i64 bn) := by rw [fc _ _ (by first | omega | (simp; omega) | simp)]; simp [go_sem, *]
  have F2b0 : w2.frozen? ⟨w.heap.size + 1, 0, none⟩ = false := by rw [ff _ _ (by first | omega | (simp; omega) | simp)]; simp [go_sem, *]
  have C2b1 : w2.cell? ⟨w.heap.size + 1, 1, none⟩ = some (Value.int IntKind.i64 bd) := by rw [fc _ _ (by first | omega | (simp; omega) | simp)]; simp [go_sem, *]
  have F2b1 : w2.frozen? ⟨w.heap.size + 1, 1, none⟩ = false := by rw [ff _ _ (by first | omega | (simp; omega) | simp)]; simp [go_sem, *]
  clear fc ff
  have X2 : Ext w w2 := Ext.trans (by repeat (first | (with_reducible exact Ext.refl _) | (with_reducible assumption) | (with_reducible refine Ext.alloc ?_ _) | (with_reducible refine Ext.drewN ?_ _) | (with_reducible refine Ext.drew ?_) | (with_reducible refine Ext.setCell ?_ (by simp <;> omega) _))) hx
  clear hx X1 C1a0 F1a0 C1a1 F1a1 C1b0 F1b0 C1b1 F1b1
  have l2a : w.heap.size < w2.heap.size := by omega
  have l2b : w.heap.size + 1 < w2.heap.size := by omega
  go_wp2_with fail
  refine (HD.out _).mono ?_
  rintro e w3 ⟨rfl, hx⟩
  have fs3 : w2.heap.size + 1 ≤ w3.heap.size := by simpa using hx.size
  obtain ⟨fc, ff⟩ := And.intro hx.cells hx.marks
  have C3a0 : w3.cell? ⟨w.heap.size, 0, none⟩ = some (Value.int IntKind.i64 an) := by rw [fc _ _ (by first | omega | (simp; omega) | simp)]; simp [go_sem, *]
  have F3a0 : w3.frozen? ⟨w.heap.size, 0, none⟩ = false := by rw [ff _ _ (by first | omega | (simp; omega) | simp)]; simp [go_sem, *]
  have C3a1 : w3.cell? ⟨w.heap.size, 1, none⟩ = some (Value.int IntKind.i64 ad) := by rw [fc _ _ (by first | omega | (simp; omega) | simp)]; simp [go_sem, *]
  have F3a1 : w3.frozen? ⟨w.heap.size, 1, none⟩ = false := by rw [ff _ _ (by first | omega | (simp; omega) | simp)]; simp [go_sem, *]
  have C3b0 : w3.cell? ⟨w.heap.size + 1, 0, none⟩ = some (Value.int IntKind.i64 bn) := by rw [fc _ _ (by first | omega | (simp; omega) | simp)]; simp [go_sem, *]
  have F3b0 : w3.frozen? ⟨w.heap.size + 1, 0, none⟩ = false := by rw [ff _ _ (by first | omega | (simp; omega) | simp)]; simp [go_sem, *]
  have C3b1 : w3.cell? ⟨w.heap.size + 1, 1, none⟩ = some (Value.int IntKind.i64 bd) := by rw [fc _ _ (by first | omega | (simp; omega) | simp)]; simp [go_sem, *]
  have F3b1 : w3.frozen? ⟨w.heap.size + 1, 1, none⟩ = false := by rw [ff _ _ (by first | omega | (simp; omega) | simp)]; simp [go_sem, *]
  have C3s0 : w3.cell? ⟨w2.heap.size, 0, none⟩ = some (Value.int IntKind.i64 0) := by rw [fc _ _ (by first | omega | (simp; omega) | simp)]; simp [go_sem, *]
  have F3s0 : w3.frozen? ⟨w2.heap.size, 0, none⟩ = false := by rw [ff _ _ (by first | omega | (simp; omega) | simp)]; simp [go_sem, *]
  have C3s1 : w3.cell? ⟨w2.heap.size, 1, none⟩ = some (Value.int IntKind.i64 0) := by rw [fc _ _ (by first | omega | (simp; omega) | simp)]; simp [go_sem, *]
  have F3s1 : w3.frozen? ⟨w2.heap.size, 1, none⟩ = false := by rw [ff _ _ (by first | omega | (simp; omega) | simp)]; simp [go_sem, *]
  clear fc ff
  have X3 : Ext w w3 := Ext.trans (by repeat (first | (with_reducible exact Ext.refl _) | (with_reducible assumption) | (with_reducible refine Ext.alloc ?_ _) | (with_reducible refine Ext.drewN ?_ _) | (with_reducible refine Ext.drew ?_) | (with_reducible refine Ext.setCell ?_ (by simp <;> omega) _))) hx
  clear hx X2 C2a0 F2a0 C2a1 F2a1 C2b0 F2b0 C2b1 F2b1
  have l3a : w.heap.size < w3.heap.size := by omega
  have l3b : w.heap.size + 1 < w3.heap.size := by omega
  have l3s : w2.heap.size < w3.heap.size := by omega
  go_wp2_with fail
  refine (HVa.out _).mono ?_
  rintro e w4 ⟨rfl, hx⟩
  have fs4 : w3.heap.size + 1 ≤ w4.heap.size := by simpa using hx.size
  obtain ⟨fc, ff⟩ := And.intro hx.cells hx.marks
  have C4a0 : w4.cell? ⟨w.heap.size, 0, none⟩ = some (Value.int IntKind.i64 an) := by rw [fc _ _ (by first | omega | (simp; omega) | simp)]; simp [go_sem, *]
  have F4a0 : w4.frozen? ⟨w.heap.size, 0, none⟩ = false := by rw [ff _ _ (by first | omega | (simp; omega) | simp)]; simp [go_sem, *]
  have C4a1 : w4.cell? ⟨w.heap.size, 1, none⟩ = some (Value.int IntKind.i64 ad) := by rw [fc _ _ (by first | omega | (simp; omega) | simp)]; simp [go_sem, *]
  have F4a1 : w4.frozen? ⟨w.heap.size, 1, none⟩ = false := by rw [ff _ _ (by first | omega | (simp; omega) | simp)]; simp [go_sem, *]
  have C4b0 : w4.cell? ⟨w.heap.size + 1, 0, none⟩ = some (Value.int IntKind.i64 bn) := by rw [fc _ _ (by first | omega | (simp; omega) | simp)]; simp [go_sem, *]
  have F4b0 : w4.frozen? ⟨w.heap.size + 1, 0, none⟩ = false := by rw [ff _ _ (by first | omega | (simp; omega) | simp)]; simp [go_sem, *]
  have C4b1 : w4.cell? ⟨w.heap.size + 1, 1, none⟩ = some (Value.int IntKind.i64 bd) := by rw [fc _ _ (by first | omega | (simp; omega) | simp)]; simp [go_sem, *]
  have F4b1 : w4.frozen? ⟨w.heap.size + 1, 1, none⟩ = false := by rw [ff _ _ (by first | omega | (simp; omega) | simp)]; simp [go_sem, *]
  have C4s0 : w4.cell? ⟨w2.heap.size, 0, none⟩ = some (Value.int IntKind.i64 0) := by rw [fc _ _ (by first | omega | (simp; omega) | simp)]; simp [go_sem, *]
  have F4s0 : w4.frozen? ⟨w2.heap.size, 0, none⟩ = false := by rw [ff _ _ (by first | omega | (simp; omega) | simp)]; simp [go_sem, *]
  have C4s1 : w4.cell? ⟨w2.heap.size, 1, none⟩ = some (Value.int IntKind.i64 0) := by rw [fc _ _ (by first | omega | (simp; omega) | simp)]; simp [go_sem, *]
  have F4s1 : w4.frozen? ⟨w2.heap.size, 1, none⟩ = false := by rw [ff _ _ (by first | omega | (simp; omega) | simp)]; simp [go_sem, *]
  have C4d0 : w4.cell? ⟨w3.heap.size, 0, none⟩ = some (Value.int IntKind.i64 0) := by rw [fc _ _ (by first | omega | (simp; omega) | simp)]; simp [go_sem, *]
  have F4d0 : w4.frozen? ⟨w3.heap.size, 0, none⟩ = false := by rw [ff _ _ (by first | omega | (simp; omega) | simp)]; simp [go_sem, *]
  have C4d1 : w4.cell? ⟨w3.heap.size, 1, none⟩ = some (Value.int IntKind.i64 0) := by rw [fc _ _ (by first | omega | (simp; omega) | simp)]; simp [go_sem, *]
  have F4d1 : w4.frozen? ⟨w3.heap.size, 1, none⟩ = false := by rw [ff _ _ (by first | omega | (simp; omega) | simp)]; simp [go_sem, *]
  clear fc ff
  have X4 : Ext w w4 := Ext.trans (by repeat (first | (with_reducible exact Ext.refl _) | (with_reducible assumption) | (with_reducible refine Ext.alloc ?_ _) | (with_reducible refine Ext.drewN ?_ _) | (with_reducible refine Ext.drew ?_) | (with_reducible refine Ext.setCell ?_ (by simp <;> omega) _))) hx
  clear hx X3 C3a0 F3a0 C3a1 F3a1 C3b0 F3b0 C3b1 F3b1 C3s0 F3s0 C3s1 F3s1
  have l4a : w.heap.size < w4.heap.size := by omega
  have l4b : w.heap.size + 1 < w4.heap.size := by omega
  have l4s : w2.heap.size < w4.heap.size := by omega
  have l4d : w3.heap.size < w4.heap.size := by omega
  go_wp2_with fail
  refine (HVb.out _).mono ?_
  rintro e w5 ⟨rfl, hx⟩
  have fs5 : w4.heap.size ≤ w5.heap.size := by simpa using hx.size
  obtain ⟨fc, ff⟩ := And.intro hx.cells hx.marks
  have C5a0 : w5.cell? ⟨w.heap.size, 0, none⟩ = some (Value.int IntKind.i64 an) := by rw [fc _ _ (by first | omega | (simp; omega) | simp)]; simp [go_sem, *]
  have F5a0 : w5.frozen? ⟨w.heap.size, 0, none⟩ = false := by rw [ff _ _ (by first | omega | (simp; omega) | simp)]; simp [go_sem, *]
  have C5a1 : w5.cell? ⟨w.heap.size, 1, none⟩ = some (Value.int IntKind.i64 ad) := by rw [fc _ _ (by first | omega | (simp; omega) | simp)]; simp [go_sem, *]
  have F5a1 : w5.frozen? ⟨w.heap.size, 1, none⟩ = false := by rw [ff _ _ (by first | omega | (simp; omega) | simp)]; simp [go_sem, *]
  have C5b0 : w5.cell? ⟨w.heap.size + 1, 0, none⟩ = some (Value.int IntKind.i64 bn) := by rw [fc _ _ (by first | omega | (simp; omega) | simp)]; simp [go_sem, *]
  have F5b0 : w5.frozen? ⟨w.heap.size + 1, 0, none⟩ = false := by rw [ff _ _ (by first | omega | (simp; omega) | simp)]; simp [go_sem, *]
  have C5b1 : w5.cell? ⟨w.heap.size + 1, 1, none⟩ = some (Value.int IntKind.i64 bd) := by rw [fc _ _ (by first | omega | (simp; omega) | simp)]; simp [go_sem, *]
  have F5b1 : w5.frozen? ⟨w.heap.size + 1, 1, none⟩ = false := by rw [ff _ _ (by first | omega | (simp; omega) | simp)]; simp [go_sem, *]
  have C5s0 : w5.cell? ⟨w2.heap.size, 0, none⟩ = some (Value.int IntKind.i64 0) := by rw [fc _ _ (by first | omega | (simp; omega) | simp)]; simp [go_sem, *]
  have F5s0 : w5.frozen? ⟨w2.heap.size, 0, none⟩ = false := by rw [ff _ _ (by first | omega | (simp; omega) | simp)]; simp [go_sem, *]
  have C5s1 : w5.cell? ⟨w2.heap.size, 1, none⟩ = some (Value.int IntKind.i64 0) := by rw [fc _ _ (by first | omega | (simp; omega) | simp)]; simp [go_sem, *]
  have F5s1 : w5.frozen? ⟨w2.heap.size, 1, none⟩ = false := by rw [ff _ _ (by first | omega | (simp; omega) | simp)]; simp [go_sem, *]
  have C5d0 : w5.cell? ⟨w3.heap.size, 0, none⟩ = some (Value.int IntKind.i64 0) := by rw [fc _ _ (by first | omega | (simp; omega) | simp)]; simp [go_sem, *]
  have F5d0 : w5.frozen? ⟨w3.heap.size, 0, none⟩ = false := by rw [ff _ _ (by first | omega | (simp; omega) | simp)]; simp [go_sem, *]
  have C5d1 : w5.cell? ⟨w3.heap.size, 1, none⟩ = some (Value.int IntKind.i64 0) := by rw [fc _ _ (by first | omega | (simp; omega) | simp)]; simp [go_sem, *]
  have F5d1 : w5.frozen? ⟨w3.heap.size, 1, none⟩ = false := by rw [ff _ _ (by first | omega | (simp; omega) | simp)]; simp [go_sem, *]
  clear fc ff
  have X5 : Ext w w5 := Ext.trans (by repeat (first | (with_reducible exact Ext.refl _) | (with_reducible assumption) | (with_reducible refine Ext.alloc ?_ _) | (with_reducible refine Ext.drewN ?_ _) | (with_reducible refine Ext.drew ?_) | (with_reducible refine Ext.setCell ?_ (by simp <;> omega) _))) hx
  clear hx X4 C4a0 F4a0 C4a1 F4a1 C4b0 F4b0 C4b1 F4b1 C4s0 F4s0 C4s1 F4s1 C4d0 F4d0 C4d1 F4d1
  have l5a : w.heap.size < w5.heap.size := by omega
  have l5b : w.heap.size + 1 < w5.heap.size := by omega
  have l5s : w2.heap.size < w5.heap.size := by omega
  have l5d : w3.heap.size < w5.heap.size := by omega
  go_wp2_with fail
  go_ret
  exact ⟨rfl, (by repeat (first | (with_reducible exact Ext.refl _) | (with_reducible assumption) | (with_reducible refine Ext.alloc ?_ _) | (with_reducible refine Ext.drewN ?_ _) | (with_reducible refine Ext.drew ?_) | (with_reducible refine Ext.setCell ?_ (by simp <;> omega) _)))⟩
set_option maxRecDepth 100000 in
set_option maxHeartbeats 10000000 in
theorem adds_walk (an ad bn bd x1 x2 y1 y2 p q r t u v : Int) (s1 s2 s3 s4 s5 s6 s7 s8 s9 : Bool) (h1 l1 h2 l2 h3 l3 h4 l4 h5 l5 h6 l6 h7 l7 h8 l8 h9 l9 : Int) (w : World) (G : Globs w) (hS : ∀ W : World, Calls Tryd.prog 23 #[.agg #[.int .i64 an, .int .i64 ad], .agg #[.int .i64 bn, .int .i64 bd]] W fun e w' => e = .returned (.tuple #[.agg #[.int .i64 p, .int .i64 q], .int .i64 r]) ∧ Ext W w') (hD : ∀ W : World, Calls Tryd.prog 24 #[.agg #[.int .i64 an, .int .i64 ad], .agg #[.int .i64 bn, .int .i64 bd]] W fun e w' => e = .returned (.tuple #[.agg #[.int .i64 t, .int .i64 u], .int .i64 v]) ∧ Ext W w') (hVa : ∀ W : World, Calls Tryd.prog 18 #[.int .i64 an, .int .i64 ad] W fun e w' => e = .returned (.bool true) ∧ Ext W w') (hVb : ∀ W : World, Calls Tryd.prog 18 #[.int .i64 bn, .int .i64 bd] W fun e w' => e = .returned (.bool true) ∧ Ext W w') (hPa : ∀ W : World, Calls Tryd.prog 22 #[.agg #[.int .i64 an, .int .i64 ad]] W fun e w' => e = .returned (.agg #[.int .i64 x1, .int .i64 x2]) ∧ Ext W w') (hPb : ∀ W : World, Calls Tryd.prog 22 #[.agg #[.int .i64 bn, .int .i64 bd]] W fun e w' => e = .returned (.agg #[.int .i64 y1, .int .i64 y2]) ∧ Ext W w') (hO1 : ∀ W : World, Calls Tryd.prog 16 #[.int .i64 x1] W fun e w' => e = .returned (.agg #[.bool s1, .int .u64 h1, .int .u64 l1]) ∧ Ext W w') (hO2 : ∀ W : World, Calls Tryd.prog 16 #[.int .i64 y2] W fun e w' => e = .returned (.agg #[.bool s2, .int .u64 h2, .int .u64 l2]) ∧ Ext W w') (hO3 : ∀ W : World, Calls Tryd.prog 16 #[.int .i64 y1] W fun e w' => e = .returned (.agg #[.bool s3, .int .u64 h3, .int .u64 l3]) ∧ Ext W w') (hO4 : ∀ W : World, Calls Tryd.prog 16 #[.int .i64 x2] W fun e w' => e = .returned (.agg #[.bool s4, .int .u64 h4, .int .u64 l4]) ∧ Ext W w') (hM1 : ∀ W : World, Calls Tryd.prog 25 #[.agg #[.bool s1, .int .u64 h1, .int .u64 l1], .agg #[.bool s2, .int .u64 h2, .int .u64 l2]] W fun e w' => e = .returned (.agg #[.bool s5, .int .u64 h5, .int .u64 l5]) ∧ Ext W w') (hM2 : ∀ W : World, Calls Tryd.prog 25 #[.agg #[.bool s3, .int .u64 h3, .int .u64 l3], .agg #[.bool s4, .int .u64 h4, .int .u64 l4]] W fun e w' => e = .returned (.agg #[.bool s6, .int .u64 h6, .int .u64 l6]) ∧ Ext W w') (hM3 : ∀ W : World, Calls Tryd.prog 25 #[.agg #[.bool s4, .int .u64 h4, .int .u64 l4], .agg #[.bool s2, .int .u64 h2, .int .u64 l2]] W fun e w' => e = .returned (.agg #[.bool s7, .int .u64 h7, .int .u64 l7]) ∧ Ext W w') (hA1 : ∀ W : World, Calls Tryd.prog 26 #[.agg #[.bool s5, .int .u64 h5, .int .u64 l5], .agg #[.bool s6, .int .u64 h6, .int .u64 l6]] W fun e w' => e = .returned (.agg #[.bool s8, .int .u64 h8, .int .u64 l8]) ∧ Ext W w') (hA2 : ∀ W : World, Calls Tryd.prog 26 #[.agg #[.bool s5, .int .u64 h5, .int .u64 l5], .agg #[.bool (!s6), .int .u64 h6, .int .u64 l6]] W fun e w' => e = .returned (.agg #[.bool s9, .int .u64 h9, .int .u64 l9]) ∧ Ext W w') (hI1 : ∀ W : World, Calls Tryd.prog 15 #[.agg #[.int .i64 p, .int .i64 q], .int .i64 r, .agg #[.bool s8, .int .u64 h8, .int .u64 l8], .agg #[.bool s7, .int .u64 h7, .int .u64 l7]] W fun e w' => e = .returned (.bool true) ∧ Ext W w') (hI2 : ∀ W : World, Calls Tryd.prog 15 #[.agg #[.int .i64 t, .int .i64 u], .int .i64 v, .agg #[.bool s9, .int .u64 h9, .int .u64 l9], .agg #[.bool s7, .int .u64 h7, .int .u64 l7]] W fun e w' => e = .returned (.bool true) ∧ Ext W w') :
    Calls Tryd.prog 7 #[.agg #[.int .i64 an, .int .i64 ad], .agg #[.int .i64 bn, .int .i64 bd]] w fun e w' => e = .returned (.bool true) ∧ Ext w w' := by
  have HA := Lib.hid (fun W (G : Globs W) => awake_any W G)
  have HG := Lib.hid G
  have HS := Lib.hid hS
  have HD := Lib.hid hD
  have HVa := Lib.hid hVa
  have HVb := Lib.hid hVb
  have HPa := Lib.hid hPa
  have HPb := Lib.hid hPb
  have HO1 := Lib.hid hO1
  have HO2 := Lib.hid hO2
  have HO3 := Lib.hid hO3
  have HO4 := Lib.hid hO4
  have HM1 := Lib.hid hM1
  have HM2 := Lib.hid hM2
  have HM3 := Lib.hid hM3
  have HA1 := Lib.hid hA1
  have HA2 := Lib.hid hA2
  have HI1 := Lib.hid hI1
  have HI2 := Lib.hid hI2
  clear G hS hD hVa hVb hPa hPb hO1 hO2 hO3 hO4 hM1 hM2 hM3 hA1 hA2 hI1 hI2
  have X0 : Ext w w := Ext.refl w
  go_enter Tryd.func7, Tryd.ntmps7
  go_wp2_with fail
  refine (HA.out _ (HG.out.ext (by repeat (first | (with_reducible exact Ext.refl _) | (with_reducible assumption) | (with_reducible refine Ext.alloc ?_ _) | (with_reducible refine Ext.drewN ?_ _) | (with_reducible refine Ext.drew ?_) | (with_reducible refine Ext.setCell ?_ (by simp <;> omega) _))))).mono ?_
  rintro e w1 ⟨rfl, hx⟩
  have fs1 : w.heap.size + 1 + 1 ≤ w1.heap.size := by simpa using hx.size
  obtain ⟨fc, ff⟩ := And.intro hx.cells hx.marks
  have C1a0 : w1.cell? ⟨w.heap.size, 0, none⟩ = some (Value.int IntKind.i64 an) := by rw [fc _ _ (by first | omega | (simp; omega) | simp)]; simp [go_sem, *]
  have F1a0 : w1.frozen? ⟨w.heap.size, 0, none⟩ = false := by rw [ff _ _ (by first | omega | (simp; omega) | simp)]; simp [go_sem, *]
  have C1a1 : w1.cell? ⟨w.heap.size, 1, none⟩ = some (Value.int IntKind.i64 ad) := by rw [fc _ _ (by first | omega | (simp; omega) | simp)]; simp [go_sem, *]
  have F1a1 : w1.frozen? ⟨w.heap.size, 1, none⟩ = false := by rw [ff _ _ (by first | omega | (simp; omega) | simp)]; simp [go_sem, *]
  have C1b0 : w1.cell? ⟨w.heap.size + 1, 0, none⟩ = some (Value.int IntKind.i64 bn) := by rw [fc _ _ (by first | omega | (simp; omega) | simp)]; simp [go_sem, *]
  have F1b0 : w1.frozen? ⟨w.heap.size + 1, 0, none⟩ = false := by rw [ff _ _ (by first | omega | (simp; omega) | simp)]; simp [go_sem, *]
  have C1b1 : w1.cell? ⟨w.heap.size + 1, 1, none⟩ = some (Value.int IntKind.i64 bd) := by rw [fc _ _ (by first | omega | (simp; omega) | simp)]; simp [go_sem, *]
  have F1b1 : w1.frozen? ⟨w.heap.size + 1, 1, none⟩ = false := by rw [ff _ _ (by first | omega | (simp; omega) | simp)]; simp [go_sem, *]
  clear fc ff
  have X1 : Ext w w1 := Ext.trans (by repeat (first | (with_reducible exact Ext.refl _) | (with_reducible assumption) | (with_reducible refine Ext.alloc ?_ _) | (with_reducible refine Ext.drewN ?_ _) | (with_reducible refine Ext.drew ?_) | (with_reducible refine Ext.setCell ?_ (by simp <;> omega) _))) hx
  clear hx 
  have l1a : w.heap.size < w1.heap.size := by omega
  have l1b : w.heap.size + 1 < w1.heap.size := by omega
  go_wp2_with fail
  refine (HS.out _).mono ?_
  rintro e w2 ⟨rfl, hx⟩
  have fs2 : w1.heap.size ≤ w2.heap.size := by simpa using hx.size
  obtain ⟨fc, ff⟩ := And.intro hx.cells hx.marks
  have C2a0 : w2.cell? ⟨w.heap.size, 0, none⟩ = some (Value.int IntKind.i64 an) := by rw [fc _ _ (by first | omega | (simp; omega) | simp)]; simp [go_sem, *]
  have F2a0 : w2.frozen? ⟨w.heap.size, 0, none⟩ = false := by rw [ff _ _ (by first | omega | (simp; omega) | simp)]; simp [go_sem, *]
  have C2a1 : w2.cell? ⟨w.heap.size, 1, none⟩ = some (Value.int IntKind.i64 ad) := by rw [fc _ _ (by first | omega | (simp; omega) | simp)]; simp [go_sem, *]
  have F2a1 : w2.frozen? ⟨w.heap.size, 1, none⟩ = false := by rw [ff _ _ (by first | omega | (simp; omega) | simp)]; simp [go_sem, *]
  have C2b0 : w2.cell? ⟨w.heap.size + 1, 0, none⟩ = some (Value.int IntKind.i64 bn) := by rw [fc _ _ (by first | omega | (simp; omega) | simp)]; simp [go_sem, *]
  have F2b0 : w2.frozen? ⟨w.heap.size + 1, 0, none⟩ = false := by rw [ff _ _ (by first | omega | (simp; omega) | simp)]; simp [go_sem, *]
  have C2b1 : w2.cell? ⟨w.heap.size + 1, 1, none⟩ = some (Value.int IntKind.i64 bd) := by rw [fc _ _ (by first | omega | (simp; omega) | simp)]; simp [go_sem, *]
  have F2b1 : w2.frozen? ⟨w.heap.size + 1, 1, none⟩ = false := by rw [ff _ _ (by first | omega | (simp; omega) | simp)]; simp [go_sem, *]
  clear fc ff
  have X2 : Ext w w2 := Ext.trans (by repeat (first | (with_reducible exact Ext.refl _) | (with_reducible assumption) | (with_reducible refine Ext.alloc ?_ _) | (with_reducible refine Ext.drewN ?_ _) | (with_reducible refine Ext.drew ?_) | (with_reducible refine Ext.setCell ?_ (by simp <;> omega) _))) hx
  clear hx X1 C1a0 F1a0 C1a1 F1a1 C1b0 F1b0 C1b1 F1b1
  have l2a : w.heap.size < w2.heap.size := by omega
  have l2b : w.heap.size + 1 < w2.heap.size := by omega
  go_wp2_with fail
  refine (HD.out _).mono ?_
  rintro e w3 ⟨rfl, hx⟩
  have fs3 : w2.heap.size + 1 ≤ w3.heap.size := by simpa using hx.size
  obtain ⟨fc, ff⟩ := And.intro hx.cells hx.marks
  have C3a0 : w3.cell? ⟨w.heap.size, 0, none⟩ = some (Value.int IntKind.i64 an) := by rw [fc _ _ (by first | omega | (simp; omega) | simp)]; simp [go_sem, *]
  have F3a0 : w3.frozen? ⟨w.heap.size, 0, none⟩ = false := by rw [ff _ _ (by first | omega | (simp; omega) | simp)]; simp [go_sem, *]
  have C3a1 : w3.cell? ⟨w.heap.size, 1, none⟩ = some (Value.int IntKind.i64 ad) := by rw [fc _ _ (by first | omega | (simp; omega) | simp)]; simp [go_sem, *]
  have F3a1 : w3.frozen? ⟨w.heap.size, 1, none⟩ = false := by rw [ff _ _ (by first | omega | (simp; omega) | simp)]; simp [go_sem, *]
  have C3b0 : w3.cell? ⟨w.heap.size + 1, 0, none⟩ = some (Value.int IntKind.i64 bn) := by rw [fc _ _ (by first | omega | (simp; omega) | simp)]; simp [go_sem, *]
  have F3b0 : w3.frozen? ⟨w.heap.size + 1, 0, none⟩ = false := by rw [ff _ _ (by first | omega | (simp; omega) | simp)]; simp [go_sem, *]
  have C3b1 : w3.cell? ⟨w.heap.size + 1, 1, none⟩ = some (Value.int IntKind.i64 bd) := by rw [fc _ _ (by first | omega | (simp; omega) | simp)]; simp [go_sem, *]
  have F3b1 : w3.frozen? ⟨w.heap.size + 1, 1, none⟩ = false := by rw [ff _ _ (by first | omega | (simp; omega) | simp)]; simp [go_sem, *]
  have C3s0 : w3.cell? ⟨w2.heap.size, 0, none⟩ = some (Value.int IntKind.i64 p) := by rw [fc _ _ (by first | omega | (simp; omega) | simp)]; simp [go_sem, *]
  have F3s0 : w3.frozen? ⟨w2.heap.size, 0, none⟩ = false := by rw [ff _ _ (by first | omega | (simp; omega) | simp)]; simp [go_sem, *]
  have C3s1 : w3.cell? ⟨w2.heap.size, 1, none⟩ = some (Value.int IntKind.i64 q) := by rw [fc _ _ (by first | omega | (simp; omega) | simp)]; simp [go_sem, *]
  have F3s1 : w3.frozen? ⟨w2.heap.size, 1, none⟩ = false := by rw [ff _ _ (by first | omega | (simp; omega) | simp)]; simp [go_sem, *]
  clear fc ff
  have X3 : Ext w w3 := Ext.trans (by repeat (first | (with_reducible exact Ext.refl _) | (with_reducible assumption) | (with_reducible refine Ext.alloc ?_ _) | (with_reducible refine Ext.drewN ?_ _) | (with_reducible refine Ext.drew ?_) | (with_reducible refine Ext.setCell ?_ (by simp <;> omega) _))) hx
  clear hx X2 C2a0 F2a0 C2a1 F2a1 C2b0 F2b0 C2b1 F2b1
  have l3a : w.heap.size < w3.heap.size := by omega
  have l3b : w.heap.size + 1 < w3.heap.size := by omega
  have l3s : w2.heap.size < w3.heap.size := by omega
  go_wp2_with fail
  refine (HVa.out _).mono ?_
  rintro e w4 ⟨rfl, hx⟩
  have fs4 : w3.heap.size + 1 ≤ w4.heap.size := by simpa using hx.size
  obtain ⟨fc, ff⟩ := And.intro hx.cells hx.marks
  have C4a0 : w4.cell? ⟨w.heap.size, 0, none⟩ = some (Value.int IntKind.i64 an) := by rw [fc _ _ (by first | omega | (simp; omega) | simp)]; simp [go_sem, *]
  have F4a0 : w4.frozen? ⟨w.heap.size, 0, none⟩ = false := by rw [ff _ _ (by first | omega | (simp; omega) | simp)]; simp [go_sem, *]
  have C4a1 : w4.cell? ⟨w.heap.size, 1, none⟩ = some (Value.int IntKind.i64 ad) := by rw [fc _ _ (by first | omega | (simp; omega) | simp)]; simp [go_sem, *]
  have F4a1 : w4.frozen? ⟨w.heap.size, 1, none⟩ = false := by rw [ff _ _ (by first | omega | (simp; omega) | simp)]; simp [go_sem, *]
  have C4b0 : w4.cell? ⟨w.heap.size + 1, 0, none⟩ = some (Value.int IntKind.i64 bn) := by rw [fc _ _ (by first | omega | (simp; omega) | simp)]; simp [go_sem, *]
  have F4b0 : w4.frozen? ⟨w.heap.size + 1, 0, none⟩ = false := by rw [ff _ _ (by first | omega | (simp; omega) | simp)]; simp [go_sem, *]
  have C4b1 : w4.cell? ⟨w.heap.size + 1, 1, none⟩ = some (Value.int IntKind.i64 bd) := by rw [fc _ _ (by first | omega | (simp; omega) | simp)]; simp [go_sem, *]
  have F4b1 : w4.frozen? ⟨w.heap.size + 1, 1, none⟩ = false := by rw [ff _ _ (by first | omega | (simp; omega) | simp)]; simp [go_sem, *]
  have C4s0 : w4.cell? ⟨w2.heap.size, 0, none⟩ = some (Value.int IntKind.i64 p) := by rw [fc _ _ (by first | omega | (simp; omega) | simp)]; simp [go_sem, *]
  have F4s0 : w4.frozen? ⟨w2.heap.size, 0, none⟩ = false := by rw [ff _ _ (by first | omega | (simp; omega) | simp)]; simp [go_sem, *]
  have C4s1 : w4.cell? ⟨w2.heap.size, 1, none⟩ = some (Value.int IntKind.i64 q) := by rw [fc _ _ (by first | omega | (simp; omega) | simp)]; simp [go_sem, *]
  have F4s1 : w4.frozen? ⟨w2.heap.size, 1, none⟩ = false := by rw [ff _ _ (by first | omega | (simp; omega) | simp)]; simp [go_sem, *]
  have C4d0 : w4.cell? ⟨w3.heap.size, 0, none⟩ = some (Value.int IntKind.i64 t) := by rw [fc _ _ (by first | omega | (simp; omega) | simp)]; simp [go_sem, *]
  have F4d0 : w4.frozen? ⟨w3.heap.size, 0, none⟩ = false := by rw [ff _ _ (by first | omega | (simp; omega) | simp)]; simp [go_sem, *]
  have C4d1 : w4.cell? ⟨w3.heap.size, 1, none⟩ = some (Value.int IntKind.i64 u) := by rw [fc _ _ (by first | omega | (simp; omega) | simp)]; simp [go_sem, *]
  have F4d1 : w4.frozen? ⟨w3.heap.size, 1, none⟩ = false := by rw [ff _ _ (by first | omega | (simp; omega) | simp)]; simp [go_sem, *]
  clear fc ff
  have X4 : Ext w w4 := Ext.trans (by repeat (first | (with_reducible exact Ext.refl _) | (with_reducible assumption) | (with_reducible refine Ext.alloc ?_ _) | (with_reducible refine Ext.drewN ?_ _) | (with_reducible refine Ext.drew ?_) | (with_reducible refine Ext.setCell ?_ (by simp <;> omega) _))) hx
  clear hx X3 C3a0 F3a0 C3a1 F3a1 C3b0 F3b0 C3b1 F3b1 C3s0 F3s0 C3s1 F3s1
  have l4a : w.heap.size < w4.heap.size := by omega
  have l4b : w.heap.size + 1 < w4.heap.size := by omega
  have l4s : w2.heap.size < w4.heap.size := by omega
  have l4d : w3.heap.size < w4.heap.size := by omega
  go_wp2_with fail
  refine (HVb.out _).mono ?_
  rintro e w5 ⟨rfl, hx⟩
  have fs5 : w4.heap.size ≤ w5.heap.size := by simpa using hx.size
  obtain ⟨fc, ff⟩ := And.intro hx.cells hx.marks
  have C5a0 : w5.cell? ⟨w.heap.size, 0, none⟩ = some (Value.int IntKind.i64 an) := by rw [fc _ _ (by first | omega | (simp; omega) | simp)]; simp [go_sem, *]
  have F5a0 : w5.frozen? ⟨w.heap.size, 0, none⟩ = false := by rw [ff _ _ (by first | omega | (simp; omega) | simp)]; simp [go_sem, *]
  have C5a1 : w5.cell? ⟨w.heap.size, 1, none⟩ = some (Value.int IntKind.i64 ad) := by rw [fc _ _ (by first | omega | (simp; omega) | simp)]; simp [go_sem, *]
  have F5a1 : w5.frozen? ⟨w.heap.size, 1, none⟩ = false := by rw [ff _ _ (by first | omega | (simp; omega) | simp)]; simp [go_sem, *]
  have C5b0 : w5.cell? ⟨w.heap.size + 1, 0, none⟩ = some (Value.int IntKind.i64 bn) := by rw [fc _ _ (by first | omega | (simp; omega) | simp)]; simp [go_sem, *]
  have F5b0 : w5.frozen? ⟨w.heap.size + 1, 0, none⟩ = false := by rw [ff _ _ (by first | omega | (simp; omega) | simp)]; simp [go_sem, *]
  have C5b1 : w5.cell? ⟨w.heap.size + 1, 1, none⟩ = some (Value.int IntKind.i64 bd) := by rw [fc _ _ (by first | omega | (simp; omega) | simp)]; simp [go_sem, *]
  have F5b1 : w5.frozen? ⟨w.heap.size + 1, 1, none⟩ = false := by rw [ff _ _ (by first | omega | (simp; omega) | simp)]; simp [go_sem, *]
  have C5s0 : w5.cell? ⟨w2.heap.size, 0, none⟩ = some (Value.int IntKind.i64 p) := by rw [fc _ _ (by first | omega | (simp; omega) | simp)]; simp [go_sem, *]
  have F5s0 : w5.frozen? ⟨w2.heap.size, 0, none⟩ = false := by rw [ff _ _ (by first | omega | (simp; omega) | simp)]; simp [go_sem, *]
  have C5s1 : w5.cell? ⟨w2.heap.size, 1, none⟩ = some (Value.int IntKind.i64 q) := by rw [fc _ _ (by first | omega | (simp; omega) | simp)]; simp [go_sem, *]
  have F5s1 : w5.frozen? ⟨w2.heap.size, 1, none⟩ = false := by rw [ff _ _ (by first | omega | (simp; omega) | simp)]; simp [go_sem, *]
  have C5d0 : w5.cell? ⟨w3.heap.size, 0, none⟩ = some (Value.int IntKind.i64 t) := by rw [fc _ _ (by first | omega | (simp; omega) | simp)]; simp [go_sem, *]
  have F5d0 : w5.frozen? ⟨w3.heap.size, 0, none⟩ = false := by rw [ff _ _ (by first | omega | (simp; omega) | simp)]; simp [go_sem, *]
  have C5d1 : w5.cell? ⟨w3.heap.size, 1, none⟩ = some (Value.int IntKind.i64 u) := by rw [fc _ _ (by first | omega | (simp; omega) | simp)]; simp [go_sem, *]
  have F5d1 : w5.frozen? ⟨w3.heap.size, 1, none⟩ = false := by rw [ff _ _ (by first | omega | (simp; omega) | simp)]; simp [go_sem, *]
  clear fc ff
  have X5 : Ext w w5 := Ext.trans (by repeat (first | (with_reducible exact Ext.refl _) | (with_reducible assumption) | (with_reducible refine Ext.alloc ?_ _) | (with_reducible refine Ext.drewN ?_ _) | (with_reducible refine Ext.drew ?_) | (with_reducible refine Ext.setCell ?_ (by simp <;> omega) _))) hx
  clear hx X4 C4a0 F4a0 C4a1 F4a1 C4b0 F4b0 C4b1 F4b1 C4s0 F4s0 C4s1 F4s1 C4d0 F4d0 C4d1 F4d1
  have l5a : w.heap.size < w5.heap.size := by omega
  have l5b : w.heap.size + 1 < w5.heap.size := by omega
  have l5s : w2.heap.size < w5.heap.size := by omega
  have l5d : w3.heap.size < w5.heap.size := by omega
  go_wp2_with fail
  refine Go.Par.region 4 [] (by kernel_rfl) (by kernel_rfl) (fun _ _ _ _ _ h => h) ?_
  simp only [List.take_succ_cons, List.take_zero]
  repeat (first
    | (apply step_val; (case hf => rfl); (case hw => (go_simp; done)); (case h => (intro w' hx fc; go_simp; (first | exact rfl | (go_at_call_of 22 (Value.agg #[Value.int IntKind.i64 an, Value.int IntKind.i64 ad]); exact HPa.out _) | (go_at_call_of 22 (Value.agg #[Value.int IntKind.i64 bn, Value.int IntKind.i64 bd]); exact HPb.out _)))); intro K hK; go_simp; refine hK _ ?_; clear hK K)
    | (apply Go.Par.step_skip; (case hw => (go_simp; first | done | (intro h; cases h))); intro K hK; go_simp; refine hK _ ?_; clear hK K)
    | (apply step_make (mk := fun b => Value.pointer (some ⟨b, 0, none⟩)); (case hf => rfl); (case hw => (go_simp; done)); (case h => (intro w' hx; go_simp; exact rfl)); (case hno => kernel_rfl); simp only [List.nil_append, List.cons_append]))
  refine fin_none (fun w6 hx => ?_)
  have fs6 : w5.heap.size ≤ w6.heap.size := by simpa using hx.size
  obtain ⟨fc, ff⟩ := And.intro hx.cells hx.marks
  have C6a0 : w6.cell? ⟨w.heap.size, 0, none⟩ = some (Value.int IntKind.i64 an) := by rw [fc _ _ (by first | omega | (simp; omega) | simp)]; simp [go_sem, *]
  have F6a0 : w6.frozen? ⟨w.heap.size, 0, none⟩ = false := by rw [ff _ _ (by first | omega | (simp; omega) | simp)]; simp [go_sem, *]
  have C6a1 : w6.cell? ⟨w.heap.size, 1, none⟩ = some (Value.int IntKind.i64 ad) := by rw [fc _ _ (by first | omega | (simp; omega) | simp)]; simp [go_sem, *]
  have F6a1 : w6.frozen? ⟨w.heap.size, 1, none⟩ = false := by rw [ff _ _ (by first | omega | (simp; omega) | simp)]; simp [go_sem, *]
  have C6b0 : w6.cell? ⟨w.heap.size + 1, 0, none⟩ = some (Value.int IntKind.i64 bn) := by rw [fc _ _ (by first | omega | (simp; omega) | simp)]; simp [go_sem, *]
  have F6b0 : w6.frozen? ⟨w.heap.size + 1, 0, none⟩ = false := by rw [ff _ _ (by first | omega | (simp; omega) | simp)]; simp [go_sem, *]
  have C6b1 : w6.cell? ⟨w.heap.size + 1, 1, none⟩ = some (Value.int IntKind.i64 bd) := by rw [fc _ _ (by first | omega | (simp; omega) | simp)]; simp [go_sem, *]
  have F6b1 : w6.frozen? ⟨w.heap.size + 1, 1, none⟩ = false := by rw [ff _ _ (by first | omega | (simp; omega) | simp)]; simp [go_sem, *]
  have C6s0 : w6.cell? ⟨w2.heap.size, 0, none⟩ = some (Value.int IntKind.i64 p) := by rw [fc _ _ (by first | omega | (simp; omega) | simp)]; simp [go_sem, *]
  have F6s0 : w6.frozen? ⟨w2.heap.size, 0, none⟩ = false := by rw [ff _ _ (by first | omega | (simp; omega) | simp)]; simp [go_sem, *]
  have C6s1 : w6.cell? ⟨w2.heap.size, 1, none⟩ = some (Value.int IntKind.i64 q) := by rw [fc _ _ (by first | omega | (simp; omega) | simp)]; simp [go_sem, *]
  have F6s1 : w6.frozen? ⟨w2.heap.size, 1, none⟩ = false := by rw [ff _ _ (by first | omega | (simp; omega) | simp)]; simp [go_sem, *]
  have C6d0 : w6.cell? ⟨w3.heap.size, 0, none⟩ = some (Value.int IntKind.i64 t) := by rw [fc _ _ (by first | omega | (simp; omega) | simp)]; simp [go_sem, *]
  have F6d0 : w6.frozen? ⟨w3.heap.size, 0, none⟩ = false := by rw [ff _ _ (by first | omega | (simp; omega) | simp)]; simp [go_sem, *]
  have C6d1 : w6.cell? ⟨w3.heap.size, 1, none⟩ = some (Value.int IntKind.i64 u) := by rw [fc _ _ (by first | omega | (simp; omega) | simp)]; simp [go_sem, *]
  have F6d1 : w6.frozen? ⟨w3.heap.size, 1, none⟩ = false := by rw [ff _ _ (by first | omega | (simp; omega) | simp)]; simp [go_sem, *]
  clear fc ff
  have X6 : Ext w w6 := Ext.trans (by repeat (first | (with_reducible exact Ext.refl _) | (with_reducible assumption) | (with_reducible refine Ext.alloc ?_ _) | (with_reducible refine Ext.drewN ?_ _) | (with_reducible refine Ext.drew ?_) | (with_reducible refine Ext.setCell ?_ (by simp <;> omega) _))) hx
  clear hx X5 C5a0 F5a0 C5a1 F5a1 C5b0 F5b0 C5b1 F5b1 C5s0 F5s0 C5s1 F5s1 C5d0 F5d0 C5d1 F5d1
  have l6a : w.heap.size < w6.heap.size := by omega
  have l6b : w.heap.size + 1 < w6.heap.size := by omega
  have l6s : w2.heap.size < w6.heap.size := by omega
  have l6d : w3.heap.size < w6.heap.size := by omega
  simp only [List.drop_succ_cons, List.drop_zero]
  go_wp2_with fail
  refine Go.Par.region 16 [] (by kernel_rfl) (by kernel_rfl) (fun _ _ _ _ _ h => h) ?_
  simp only [List.take_succ_cons, List.take_zero]
  repeat (first
    | (apply step_val; (case hf => rfl); (case hw => (go_simp; done)); (case h => (intro w' hx fc; go_simp; (first | exact rfl | (go_at_call_of 16 (Value.int IntKind.i64 x1); exact HO1.out _) | (go_at_call_of 16 (Value.int IntKind.i64 y2); exact HO2.out _) | (go_at_call_of 16 (Value.int IntKind.i64 y1); exact HO3.out _) | (go_at_call_of 16 (Value.int IntKind.i64 x2); exact HO4.out _) | (go_at_call_of 25 (Value.agg #[Value.bool s1, Value.int IntKind.u64 h1, Value.int IntKind.u64 l1]); exact HM1.out _) | (go_at_call_of 25 (Value.agg #[Value.bool s3, Value.int IntKind.u64 h3, Value.int IntKind.u64 l3]); exact HM2.out _) | (go_at_call_of 25 (Value.agg #[Value.bool s4, Value.int IntKind.u64 h4, Value.int IntKind.u64 l4]); exact HM3.out _)))); intro K hK; go_simp; refine hK _ ?_; clear hK K)
    | (apply Go.Par.step_skip; (case hw => (go_simp; first | done | (intro h; cases h))); intro K hK; go_simp; refine hK _ ?_; clear hK K)
    | (apply step_make (mk := fun b => Value.pointer (some ⟨b, 0, none⟩)); (case hf => rfl); (case hw => (go_simp; done)); (case h => (intro w' hx; go_simp; exact rfl)); (case hno => kernel_rfl); simp only [List.nil_append, List.cons_append]))
  refine fin_two (fun w7 b7x b7y hx hb0 hb1 hne eb0 eb1 K hK => ?_)
  go_simp
  refine hK _ ?_
  clear hK K
  have hs0 : w6.heap.size ≤ b7x := by simpa using hb0
  have hs1 : w6.heap.size ≤ b7y := by simpa using hb1
  have fs7 : w6.heap.size ≤ w7.heap.size := by simpa using hx.size
  obtain ⟨fc, ff⟩ := And.intro hx.cells hx.marks
  have C7a0 : w7.cell? ⟨w.heap.size, 0, none⟩ = some (Value.int IntKind.i64 x1) := by rw [fc _ _ (by first | omega | (simp; omega) | simp)]; simp [go_sem, *]
  have F7a0 : w7.frozen? ⟨w.heap.size, 0, none⟩ = false := by rw [ff _ _ (by first | omega | (simp; omega) | simp)]; simp [go_sem, *]
  have C7a1 : w7.cell? ⟨w.heap.size, 1, none⟩ = some (Value.int IntKind.i64 x2) := by rw [fc _ _ (by first | omega | (simp; omega) | simp)]; simp [go_sem, *]
  have F7a1 : w7.frozen? ⟨w.heap.size, 1, none⟩ = false := by rw [ff _ _ (by first | omega | (simp; omega) | simp)]; simp [go_sem, *]
  have C7b0 : w7.cell? ⟨w.heap.size + 1, 0, none⟩ = some (Value.int IntKind.i64 y1) := by rw [fc _ _ (by first | omega | (simp; omega) | simp)]; simp [go_sem, *]
  have F7b0 : w7.frozen? ⟨w.heap.size + 1, 0, none⟩ = false := by rw [ff _ _ (by first | omega | (simp; omega) | simp)]; simp [go_sem, *]
  have C7b1 : w7.cell? ⟨w.heap.size + 1, 1, none⟩ = some (Value.int IntKind.i64 y2) := by rw [fc _ _ (by first | omega | (simp; omega) | simp)]; simp [go_sem, *]
  have F7b1 : w7.frozen? ⟨w.heap.size + 1, 1, none⟩ = false := by rw [ff _ _ (by first | omega | (simp; omega) | simp)]; simp [go_sem, *]
  have C7s0 : w7.cell? ⟨w2.heap.size, 0, none⟩ = some (Value.int IntKind.i64 p) := by rw [fc _ _ (by first | omega | (simp; omega) | simp)]; simp [go_sem, *]
  have F7s0 : w7.frozen? ⟨w2.heap.size, 0, none⟩ = false := by rw [ff _ _ (by first | omega | (simp; omega) | simp)]; simp [go_sem, *]
  have C7s1 : w7.cell? ⟨w2.heap.size, 1, none⟩ = some (Value.int IntKind.i64 q) := by rw [fc _ _ (by first | omega | (simp; omega) | simp)]; simp [go_sem, *]
  have F7s1 : w7.frozen? ⟨w2.heap.size, 1, none⟩ = false := by rw [ff _ _ (by first | omega | (simp; omega) | simp)]; simp [go_sem, *]
  have C7d0 : w7.cell? ⟨w3.heap.size, 0, none⟩ = some (Value.int IntKind.i64 t) := by rw [fc _ _ (by first | omega | (simp; omega) | simp)]; simp [go_sem, *]
  have F7d0 : w7.frozen? ⟨w3.heap.size, 0, none⟩ = false := by rw [ff _ _ (by first | omega | (simp; omega) | simp)]; simp [go_sem, *]
  have C7d1 : w7.cell? ⟨w3.heap.size, 1, none⟩ = some (Value.int IntKind.i64 u) := by rw [fc _ _ (by first | omega | (simp; omega) | simp)]; simp [go_sem, *]
  have F7d1 : w7.frozen? ⟨w3.heap.size, 1, none⟩ = false := by rw [ff _ _ (by first | omega | (simp; omega) | simp)]; simp [go_sem, *]
  clear fc ff
  have X7 : Ext w w7 := Ext.trans (by repeat (first | (with_reducible exact Ext.refl _) | (with_reducible assumption) | (with_reducible refine Ext.alloc ?_ _) | (with_reducible refine Ext.drewN ?_ _) | (with_reducible refine Ext.drew ?_) | (with_reducible refine Ext.setCell ?_ (by simp <;> omega) _))) hx
  clear hx X6 C6a0 F6a0 C6a1 F6a1 C6b0 F6b0 C6b1 F6b1 C6s0 F6s0 C6s1 F6s1 C6d0 F6d0 C6d1 F6d1
  have l7a : w.heap.size < w7.heap.size := by omega
  have l7b : w.heap.size + 1 < w7.heap.size := by omega
  have l7s : w2.heap.size < w7.heap.size := by omega
  have l7d : w3.heap.size < w7.heap.size := by omega
  obtain ⟨C7x0, C7x1, C7x2, F7x0, F7x1, F7x2⟩ := box3 eb0
  have l7x := block_lt eb0
  have hw7x : w.heap.size ≤ b7x := by omega
  have n7xa : ¬ b7x = w.heap.size := by omega
  have m7xa : ¬ w.heap.size = b7x := by omega
  have n7xb : ¬ b7x = w.heap.size + 1 := by omega
  have m7xb : ¬ w.heap.size + 1 = b7x := by omega
  have n7xs : ¬ b7x = w2.heap.size := by omega
  have m7xs : ¬ w2.heap.size = b7x := by omega
  have n7xd : ¬ b7x = w3.heap.size := by omega
  have m7xd : ¬ w3.heap.size = b7x := by omega
  obtain ⟨C7y0, C7y1, C7y2, F7y0, F7y1, F7y2⟩ := box3 eb1
  have l7y := block_lt eb1
  have hw7y : w.heap.size ≤ b7y := by omega
  have n7ya : ¬ b7y = w.heap.size := by omega
  have m7ya : ¬ w.heap.size = b7y := by omega
  have n7yb : ¬ b7y = w.heap.size + 1 := by omega
  have m7yb : ¬ w.heap.size + 1 = b7y := by omega
  have n7ys : ¬ b7y = w2.heap.size := by omega
  have m7ys : ¬ w2.heap.size = b7y := by omega
  have n7yd : ¬ b7y = w3.heap.size := by omega
  have m7yd : ¬ w3.heap.size = b7y := by omega
  have ne7 : ¬ b7y = b7x := fun e => hne e.symm
  clear hs0 hb0 eb0 hs1 hb1 eb1
  simp only [List.drop_succ_cons, List.drop_zero]
  go_wp2_with fail
  refine Go.Par.region 8 [] (by kernel_rfl) (by kernel_rfl) (fun _ _ _ _ _ h => h) ?_
  simp only [List.take_succ_cons, List.take_zero]
  repeat (first
    | (apply step_val; (case hf => rfl); (case hw => (go_simp; done)); (case h => (intro w' hx fc; go_simp; (first | exact rfl | (go_at_call_of 16 (Value.int IntKind.i64 x1); exact HO1.out _) | (go_at_call_of 16 (Value.int IntKind.i64 y2); exact HO2.out _) | (go_at_call_of 16 (Value.int IntKind.i64 y1); exact HO3.out _) | (go_at_call_of 16 (Value.int IntKind.i64 x2); exact HO4.out _) | (go_at_call_of 25 (Value.agg #[Value.bool s1, Value.int IntKind.u64 h1, Value.int IntKind.u64 l1]); exact HM1.out _) | (go_at_call_of 25 (Value.agg #[Value.bool s3, Value.int IntKind.u64 h3, Value.int IntKind.u64 l3]); exact HM2.out _) | (go_at_call_of 25 (Value.agg #[Value.bool s4, Value.int IntKind.u64 h4, Value.int IntKind.u64 l4]); exact HM3.out _)))); intro K hK; go_simp; refine hK _ ?_; clear hK K)
    | (apply Go.Par.step_skip; (case hw => (go_simp; first | done | (intro h; cases h))); intro K hK; go_simp; refine hK _ ?_; clear hK K)
    | (apply step_make (mk := fun b => Value.pointer (some ⟨b, 0, none⟩)); (case hf => rfl); (case hw => (go_simp; done)); (case h => (intro w' hx; go_simp; exact rfl)); (case hno => kernel_rfl); simp only [List.nil_append, List.cons_append]))
  refine fin_one (fun w8 b8e hx hb0 eb0 K hK => ?_)
  go_simp
  refine hK _ ?_
  clear hK K
  have hs0 : w7.heap.size ≤ b8e := by simpa using hb0
  have fs8 : w7.heap.size ≤ w8.heap.size := by simpa using hx.size
  obtain ⟨fc, ff⟩ := And.intro hx.cells hx.marks
  have C8a0 : w8.cell? ⟨w.heap.size, 0, none⟩ = some (Value.int IntKind.i64 x1) := by rw [fc _ _ (by first | omega | (simp; omega) | simp)]; simp [go_sem, *]
  have F8a0 : w8.frozen? ⟨w.heap.size, 0, none⟩ = false := by rw [ff _ _ (by first | omega | (simp; omega) | simp)]; simp [go_sem, *]
  have C8a1 : w8.cell? ⟨w.heap.size, 1, none⟩ = some (Value.int IntKind.i64 x2) := by rw [fc _ _ (by first | omega | (simp; omega) | simp)]; simp [go_sem, *]
  have F8a1 : w8.frozen? ⟨w.heap.size, 1, none⟩ = false := by rw [ff _ _ (by first | omega | (simp; omega) | simp)]; simp [go_sem, *]
  have C8b0 : w8.cell? ⟨w.heap.size + 1, 0, none⟩ = some (Value.int IntKind.i64 y1) := by rw [fc _ _ (by first | omega | (simp; omega) | simp)]; simp [go_sem, *]
  have F8b0 : w8.frozen? ⟨w.heap.size + 1, 0, none⟩ = false := by rw [ff _ _ (by first | omega | (simp; omega) | simp)]; simp [go_sem, *]
  have C8b1 : w8.cell? ⟨w.heap.size + 1, 1, none⟩ = some (Value.int IntKind.i64 y2) := by rw [fc _ _ (by first | omega | (simp; omega) | simp)]; simp [go_sem, *]
  have F8b1 : w8.frozen? ⟨w.heap.size + 1, 1, none⟩ = false := by rw [ff _ _ (by first | omega | (simp; omega) | simp)]; simp [go_sem, *]
  have C8s0 : w8.cell? ⟨w2.heap.size, 0, none⟩ = some (Value.int IntKind.i64 p) := by rw [fc _ _ (by first | omega | (simp; omega) | simp)]; simp [go_sem, *]
  have F8s0 : w8.frozen? ⟨w2.heap.size, 0, none⟩ = false := by rw [ff _ _ (by first | omega | (simp; omega) | simp)]; simp [go_sem, *]
  have C8s1 : w8.cell? ⟨w2.heap.size, 1, none⟩ = some (Value.int IntKind.i64 q) := by rw [fc _ _ (by first | omega | (simp; omega) | simp)]; simp [go_sem, *]
  have F8s1 : w8.frozen? ⟨w2.heap.size, 1, none⟩ = false := by rw [ff _ _ (by first | omega | (simp; omega) | simp)]; simp [go_sem, *]
  have C8d0 : w8.cell? ⟨w3.heap.size, 0, none⟩ = some (Value.int IntKind.i64 t) := by rw [fc _ _ (by first | omega | (simp; omega) | simp)]; simp [go_sem, *]
  have F8d0 : w8.frozen? ⟨w3.heap.size, 0, none⟩ = false := by rw [ff _ _ (by first | omega | (simp; omega) | simp)]; simp [go_sem, *]
  have C8d1 : w8.cell? ⟨w3.heap.size, 1, none⟩ = some (Value.int IntKind.i64 u) := by rw [fc _ _ (by first | omega | (simp; omega) | simp)]; simp [go_sem, *]
  have F8d1 : w8.frozen? ⟨w3.heap.size, 1, none⟩ = false := by rw [ff _ _ (by first | omega | (simp; omega) | simp)]; simp [go_sem, *]
  have C8x0 : w8.cell? ⟨b7x, 0, none⟩ = some (Value.bool s5) := by rw [fc _ _ (by first | omega | (simp; omega) | simp)]; simp [go_sem, *]
  have F8x0 : w8.frozen? ⟨b7x, 0, none⟩ = false := by rw [ff _ _ (by first | omega | (simp; omega) | simp)]; simp [go_sem, *]
  have C8x1 : w8.cell? ⟨b7x, 1, none⟩ = some (Value.int IntKind.u64 h5) := by rw [fc _ _ (by first | omega | (simp; omega) | simp)]; simp [go_sem, *]
  have F8x1 : w8.frozen? ⟨b7x, 1, none⟩ = false := by rw [ff _ _ (by first | omega | (simp; omega) | simp)]; simp [go_sem, *]
  have C8x2 : w8.cell? ⟨b7x, 2, none⟩ = some (Value.int IntKind.u64 l5) := by rw [fc _ _ (by first | omega | (simp; omega) | simp)]; simp [go_sem, *]
  have F8x2 : w8.frozen? ⟨b7x, 2, none⟩ = false := by rw [ff _ _ (by first | omega | (simp; omega) | simp)]; simp [go_sem, *]
  have C8y0 : w8.cell? ⟨b7y, 0, none⟩ = some (Value.bool s6) := by rw [fc _ _ (by first | omega | (simp; omega) | simp)]; simp [go_sem, *]
  have F8y0 : w8.frozen? ⟨b7y, 0, none⟩ = false := by rw [ff _ _ (by first | omega | (simp; omega) | simp)]; simp [go_sem, *]
  have C8y1 : w8.cell? ⟨b7y, 1, none⟩ = some (Value.int IntKind.u64 h6) := by rw [fc _ _ (by first | omega | (simp; omega) | simp)]; simp [go_sem, *]
  have F8y1 : w8.frozen? ⟨b7y, 1, none⟩ = false := by rw [ff _ _ (by first | omega | (simp; omega) | simp)]; simp [go_sem, *]
  have C8y2 : w8.cell? ⟨b7y, 2, none⟩ = some (Value.int IntKind.u64 l6) := by rw [fc _ _ (by first | omega | (simp; omega) | simp)]; simp [go_sem, *]
  have F8y2 : w8.frozen? ⟨b7y, 2, none⟩ = false := by rw [ff _ _ (by first | omega | (simp; omega) | simp)]; simp [go_sem, *]
  clear fc ff
  have X8 : Ext w w8 := Ext.trans (by repeat (first | (with_reducible exact Ext.refl _) | (with_reducible assumption) | (with_reducible refine Ext.alloc ?_ _) | (with_reducible refine Ext.drewN ?_ _) | (with_reducible refine Ext.drew ?_) | (with_reducible refine Ext.setCell ?_ (by simp <;> omega) _))) hx
  clear hx X7 C7a0 F7a0 C7a1 F7a1 C7b0 F7b0 C7b1 F7b1 C7s0 F7s0 C7s1 F7s1 C7d0 F7d0 C7d1 F7d1 C7x0 C7x1 C7x2 F7x0 F7x1 F7x2 C7y0 C7y1 C7y2 F7y0 F7y1 F7y2
  have l8a : w.heap.size < w8.heap.size := by omega
  have l8b : w.heap.size + 1 < w8.heap.size := by omega
  have l8s : w2.heap.size < w8.heap.size := by omega
  have l8d : w3.heap.size < w8.heap.size := by omega
  have l8x : b7x < w8.heap.size := by omega
  have l8y : b7y < w8.heap.size := by omega
  obtain ⟨C8e0, C8e1, C8e2, F8e0, F8e1, F8e2⟩ := box3 eb0
  have l8e := block_lt eb0
  have hw8e : w.heap.size ≤ b8e := by omega
  have n8ea : ¬ b8e = w.heap.size := by omega
  have m8ea : ¬ w.heap.size = b8e := by omega
  have n8eb : ¬ b8e = w.heap.size + 1 := by omega
  have m8eb : ¬ w.heap.size + 1 = b8e := by omega
  have n8es : ¬ b8e = w2.heap.size := by omega
  have m8es : ¬ w2.heap.size = b8e := by omega
  have n8ed : ¬ b8e = w3.heap.size := by omega
  have m8ed : ¬ w3.heap.size = b8e := by omega
  have n8ex : ¬ b8e = b7x := by omega
  have m8ex : ¬ b7x = b8e := by omega
  have n8ey : ¬ b8e = b7y := by omega
  have m8ey : ¬ b7y = b8e := by omega
  clear hs0 hb0 eb0
  simp only [List.drop_succ_cons, List.drop_zero]
  go_upto_region 12 with fail
  refine Go.Par.region 16 [] (by kernel_rfl) (by kernel_rfl) (fun _ _ _ _ _ h => h) ?_
  simp only [List.take_succ_cons, List.take_zero]
  repeat (first
    | (apply step_val; (case hf => rfl); (case hw => (go_simp; done)); (case h => (intro w' hx fc; go_simp; (first | exact rfl | (go_at_call_of 26 (Value.agg #[Value.bool s5, Value.int IntKind.u64 h5, Value.int IntKind.u64 l5]); first | (with_reducible exact HA1.out _) | (with_reducible exact HA2.out _)) | (go_at_call 15; first | (with_reducible exact HI1.out _) | (with_reducible exact HI2.out _))))); intro K hK; go_simp; refine hK _ ?_; clear hK K)
    | (apply Go.Par.step_skip; (case hw => (go_simp; first | done | (intro h; cases h))); intro K hK; go_simp; refine hK _ ?_; clear hK K)
    | (apply step_make (mk := fun b => Value.pointer (some ⟨b, 0, none⟩)); (case hf => rfl); (case hw => (go_simp; done)); (case h => (intro w' hx; go_simp; exact rfl)); (case hno => kernel_rfl); simp only [List.nil_append, List.cons_append]))
  refine fin_none (fun w9 hx => ?_)
  have fs9 : w8.heap.size + 1 ≤ w9.heap.size := by simpa using hx.size
  obtain ⟨fc, ff⟩ := And.intro hx.cells hx.marks
  have C9a0 : w9.cell? ⟨w.heap.size, 0, none⟩ = some (Value.int IntKind.i64 x1) := by rw [fc _ _ (by first | omega | (simp; omega) | simp)]; simp [go_sem, *]
  have F9a0 : w9.frozen? ⟨w.heap.size, 0, none⟩ = false := by rw [ff _ _ (by first | omega | (simp; omega) | simp)]; simp [go_sem, *]
  have C9a1 : w9.cell? ⟨w.heap.size, 1, none⟩ = some (Value.int IntKind.i64 x2) := by rw [fc _ _ (by first | omega | (simp; omega) | simp)]; simp [go_sem, *]
  have F9a1 : w9.frozen? ⟨w.heap.size, 1, none⟩ = false := by rw [ff _ _ (by first | omega | (simp; omega) | simp)]; simp [go_sem, *]
  have C9b0 : w9.cell? ⟨w.heap.size + 1, 0, none⟩ = some (Value.int IntKind.i64 y1) := by rw [fc _ _ (by first | omega | (simp; omega) | simp)]; simp [go_sem, *]
  have F9b0 : w9.frozen? ⟨w.heap.size + 1, 0, none⟩ = false := by rw [ff _ _ (by first | omega | (simp; omega) | simp)]; simp [go_sem, *]
  have C9b1 : w9.cell? ⟨w.heap.size + 1, 1, none⟩ = some (Value.int IntKind.i64 y2) := by rw [fc _ _ (by first | omega | (simp; omega) | simp)]; simp [go_sem, *]
  have F9b1 : w9.frozen? ⟨w.heap.size + 1, 1, none⟩ = false := by rw [ff _ _ (by first | omega | (simp; omega) | simp)]; simp [go_sem, *]
  have C9s0 : w9.cell? ⟨w2.heap.size, 0, none⟩ = some (Value.int IntKind.i64 p) := by rw [fc _ _ (by first | omega | (simp; omega) | simp)]; simp [go_sem, *]
  have F9s0 : w9.frozen? ⟨w2.heap.size, 0, none⟩ = false := by rw [ff _ _ (by first | omega | (simp; omega) | simp)]; simp [go_sem, *]
  have C9s1 : w9.cell? ⟨w2.heap.size, 1, none⟩ = some (Value.int IntKind.i64 q) := by rw [fc _ _ (by first | omega | (simp; omega) | simp)]; simp [go_sem, *]
  have F9s1 : w9.frozen? ⟨w2.heap.size, 1, none⟩ = false := by rw [ff _ _ (by first | omega | (simp; omega) | simp)]; simp [go_sem, *]
  have C9d0 : w9.cell? ⟨w3.heap.size, 0, none⟩ = some (Value.int IntKind.i64 t) := by rw [fc _ _ (by first | omega | (simp; omega) | simp)]; simp [go_sem, *]
  have F9d0 : w9.frozen? ⟨w3.heap.size, 0, none⟩ = false := by rw [ff _ _ (by first | omega | (simp; omega) | simp)]; simp [go_sem, *]
  have C9d1 : w9.cell? ⟨w3.heap.size, 1, none⟩ = some (Value.int IntKind.i64 u) := by rw [fc _ _ (by first | omega | (simp; omega) | simp)]; simp [go_sem, *]
  have F9d1 : w9.frozen? ⟨w3.heap.size, 1, none⟩ = false := by rw [ff _ _ (by first | omega | (simp; omega) | simp)]; simp [go_sem, *]
  have C9x0 : w9.cell? ⟨b7x, 0, none⟩ = some (Value.bool s5) := by rw [fc _ _ (by first | omega | (simp; omega) | simp)]; simp [go_sem, *]
  have F9x0 : w9.frozen? ⟨b7x, 0, none⟩ = false := by rw [ff _ _ (by first | omega | (simp; omega) | simp)]; simp [go_sem, *]
  have C9x1 : w9.cell? ⟨b7x, 1, none⟩ = some (Value.int IntKind.u64 h5) := by rw [fc _ _ (by first | omega | (simp; omega) | simp)]; simp [go_sem, *]
  have F9x1 : w9.frozen? ⟨b7x, 1, none⟩ = false := by rw [ff _ _ (by first | omega | (simp; omega) | simp)]; simp [go_sem, *]
  have C9x2 : w9.cell? ⟨b7x, 2, none⟩ = some (Value.int IntKind.u64 l5) := by rw [fc _ _ (by first | omega | (simp; omega) | simp)]; simp [go_sem, *]
  have F9x2 : w9.frozen? ⟨b7x, 2, none⟩ = false := by rw [ff _ _ (by first | omega | (simp; omega) | simp)]; simp [go_sem, *]
  have C9y0 : w9.cell? ⟨b7y, 0, none⟩ = some (Value.bool s6) := by rw [fc _ _ (by first | omega | (simp; omega) | simp)]; simp [go_sem, *]
  have F9y0 : w9.frozen? ⟨b7y, 0, none⟩ = false := by rw [ff _ _ (by first | omega | (simp; omega) | simp)]; simp [go_sem, *]
  have C9y1 : w9.cell? ⟨b7y, 1, none⟩ = some (Value.int IntKind.u64 h6) := by rw [fc _ _ (by first | omega | (simp; omega) | simp)]; simp [go_sem, *]
  have F9y1 : w9.frozen? ⟨b7y, 1, none⟩ = false := by rw [ff _ _ (by first | omega | (simp; omega) | simp)]; simp [go_sem, *]
  have C9y2 : w9.cell? ⟨b7y, 2, none⟩ = some (Value.int IntKind.u64 l6) := by rw [fc _ _ (by first | omega | (simp; omega) | simp)]; simp [go_sem, *]
  have F9y2 : w9.frozen? ⟨b7y, 2, none⟩ = false := by rw [ff _ _ (by first | omega | (simp; omega) | simp)]; simp [go_sem, *]
  have C9e0 : w9.cell? ⟨b8e, 0, none⟩ = some (Value.bool s7) := by rw [fc _ _ (by first | omega | (simp; omega) | simp)]; simp [go_sem, *]
  have F9e0 : w9.frozen? ⟨b8e, 0, none⟩ = false := by rw [ff _ _ (by first | omega | (simp; omega) | simp)]; simp [go_sem, *]
  have C9e1 : w9.cell? ⟨b8e, 1, none⟩ = some (Value.int IntKind.u64 h7) := by rw [fc _ _ (by first | omega | (simp; omega) | simp)]; simp [go_sem, *]
  have F9e1 : w9.frozen? ⟨b8e, 1, none⟩ = false := by rw [ff _ _ (by first | omega | (simp; omega) | simp)]; simp [go_sem, *]
  have C9e2 : w9.cell? ⟨b8e, 2, none⟩ = some (Value.int IntKind.u64 l7) := by rw [fc _ _ (by first | omega | (simp; omega) | simp)]; simp [go_sem, *]
  have F9e2 : w9.frozen? ⟨b8e, 2, none⟩ = false := by rw [ff _ _ (by first | omega | (simp; omega) | simp)]; simp [go_sem, *]
  have C9m0 : w9.cell? ⟨w8.heap.size, 0, none⟩ = some (Value.bool (!s6)) := by rw [fc _ _ (by first | omega | (simp; omega) | simp)]; simp [go_sem, *]
  have F9m0 : w9.frozen? ⟨w8.heap.size, 0, none⟩ = false := by rw [ff _ _ (by first | omega | (simp; omega) | simp)]; simp [go_sem, *]
  have C9m1 : w9.cell? ⟨w8.heap.size, 1, none⟩ = some (Value.int IntKind.u64 h6) := by rw [fc _ _ (by first | omega | (simp; omega) | simp)]; simp [go_sem, *]
  have F9m1 : w9.frozen? ⟨w8.heap.size, 1, none⟩ = false := by rw [ff _ _ (by first | omega | (simp; omega) | simp)]; simp [go_sem, *]
  have C9m2 : w9.cell? ⟨w8.heap.size, 2, none⟩ = some (Value.int IntKind.u64 l6) := by rw [fc _ _ (by first | omega | (simp; omega) | simp)]; simp [go_sem, *]
  have F9m2 : w9.frozen? ⟨w8.heap.size, 2, none⟩ = false := by rw [ff _ _ (by first | omega | (simp; omega) | simp)]; simp [go_sem, *]
  clear fc ff
  have X9 : Ext w w9 := Ext.trans (by repeat (first | (with_reducible exact Ext.refl _) | (with_reducible assumption) | (with_reducible refine Ext.alloc ?_ _) | (with_reducible refine Ext.drewN ?_ _) | (with_reducible refine Ext.drew ?_) | (with_reducible refine Ext.setCell ?_ (by simp <;> omega) _))) hx
  clear hx X8 C8a0 F8a0 C8a1 F8a1 C8b0 F8b0 C8b1 F8b1 C8s0 F8s0 C8s1 F8s1 C8d0 F8d0 C8d1 F8d1 C8x0 F8x0 C8x1 F8x1 C8x2 F8x2 C8y0 F8y0 C8y1 F8y1 C8y2 F8y2 C8e0 C8e1 C8e2 F8e0 F8e1 F8e2
  have l9a : w.heap.size < w9.heap.size := by omega
  have l9b : w.heap.size + 1 < w9.heap.size := by omega
  have l9s : w2.heap.size < w9.heap.size := by omega
  have l9d : w3.heap.size < w9.heap.size := by omega
  have l9x : b7x < w9.heap.size := by omega
  have l9y : b7y < w9.heap.size := by omega
  have l9e : b8e < w9.heap.size := by omega
  have l9m : w8.heap.size < w9.heap.size := by omega
  simp only [List.drop_succ_cons, List.drop_zero]
  go_wp2_with fail
  go_ret
  exact ⟨rfl, (by repeat (first | (with_reducible exact Ext.refl _) | (with_reducible assumption) | (with_reducible refine Ext.alloc ?_ _) | (with_reducible refine Ext.drewN ?_ _) | (with_reducible refine Ext.drew ?_) | (with_reducible refine Ext.setCell ?_ (by simp <;> omega) _)))⟩
end Go.Proofs.YtifhgkdajnngnaaDoor
