/- The chapter's examples: awake returns true. -/
import Derived.Test.YtifhgkdajnngnaaDoorRU
namespace Go.Proofs.YtifhgkdajnngnaaDoor
open Go.RowKit Go.Par

theorem ex_make : res true (((6 : Int).natAbs : Int) / Int.gcd 6 (-8)) (((-8 : Int).natAbs : Int) / Int.gcd 6 (-8)) = (-3, 4, 0) := by decide +kernel
theorem ex_add : sumR (oneP 1 2).1 (oneP 1 2).2 (oneP 1 3).1 (oneP 1 3).2 false = (5, 6, 0) := by decide +kernel
theorem ex_parse : parseR [50, 47, 52] = (0, 0, 6) := by decide +kernel
theorem ex_text : textL (-3) 4 = [45, 51, 47, 52] := by
  have v : validB (-3) 4 = true := by decide +kernel
  rw [textL, if_pos v]
  simp [oneP, Lib.itoa, Lib.decDigits]

set_option maxHeartbeats 1000000 in
theorem awake_any (w : World) (G : Globs w) : Calls Tryd.prog 14 #[] w fun e w' => e = .returned (.bool true) ∧ Ext w w' := by
  have HM := Lib.hid (fun W => make_any 6 (-8) true (by decide) (by decide) (by decide) (by decide) (by decide) (by decide) W)
  have HA := Lib.hid (fun W => add_ok 1 2 1 3 W (by decide +kernel) (by decide +kernel) ⟨by decide, by decide⟩ ⟨by decide, by decide⟩ ⟨by decide, by decide⟩ ⟨by decide, by decide⟩)
  have HP := Lib.hid (fun W (G : Globs W) => parse_any [50, 47, 52] (by decide) W G)
  have HT := Lib.hid (fun W (G : Globs W) => text_any (-3) 4 ⟨by decide, by decide⟩ ⟨by decide, by decide⟩ W G)
  rw [ex_make] at HM
  rw [ex_add] at HA
  rw [ex_parse] at HP
  rw [ex_text] at HT
  have HG := Lib.hid G
  clear G
  go_enter Tryd.func14, Tryd.ntmps14
  go_wp2_with fail
  refine (HM.out _).mono ?_
  rintro e w1 ⟨rfl, X1⟩
  go_wp2_with fail
  refine (HA.out _).mono ?_
  rintro e w2 ⟨rfl, hx⟩
  have fs2 : w1.heap.size + 1 ≤ w2.heap.size := by simpa using hx.size
  obtain ⟨fc, ff⟩ := And.intro hx.cells hx.marks
  have C2a0 : w2.cell? ⟨w1.heap.size, 0, none⟩ = some (.int .i64 (-3)) := by rw [fc _ _ (by first | omega | (simp; omega) | simp)]; simp [go_sem, *]
  have F2a0 : w2.frozen? ⟨w1.heap.size, 0, none⟩ = false := by rw [ff _ _ (by first | omega | (simp; omega) | simp)]; simp [go_sem, *]
  have C2a1 : w2.cell? ⟨w1.heap.size, 1, none⟩ = some (.int .i64 (4)) := by rw [fc _ _ (by first | omega | (simp; omega) | simp)]; simp [go_sem, *]
  have F2a1 : w2.frozen? ⟨w1.heap.size, 1, none⟩ = false := by rw [ff _ _ (by first | omega | (simp; omega) | simp)]; simp [go_sem, *]
  clear fc ff
  have X2 : Ext w w2 := Ext.trans (by repeat (first | (with_reducible exact Ext.refl _) | (with_reducible assumption) | (with_reducible refine Ext.alloc ?_ _) | (with_reducible refine Ext.drewN ?_ _) | (with_reducible refine Ext.drew ?_) | (with_reducible refine Ext.setCell ?_ (by simp <;> omega) _))) hx
  clear hx X1
  have lt2 : w1.heap.size < w2.heap.size := by omega
  go_wp2_with fail
  refine (HP.out _ (HG.out.ext (by repeat (first | (with_reducible exact Ext.refl _) | (with_reducible assumption) | (with_reducible refine Ext.alloc ?_ _) | (with_reducible refine Ext.drewN ?_ _) | (with_reducible refine Ext.drew ?_) | (with_reducible refine Ext.setCell ?_ (by simp <;> omega) _))))).mono ?_
  rintro e w3 ⟨rfl, hx⟩
  have fs3 : w2.heap.size + 1 ≤ w3.heap.size := by simpa using hx.size
  obtain ⟨fc, ff⟩ := And.intro hx.cells hx.marks
  have C3a0 : w3.cell? ⟨w1.heap.size, 0, none⟩ = some (.int .i64 (-3)) := by rw [fc _ _ (by first | omega | (simp; omega) | simp)]; simp [go_sem, *]
  have F3a0 : w3.frozen? ⟨w1.heap.size, 0, none⟩ = false := by rw [ff _ _ (by first | omega | (simp; omega) | simp)]; simp [go_sem, *]
  have C3a1 : w3.cell? ⟨w1.heap.size, 1, none⟩ = some (.int .i64 (4)) := by rw [fc _ _ (by first | omega | (simp; omega) | simp)]; simp [go_sem, *]
  have F3a1 : w3.frozen? ⟨w1.heap.size, 1, none⟩ = false := by rw [ff _ _ (by first | omega | (simp; omega) | simp)]; simp [go_sem, *]
  have C3b0 : w3.cell? ⟨w2.heap.size, 0, none⟩ = some (.int .i64 (5)) := by rw [fc _ _ (by first | omega | (simp; omega) | simp)]; simp [go_sem, *]
  have F3b0 : w3.frozen? ⟨w2.heap.size, 0, none⟩ = false := by rw [ff _ _ (by first | omega | (simp; omega) | simp)]; simp [go_sem, *]
  have C3b1 : w3.cell? ⟨w2.heap.size, 1, none⟩ = some (.int .i64 (6)) := by rw [fc _ _ (by first | omega | (simp; omega) | simp)]; simp [go_sem, *]
  have F3b1 : w3.frozen? ⟨w2.heap.size, 1, none⟩ = false := by rw [ff _ _ (by first | omega | (simp; omega) | simp)]; simp [go_sem, *]
  clear fc ff
  have X3 : Ext w w3 := Ext.trans (by repeat (first | (with_reducible exact Ext.refl _) | (with_reducible assumption) | (with_reducible refine Ext.alloc ?_ _) | (with_reducible refine Ext.drewN ?_ _) | (with_reducible refine Ext.drew ?_) | (with_reducible refine Ext.setCell ?_ (by simp <;> omega) _))) hx
  clear hx X2 C2a0 F2a0 C2a1 F2a1
  have lt3 : w1.heap.size < w3.heap.size := by omega
  have lt4 : w2.heap.size < w3.heap.size := by omega
  go_wp2_with fail
  refine (HT.out _ (HG.out.ext (by repeat (first | (with_reducible exact Ext.refl _) | (with_reducible assumption) | (with_reducible refine Ext.alloc ?_ _) | (with_reducible refine Ext.drewN ?_ _) | (with_reducible refine Ext.drew ?_) | (with_reducible refine Ext.setCell ?_ (by simp <;> omega) _))))).mono ?_
  rintro e w4 ⟨rfl, hx⟩
  have X4 : Ext w w4 := Ext.trans (by repeat (first | (with_reducible exact Ext.refl _) | (with_reducible assumption) | (with_reducible refine Ext.alloc ?_ _) | (with_reducible refine Ext.drewN ?_ _) | (with_reducible refine Ext.drew ?_) | (with_reducible refine Ext.setCell ?_ (by simp <;> omega) _))) hx
  go_wp2_with fail
  go_ret
  exact ⟨rfl, X4⟩

end Go.Proofs.YtifhgkdajnngnaaDoor
