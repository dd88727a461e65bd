/- Contracts of vclock: Merge, Compare, length, Get, Tick. -/
import Derived.Test.YtnmickfdflinpaaDoorVA
namespace Go.Proofs.YtnmickfdflinpaaDoor
open Go.RowKit Go.Par
def upd (x : Nat → Int) (k : Nat) (v : Int) : Nat → Int := fun j => if j = k then v else x j
theorem CkAt.set {W : World} {b k : Nat} {x : Nat → Int} {v : Int} (h : CkAt W b x) (_hk : k < 16) : CkAt (W.setCell ⟨b, k, none⟩ (.int .u64 v)) b (upd x k v) := by
  refine ⟨fun i hi => ?_, by simpa using h.2⟩
  obtain ⟨c, f⟩ := h.1 i hi
  unfold upd
  by_cases e : i = k
  · subst e
    simp [go_sem, c, f]
  · simp [go_sem, c, f, e]
theorem CkAt.at {W : World} {b c : Nat} {x : Nat → Int} (h : CkAt W b x) (e : b = c) : CkAt W c x := e ▸ h
theorem CkAt.other {W : World} {b c o : Nat} {x : Nat → Int} {v : Value} (h : CkAt W b x) (hn : b ≠ c) : CkAt (W.setCell ⟨c, o, none⟩ v) b x := by
  refine ⟨fun i hi => ?_, by simpa using h.2⟩
  obtain ⟨c, f⟩ := h.1 i hi
  simp [go_sem, c, f, hn]
def mx (a b : Int) : Int := if a < b then b else a
def mergeF (x y : Nat → Int) : Nat → Int := fun i => mx (x i) (y i)
def partF (x y : Nat → Int) (k : Nat) : Nat → Int := fun i => if i < k then mx (x i) (y i) else x i
theorem part_zero (x y : Nat → Int) : partF x y 0 = x := by funext i; simp [partF]
theorem part_step (x y : Nat → Int) (k : Nat) : upd (partF x y k) k (mx (x k) (y k)) = partF x y (k + 1) := by
  funext i
  unfold upd partF
  by_cases e : i = k
  · subst e; simp
  · by_cases h : i < k
    · rw [if_neg e, if_pos h, if_pos (by omega)]
    · rw [if_neg e, if_neg h, if_neg (by omega)]
theorem ck_congr {x y : Nat → Int} (h : ∀ i, i < 16 → x i = y i) : ckA x = ckA y := by
  unfold ckA
  simp only [h 0 (by omega), h 1 (by omega), h 2 (by omega), h 3 (by omega), h 4 (by omega), h 5 (by omega), h 6 (by omega), h 7 (by omega), h 8 (by omega), h 9 (by omega), h 10 (by omega), h 11 (by omega), h 12 (by omega), h 13 (by omega), h 14 (by omega), h 15 (by omega)]
set_option maxRecDepth 100000 in
set_option maxHeartbeats 1000000 in
theorem merge_any (x y : Nat → Int) (w : World) :
    Calls Tryd.prog 14 #[ck x, ck y] w fun e w' => e = .returned (ck (mergeF x y)) ∧ Ext w w' := by
  unfold ck
  go_enter Tryd.func14, Tryd.ntmps14
  go_wp2_with fail
  go_loopw [6] (fun i W => ∃ k : Nat, k ≤ 16 ∧ i = .int .i64 k ∧ Ext w W ∧ CkAt W w.heap.size (partF x y k) ∧ CkAt W (w.heap.size + 1) y ∧ CkAt W (w.heap.size + 1 + 1) (fun _ => 0)) (fun i _ => 16 - (intOf i).toNat)
  case atStart =>
    rw [← part_zero x y]
    exact ⟨0, by omega, rfl, (by repeat (first | (with_reducible exact Ext.refl _) | (with_reducible assumption) | (with_reducible refine Ext.alloc ?_ _) | (with_reducible refine Ext.drewN ?_ _) | (with_reducible refine Ext.drew ?_) | (with_reducible refine Ext.setCell ?_ (by simp <;> omega) _))), ((CkAt.new w _ 26).ext ((Ext.refl _).alloc _)).ext ((Ext.refl _).alloc _), (CkAt.at (CkAt.new (w.alloc (.cells (ckA (partF x y 0)) 26)) y 26) (by simp)).ext ((Ext.refl _).alloc _), CkAt.at (CkAt.new ((w.alloc (.cells (ckA (partF x y 0)) 26)).alloc (.cells (ckA y) 26)) (fun _ => 0) 26) (by simp)⟩
  case round =>
    obtain ⟨k, hk, rfl, hE, hX, hY, hR⟩ := hrel
    have HX := Lib.hid hX
    have HY := Lib.hid hY
    have HR := Lib.hid hR
    clear hX hY hR
    by_cases hlt : k < 16
    · obtain ⟨cx, fx⟩ := HX.out.1 k hlt
      obtain ⟨cy, fy⟩ := HY.out.1 k hlt
      have ex : partF x y k k = x k := by simp [partF]
      rw [ex] at cx
      clear ex
      have k0 : (0 : Int) ≤ k := by omega
      have k1 : (k : Int) < 16 := by omega
      go_wp2_with fail
      go_region
      go_wp2_with fail
      go_roundw
      case rel =>
        have hs := HX.out.set (v := mx (x k) (y k)) hlt
        rw [part_step] at hs
        exact ⟨k + 1, by omega, by go_num, (by repeat (first | (with_reducible exact Ext.refl _) | (with_reducible assumption) | (with_reducible refine Ext.alloc ?_ _) | (with_reducible refine Ext.drewN ?_ _) | (with_reducible refine Ext.drew ?_) | (with_reducible refine Ext.setCell ?_ (by simp <;> omega) _))), hs.ext ((Ext.refl _).drew), (HY.out.other (by omega)).ext ((Ext.refl _).drew), (HR.out.other (by omega)).ext ((Ext.refl _).drew)⟩
      case measure => simp [intOf]; omega
    · obtain rfl : k = 16 := by omega
      have hl1 := HX.out.2
      have hl2 := HR.out.2
      obtain ⟨cx0, fx0⟩ := HX.out.1 0 (by decide)
      obtain ⟨cx1, fx1⟩ := HX.out.1 1 (by decide)
      obtain ⟨cx2, fx2⟩ := HX.out.1 2 (by decide)
      obtain ⟨cx3, fx3⟩ := HX.out.1 3 (by decide)
      obtain ⟨cx4, fx4⟩ := HX.out.1 4 (by decide)
      obtain ⟨cx5, fx5⟩ := HX.out.1 5 (by decide)
      obtain ⟨cx6, fx6⟩ := HX.out.1 6 (by decide)
      obtain ⟨cx7, fx7⟩ := HX.out.1 7 (by decide)
      obtain ⟨cx8, fx8⟩ := HX.out.1 8 (by decide)
      obtain ⟨cx9, fx9⟩ := HX.out.1 9 (by decide)
      obtain ⟨cx10, fx10⟩ := HX.out.1 10 (by decide)
      obtain ⟨cx11, fx11⟩ := HX.out.1 11 (by decide)
      obtain ⟨cx12, fx12⟩ := HX.out.1 12 (by decide)
      obtain ⟨cx13, fx13⟩ := HX.out.1 13 (by decide)
      obtain ⟨cx14, fx14⟩ := HX.out.1 14 (by decide)
      obtain ⟨cx15, fx15⟩ := HX.out.1 15 (by decide)
      obtain ⟨cr0, fr0⟩ := HR.out.1 0 (by decide)
      obtain ⟨cr1, fr1⟩ := HR.out.1 1 (by decide)
      obtain ⟨cr2, fr2⟩ := HR.out.1 2 (by decide)
      obtain ⟨cr3, fr3⟩ := HR.out.1 3 (by decide)
      obtain ⟨cr4, fr4⟩ := HR.out.1 4 (by decide)
      obtain ⟨cr5, fr5⟩ := HR.out.1 5 (by decide)
      obtain ⟨cr6, fr6⟩ := HR.out.1 6 (by decide)
      obtain ⟨cr7, fr7⟩ := HR.out.1 7 (by decide)
      obtain ⟨cr8, fr8⟩ := HR.out.1 8 (by decide)
      obtain ⟨cr9, fr9⟩ := HR.out.1 9 (by decide)
      obtain ⟨cr10, fr10⟩ := HR.out.1 10 (by decide)
      obtain ⟨cr11, fr11⟩ := HR.out.1 11 (by decide)
      obtain ⟨cr12, fr12⟩ := HR.out.1 12 (by decide)
      obtain ⟨cr13, fr13⟩ := HR.out.1 13 (by decide)
      obtain ⟨cr14, fr14⟩ := HR.out.1 14 (by decide)
      obtain ⟨cr15, fr15⟩ := HR.out.1 15 (by decide)
      go_wp2_with fail
      refine bodyPost_ret (v := .agg (ckA (mergeF x y))) ?_ rfl ⟨rfl, (by repeat (first | (with_reducible exact Ext.refl _) | (with_reducible assumption) | (with_reducible refine Ext.alloc ?_ _) | (with_reducible refine Ext.drewN ?_ _) | (with_reducible refine Ext.drew ?_) | (with_reducible refine Ext.setCell ?_ (by simp <;> omega) _)))⟩
      have e : ckA (mergeF x y) = ckA (partF x y 16) := ck_congr fun i hi => by simp [mergeF, partF, hi]
      rw [e]
      simp [results, Tryd.results14, go_sem, ckA, cr0, cr1, cr2, cr3, cr4, cr5, cr6, cr7, cr8, cr9, cr10, cr11, cr12, cr13, cr14, cr15]
end Go.Proofs.YtnmickfdflinpaaDoor
