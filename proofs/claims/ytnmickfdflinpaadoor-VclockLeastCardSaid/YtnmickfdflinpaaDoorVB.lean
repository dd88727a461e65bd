/- Contracts of vclock: Merge, Compare, length, Get, Tick. -/
import Derived.Test.YtnmickfdflinpaaDoorVA
namespace Go.Proofs.YtnmickfdflinpaaDoor
open Go.RowKit Go.Par
def upd (x : Nat → Int) (k : Nat) (v : Int) : Nat → Int := fun j => if j = k then v else x j
theorem CkAt.set {W : World} {b k : Nat} {x : Nat → Int} {v : Int} (h : CkAt W b x) (_hk : k < 16) : CkAt (W.setCell ⟨b, k, none⟩ (.int .u64 v)) b (upd x k v) := by
  refine ⟨fun i hi => ?_, by simpa using h.2⟩
  obtain ⟨c, f⟩ := h.1 i hi
  unfold upd
  by_cases e : i = k
  · subst e
    simp [go_sem, c, f]
  · simp [go_sem, c, f, e]
theorem CkAt.at {W : World} {b c : Nat} {x : Nat → Int} (h : CkAt W b x) (e : b = c) : CkAt W c x := e ▸ h
theorem CkAt.other {W : World} {b c o : Nat} {x : Nat → Int} {v : Value} (h : CkAt W b x) (_ : b ≠ c) : CkAt (W.setCell ⟨c, o, none⟩ v) b x := by
  refine ⟨fun i hi => ?_, by simpa using h.2⟩
  obtain ⟨c, f⟩ := h.1 i hi
  simp [go_sem, c, f]
def mx (a b : Int) : Int := if a < b then b else a
def mergeF (x y : Nat → Int) : Nat → Int := fun i => mx (x i) (y i)
def partF (x y : Nat → Int) (k : Nat) : Nat → Int := fun i => if i < k then mx (x i) (y i) else x i
theorem part_zero (x y : Nat → Int) : partF x y 0 = x := by funext i; simp [partF]
theorem part_step (x y : Nat → Int) (k : Nat) : upd (partF x y k) k (mx (x k) (y k)) = partF x y (k + 1) := by
  funext i
  unfold upd partF
  by_cases e : i = k
  · subst e; simp
  · by_cases h : i < k
    · rw [if_neg e, if_pos h, if_pos (by omega)]
    · rw [if_neg e, if_neg h, if_neg (by omega)]
theorem ck_congr {x y : Nat → Int} (h : ∀ i, i < 16 → x i = y i) : ckA x = ckA y := by
  unfold ckA
  simp only [h 0 (by omega), h 1 (by omega), h 2 (by omega), h 3 (by omega), h 4 (by omega), h 5 (by omega), h 6 (by omega), h 7 (by omega), h 8 (by omega), h 9 (by omega), h 10 (by omega), h 11 (by omega), h 12 (by omega), h 13 (by omega), h 14 (by omega), h 15 (by omega)]
end Go.Proofs.YtnmickfdflinpaaDoor
