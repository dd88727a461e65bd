/- Clocks as lists of cells; small numbers. -/
import Derived.Test.YtnmickfdflinpaaDoorVF
import Derived.Test.YtnmickfdflinpaaDoorSw
import Derived.Test.YtnmickfdflinpaaDoorShelf
namespace Go.Proofs.YtnmickfdflinpaaDoor
open Go.RowKit Go.Par
theorem w64 {a : Int} (h0 : -9223372036854775808 ≤ a) (h1 : a ≤ 9223372036854775807) : IntKind.i64.wrap a = a := IntWalk.i64_in a ⟨h0, h1⟩
theorem wu64 {a : Int} (h0 : 0 ≤ a) (h1 : a < 18446744073709551616) : IntKind.u64.wrap a = a := by
  unfold IntKind.wrap
  simp [IntKind.signed, IntKind.bits]
  omega
def ckL (x : Nat → Int) : List Value := (ckA x).toList
theorem ck_eq (x : Nat → Int) : ck x = .agg (ckL x).toArray := rfl
theorem ck_length (x : Nat → Int) : (ckL x).length = 16 := rfl
theorem ck_at (x : Nat → Int) {k : Nat} (h : k < 16) : (ckL x)[k]? = some (.int .u64 (x k)) := by
  have := ck_get x k h
  rwa [← Array.getElem?_toList] at this
theorem ck_set (x : Nat → Int) (k : Nat) (v : Int) (_ : k < 16) : (ckL x).set k (.int .u64 v) = ckL (upd x k v) := by
  apply List.ext_getElem?
  intro j
  by_cases hj : j < 16
  · rw [List.getElem?_set, ck_at _ hj, ck_at _ hj, ck_length]
    unfold upd
    by_cases e : k = j
    · subst e; simp [hj]
    · simp [e, Ne.symm e]
  · rw [List.getElem?_eq_none (by rw [List.length_set, ck_length]; omega), List.getElem?_eq_none (by rw [ck_length]; omega)]
theorem ckL_one (x : Nat → Int) : ∀ u ∈ ckL x, u.oneCell' = true := ck_one x
end Go.Proofs.YtnmickfdflinpaaDoor
