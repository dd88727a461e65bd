/- Plain: decimal numerals are read back; the first instance of a byte. -/
import Derived.Lib.ItoaNum
import Derived.Lib.ItoaLen
import Derived.Lib.ParseIntB
import Derived.Lib.ParseIntBCases
import Derived.Lib.IndexMore
namespace Go.Plain
open Go.Lib

theorem digits_more (x : Nat) (h : ¬ x < 10) : decDigits x = decDigits (x / 10) ++ [UInt8.ofNat (48 + x % 10)] := by
  rw [decDigits, dif_neg h]
theorem digit_nat (d : Nat) (h : d < 10) : (UInt8.ofNat (48 + d)).toNat = 48 + d := by
  rw [UInt8.toNat_ofNat']; omega
theorem digits_are : ∀ (u : Nat) (c : UInt8), c ∈ decDigits u → 48 ≤ c.toNat ∧ c.toNat ≤ 57 := by
  intro u
  induction u using Nat.strongRecOn with
  | _ u ih =>
    intro c hc
    by_cases h : u < 10
    · rw [decDigits_one h] at hc
      obtain rfl := List.mem_singleton.1 hc
      rw [digit_nat u h]; omega
    · rw [digits_more u h] at hc
      rcases List.mem_append.1 hc with hc | hc
      · exact ih (u / 10) (by omega) c hc
      · obtain rfl := List.mem_singleton.1 hc
        rw [digit_nat (u % 10) (by omega)]; omega
theorem digits_ne (u : Nat) : decDigits u ≠ [] := by
  intro h
  have := decDigits_length u
  rw [h] at this
  have := nDigits_pos u
  simp at *
  omega
theorem pm_append (M : Nat) (r : List UInt8) : ∀ (l : List UInt8) (acc : Nat), parseUintM M acc (l ++ r) = match parseUintM M acc l with | .ok a => parseUintM M a r | e => e
  | [], acc => by simp [parseUintM]
  | c :: l, acc => by
    simp only [List.cons_append, parseUintM]
    split
    · split
      · rfl
      · split
        · rfl
        · exact pm_append M r l _
    · rfl
theorem pm_digits (M : Nat) (hM : M < 18446744073709551616) : ∀ (u : Nat), u ≤ M → parseUintM M 0 (decDigits u) = .ok u := by
  intro u
  induction u using Nat.strongRecOn with
  | _ u ih =>
    intro hu
    by_cases h : u < 10
    · rw [decDigits_one h]
      simp only [parseUintM, digit_nat u h]
      rw [if_pos (by omega), if_neg (by omega), if_neg (by omega)]
      congr 1; omega
    · rw [digits_more u h, pm_append, ih (u / 10) (by omega) (by omega)]
      simp only [parseUintM, digit_nat (u % 10) (by omega)]
      rw [if_pos (by omega), if_neg (by omega), if_neg (by omega)]
      congr 1; omega
theorem parseUint_digits (u : Nat) (hu : u < 18446744073709551616) : parseUintB 64 (decDigits u) = .ok u := by
  rw [parseUintB, if_neg (digits_ne u)]
  exact pm_digits _ (by decide) u (by omega)
theorem parseInt_itoa (n : Int) (h0 : -9223372036854775808 ≤ n) (h1 : n ≤ 9223372036854775807) : parseIntB 64 (itoa n) = .ok n := by
  unfold itoa
  by_cases h : n < 0
  · rw [if_pos h, parseIntB]
    simp only [show (45 : UInt8).toNat = 45 from rfl, or_true, if_true]
    rw [parseUint_digits _ (by omega)]
    simp only []
    rw [if_neg (by simp), if_neg (by simp; omega)]
    congr 1; omega
  · rw [if_neg h]
    obtain ⟨c, r, hc⟩ : ∃ c r, decDigits n.toNat = c :: r := by
      cases hd : decDigits n.toNat with
      | nil => exact absurd hd (digits_ne _)
      | cons c r => exact ⟨c, r, rfl⟩
    have hcd := digits_are n.toNat c (by rw [hc]; simp)
    have hp := parseUint_digits n.toNat (by omega)
    rw [hc] at hp ⊢
    rw [parseIntB]
    rw [if_neg (by omega), hp]
    simp only []
    rw [if_neg (by simp; omega), if_neg (by omega), if_neg (by omega)]
    congr 1; omega
theorem index_none (x : UInt8) : ∀ l : List UInt8, x ∉ l → index l [x] = -1
  | [], _ => by simp [index]
  | c :: l, h => by
    have h1 : x ≠ c := fun e => h (by simp [e])
    have h2 := index_none x l (fun e => h (by simp [e]))
    simp [index, h1, h2]
theorem index_at (x : UInt8) (r : List UInt8) : ∀ l : List UInt8, x ∉ l → index (l ++ x :: r) [x] = l.length
  | [], _ => by simp [index]
  | c :: l, h => by
    have h1 : x ≠ c := fun e => h (by simp [e])
    have h2 := index_at x r l (fun e => h (by simp [e]))
    simp [index, h1, h2]
theorem cut_none (x : UInt8) (l : List UInt8) (h : x ∉ l) : cut l [x] = (l, [], false) := by
  rw [cut, index_none x l h, if_neg (by omega)]
theorem cut_at (x : UInt8) (l r : List UInt8) (h : x ∉ l) : cut (l ++ x :: r) [x] = (l, r, true) := by
  rw [cut, index_at x r l h, if_pos (by omega)]
  simp
theorem itoa_no (n : Int) (x : UInt8) (h1 : x.toNat ≠ 45) (h2 : ¬ (48 ≤ x.toNat ∧ x.toNat ≤ 57)) : x ∉ itoa n := by
  intro hx
  unfold itoa at hx
  split at hx
  · rcases List.mem_cons.1 hx with rfl | hx
    · exact h1 rfl
    · exact h2 (digits_are _ _ hx)
  · exact h2 (digits_are _ _ hx)
theorem itoa_ne (n : Int) : itoa n ≠ [] := by
  unfold itoa
  split
  · simp
  · exact digits_ne _
end Go.Plain
