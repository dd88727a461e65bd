/- Plain: vector clocks tell what happened before. -/
import Derived.Test.YtnmickfdflinpaaDoorUC
namespace Go.Proofs.YtnmickfdflinpaaDoor
open Go.RowKit Go.Par Go.Sx
def updN {α : Type} (f : Nat → α) (k : Nat) (v : α) : Nat → α := fun j => if j = k then v else f j
theorem updN_same {α : Type} (f : Nat → α) (k : Nat) (v : α) : updN f k v k = v := if_pos rfl
theorem updN_ne {α : Type} (f : Nat → α) {k j : Nat} (v : α) (h : j ≠ k) : updN f k v j = f j := if_neg h
/-- What holds behind N events: pr tells each event's process. -/
structure InvP (pr : Nat → Nat) (now : Nat → Nat → Int) (past : Nat → Nat) (N : Nat) (C : Nat → Nat → Int) (P : Nat → Nat) : Prop where
  four : ∀ e, e < N → pr e < 4
  A : ∀ e j, e < N → j < N → ((P j).testBit e = true ↔ C e (pr e) ≤ C j (pr e))
  B : ∀ e q, e < N → q < 4 → ((past q).testBit e = true ↔ C e (pr e) ≤ now q (pr e))
  own : ∀ e, e < N → C e (pr e) ≤ now (pr e) (pr e)
  know : ∀ r q, r < 4 → q < 4 → now r q ≤ now q q
  knowC : ∀ j q, j < N → q < 4 → C j q ≤ now q q
  small : ∀ j, j < N → P j < 2 ^ (j + 1)
  smallN : ∀ q, q < 4 → past q < 2 ^ N
  E : ∀ e q, e < N → q < 4 → (past q).testBit e = true → ∀ m, m < 16 → C e m ≤ now q m
  F : ∀ e j, e < N → j < N → (P j).testBit e = true → ∀ m, m < 16 → C e m ≤ C j m
  rng : ∀ q m, q < 4 → 0 ≤ now q m ∧ now q m ≤ N
  rngC : ∀ j m, j < N → 0 ≤ C j m ∧ C j m ≤ N
theorem inv_zero : InvP (fun _ => 0) (fun _ _ => 0) (fun _ => 0) 0 (fun _ _ => 0) (fun _ => 0) := by
  refine ⟨?_, ?_, ?_, ?_, ?_, ?_, ?_, ?_, ?_, ?_, ?_, ?_⟩ <;> intros <;> first | omega | simp
/-- What is known ahead of the tick. -/
structure Mid (pr : Nat → Nat) (now : Nat → Nat → Int) (N : Nat) (C : Nat → Nat → Int) (p : Nat) (M : Nat → Int) (S : Nat) : Prop where
  B : ∀ e, e < N → (S.testBit e = true ↔ C e (pr e) ≤ M (pr e))
  self : M p = now p p
  know : ∀ q, q < 4 → M q ≤ now q q
  E : ∀ e, e < N → S.testBit e = true → ∀ m, m < 16 → C e m ≤ M m
  small : S < 2 ^ N
  rng : ∀ m, 0 ≤ M m ∧ M m ≤ N
theorem mid_plain {pr : Nat → Nat} {now : Nat → Nat → Int} {past : Nat → Nat} {N : Nat} {C : Nat → Nat → Int} {P : Nat → Nat} {p : Nat} (h : InvP pr now past N C P) (hp : p < 4) : Mid pr now N C p (now p) (past p) :=
  ⟨fun e he => h.B e p he hp, rfl, fun q hq => h.know p q hp hq, fun e he ht m hm => h.E e p he hp ht m hm, h.smallN p hp, fun m => h.rng p m hp⟩
theorem le_mx {a b c : Int} : a ≤ mx b c ↔ a ≤ b ∨ a ≤ c := by unfold mx; split <;> omega
theorem mid_merge {pr : Nat → Nat} {now : Nat → Nat → Int} {past : Nat → Nat} {N : Nat} {C : Nat → Nat → Int} {P : Nat → Nat} {p k : Nat} (h : InvP pr now past N C P) (hp : p < 4) (hk : k < N) : Mid pr now N C p (mergeF (now p) (C k)) (past p ||| P k) := by
  refine ⟨fun e he => ?_, ?_, fun q hq => ?_, fun e he ht m hm => ?_, ?_, fun m => ?_⟩
  · rw [Nat.testBit_or, Bool.or_eq_true, h.B e p he hp, h.A e k he hk]
    exact le_mx.symm
  · have := h.knowC k p hk hp
    show mx (now p p) (C k p) = now p p
    unfold mx; split <;> omega
  · exact mx_lub.2 ⟨h.know p q hp hq, h.knowC k q hk hq⟩
  · rw [Nat.testBit_or, Bool.or_eq_true] at ht
    refine le_mx.2 ?_
    rcases ht with ht | ht
    · exact .inl (h.E e p he hp ht m hm)
    · exact .inr (h.F e k he hk ht m hm)
  · refine Nat.or_lt_two_pow (h.smallN p hp) (Nat.lt_of_lt_of_le (h.small k hk) (Nat.pow_le_pow_right (by decide) hk))
  · have h1 := h.rng p m hp
    have h2 := h.rngC k m hk
    show 0 ≤ mx _ _ ∧ mx _ _ ≤ _
    unfold mx; split <;> omega
theorem tick_at (M : Nat → Int) {p : Nat} (hp : p < 16) (h : M p < 18446744073709551615) : tickF M (p : Int) = fun j => if j = p then M p + 1 else M j := by
  unfold tickF
  rw [if_pos ⟨by omega, by omega, by simpa using h⟩]
  rfl
theorem bit_new {S N e : Nat} : (S ||| 2 ^ N).testBit e = (S.testBit e || decide (N = e)) := by
  rw [Nat.testBit_or, Nat.testBit_two_pow]
theorem bit_small {S N : Nat} (h : S < 2 ^ N) : S.testBit N = false := Nat.testBit_lt_two_pow h
theorem bit_none {S N e : Nat} (h : S < 2 ^ N) (he : N ≤ e) : S.testBit e = false := Nat.testBit_lt_two_pow (Nat.lt_of_lt_of_le h (Nat.pow_le_pow_right (by decide) he))
theorem inv_step {pr : Nat → Nat} {now : Nat → Nat → Int} {past : Nat → Nat} {N : Nat} {C : Nat → Nat → Int} {P : Nat → Nat} {p : Nat} {M : Nat → Int} {S : Nat} (h : InvP pr now past N C P) (hp : p < 4) (g : Mid pr now N C p M S) (hN : N ≤ 1000) :
    InvP (updN pr N p) (updN now p (tickF M (p : Int))) (updN past p (S ||| 2 ^ N)) (N + 1) (updN C N (tickF M (p : Int))) (updN P N (S ||| 2 ^ N)) := by
  have hMp := g.rng p
  obtain ⟨T, hT⟩ : ∃ T, tickF M (p : Int) = T := ⟨_, rfl⟩
  have ht := tick_at M (p := p) (by omega) (by omega)
  rw [hT] at ht ⊢
  have tp : T p = now p p + 1 := by rw [ht]; simp [g.self]
  have tq : ∀ q, q ≠ p → T q = M q := fun q hq => by rw [ht]; simp [hq]
  have tge : ∀ q, M q ≤ T q := fun q => by
    by_cases e : q = p
    · subst e; rw [tp, g.self]; omega
    · rw [tq q e]; exact Int.le_refl _
  have old : ∀ e, e < N → e ≠ N := fun e he => by omega
  -- the new clock and an old event
  have key : ∀ e, e < N → ((S ||| 2 ^ N).testBit e = true ↔ C e (pr e) ≤ T (pr e)) := fun e he => by
    rw [bit_new, Bool.or_eq_true, g.B e he]
    simp only [decide_eq_true_eq]
    by_cases hq : pr e = p
    · have h1 := h.own e he
      rw [hq] at h1 ⊢
      rw [g.self, tp]
      constructor
      · intro _; omega
      · intro _; exact .inl h1
    · rw [tq _ hq]
      constructor
      · rintro (h1 | h1)
        · exact h1
        · omega
      · exact .inl
  have keyE : ∀ e, e < N → (S ||| 2 ^ N).testBit e = true → ∀ m, m < 16 → C e m ≤ T m := fun e he hb m hm => by
    rw [bit_new, Bool.or_eq_true] at hb
    rcases hb with hb | hb
    · exact Int.le_trans (g.E e he hb m hm) (tge m)
    · simp at hb; omega
  have selfbit : (S ||| 2 ^ N).testBit N = true := by rw [bit_new]; simp
  refine ⟨?_, ?_, ?_, ?_, ?_, ?_, ?_, ?_, ?_, ?_, ?_, ?_⟩
  · intro e he
    by_cases e1 : e = N
    · subst e1; rw [updN_same]; exact hp
    · rw [updN_ne _ _ e1]; exact h.four e (by omega)
  · intro e j he hj
    by_cases j1 : j = N
    · subst j1
      rw [updN_same, updN_same]
      by_cases e1 : e = j
      · subst e1; rw [updN_same, updN_same, selfbit]; simp
      · rw [updN_ne _ _ e1, updN_ne _ _ e1]; exact key e (by omega)
    · rw [updN_ne P _ j1, updN_ne C _ j1]
      by_cases e1 : e = N
      · subst e1
        rw [updN_same, updN_same, tp, bit_none (h.small j (by omega)) (by omega)]
        have := h.knowC j p (by omega) hp
        simp; omega
      · rw [updN_ne _ _ e1, updN_ne _ _ e1]; exact h.A e j (by omega) (by omega)
  · intro e q he hq
    by_cases q1 : q = p
    · subst q1
      rw [updN_same, updN_same]
      by_cases e1 : e = N
      · subst e1; rw [updN_same, updN_same, selfbit]; simp
      · rw [updN_ne _ _ e1, updN_ne _ _ e1]; exact key e (by omega)
    · rw [updN_ne past _ q1, updN_ne now _ q1]
      by_cases e1 : e = N
      · subst e1
        rw [updN_same, updN_same, tp, bit_small (h.smallN q hq)]
        have := h.know q p hq hp
        simp; omega
      · rw [updN_ne _ _ e1, updN_ne _ _ e1]; exact h.B e q (by omega) hq
  · intro e he
    by_cases e1 : e = N
    · subst e1; rw [updN_same, updN_same, updN_same]; exact Int.le_refl _
    · rw [updN_ne _ _ e1, updN_ne _ _ e1]
      have h1 := h.own e (by omega)
      by_cases q1 : pr e = p
      · rw [q1] at h1 ⊢; rw [updN_same, tp]; omega
      · rw [updN_ne _ _ q1]; exact h1
  · intro r q hr hq
    by_cases q1 : q = p
    · subst q1
      rw [updN_same, tp]
      by_cases r1 : r = q
      · subst r1; rw [updN_same, tp]; exact Int.le_refl _
      · rw [updN_ne _ _ r1]; have := h.know r q hr hq; omega
    · rw [updN_ne now (k := p) (j := q) _ q1]
      by_cases r1 : r = p
      · subst r1; rw [updN_same, tq q q1]; exact g.know q hq
      · rw [updN_ne _ _ r1]; exact h.know r q hr hq
  · intro j q hj hq
    have h2 : now q q ≤ updN now p T q q := by
      by_cases q1 : q = p
      · subst q1; rw [updN_same, tp]; omega
      · rw [updN_ne _ _ q1]; exact Int.le_refl _
    by_cases j1 : j = N
    · subst j1
      rw [updN_same]
      by_cases q1 : q = p
      · subst q1; rw [updN_same]; exact Int.le_refl _
      · rw [tq q q1]; exact Int.le_trans (g.know q hq) h2
    · rw [updN_ne _ _ j1]; exact Int.le_trans (h.knowC j q (by omega) hq) h2
  · intro j hj
    by_cases j1 : j = N
    · subst j1
      rw [updN_same]
      exact Nat.or_lt_two_pow (Nat.lt_of_lt_of_le g.small (Nat.pow_le_pow_right (by decide) (by omega))) (Nat.pow_lt_pow_right (by decide) (by omega))
    · rw [updN_ne _ _ j1]; exact h.small j (by omega)
  · intro q hq
    by_cases q1 : q = p
    · subst q1
      rw [updN_same]
      exact Nat.or_lt_two_pow (Nat.lt_of_lt_of_le g.small (Nat.pow_le_pow_right (by decide) (by omega))) (Nat.pow_lt_pow_right (by decide) (by omega))
    · rw [updN_ne _ _ q1]; exact Nat.lt_of_lt_of_le (h.smallN q hq) (Nat.pow_le_pow_right (by decide) (by omega))
  · intro e q he hq hb m hm
    by_cases q1 : q = p
    · subst q1
      rw [updN_same] at hb ⊢
      by_cases e1 : e = N
      · subst e1; rw [updN_same]; exact Int.le_refl _
      · rw [updN_ne _ _ e1]; exact keyE e (by omega) hb m hm
    · rw [updN_ne past _ q1] at hb
      rw [updN_ne now _ q1]
      by_cases e1 : e = N
      · subst e1; rw [bit_small (h.smallN q hq)] at hb; cases hb
      · rw [updN_ne _ _ e1]; exact h.E e q (by omega) hq hb m hm
  · intro e j he hj hb m hm
    by_cases j1 : j = N
    · subst j1
      rw [updN_same] at hb ⊢
      by_cases e1 : e = j
      · subst e1; rw [updN_same]; exact Int.le_refl _
      · rw [updN_ne _ _ e1]; exact keyE e (by omega) hb m hm
    · rw [updN_ne P _ j1] at hb
      rw [updN_ne C (k := N) (j := j) _ j1]
      by_cases e1 : e = N
      · subst e1; rw [bit_none (h.small j (by omega)) (by omega)] at hb; cases hb
      · rw [updN_ne _ _ e1]; exact h.F e j (by omega) (by omega) hb m hm
  · intro q m hq
    have hT2 : 0 ≤ T m ∧ T m ≤ ((N + 1 : Nat) : Int) := by
      by_cases e : m = p
      · subst e; rw [tp]; have := h.rng m m hp; omega
      · rw [tq m e]; have := g.rng m; omega
    by_cases q1 : q = p
    · subst q1; rw [updN_same]; exact hT2
    · rw [updN_ne _ _ q1]; have := h.rng q m hq; omega
  · intro j m hj
    have hT2 : 0 ≤ T m ∧ T m ≤ ((N + 1 : Nat) : Int) := by
      by_cases e : m = p
      · subst e; rw [tp]; have := h.rng m m hp; omega
      · rw [tq m e]; have := g.rng m; omega
    by_cases j1 : j = N
    · subst j1; rw [updN_same]; exact hT2
    · rw [updN_ne _ _ j1]; have := h.rngC j m (by omega); omega
/-- The law: before is in the past. -/
theorem causes_iff {pr : Nat → Nat} {now : Nat → Nat → Int} {past : Nat → Nat} {N : Nat} {C : Nat → Nat → Int} {P : Nat → Nat} (h : InvP pr now past N C P) {i j : Nat} (hi : i < N) (hj : j < N) :
    (i ≠ j ∧ (P j).testBit i = true ↔ cmpF (C i) (C j) = 2) ∧ (i ≠ j → (P j).testBit i = true → cmpF (C j) (C i) = 3) := by
  have four := fun e he => h.four e he
  have back : ∀ a b, a < N → b < N → leqF (C a) (C b) = true → (P b).testBit a = true := fun a b ha hb hl =>
    (h.A a b ha hb).2 (leq_iff.1 hl _ (by have := four a ha; omega))
  have forth : ∀ a b, a < N → b < N → (P b).testBit a = true → leqF (C a) (C b) = true := fun a b ha hb ht => leq_iff.2 (h.F a b ha hb ht)
  have le : ∀ a b, b < N → (P b).testBit a = true → a ≤ b := fun a b hb ht => by
    apply Classical.byContradiction
    intro hn
    rw [bit_none (h.small b hb) (by omega)] at ht
    cases ht
  have eqL : ∀ a b, a < N → b < N → eqF (C a) (C b) = true → a = b := fun a b ha hb he => by
    have h1 : leqF (C a) (C b) = true := leq_iff.2 fun m hm => Int.le_of_eq (eq_iff.1 he m hm)
    have h2 : leqF (C b) (C a) = true := leq_iff.2 fun m hm => Int.le_of_eq (eq_iff.1 he m hm).symm
    have := le a b hb (back a b ha hb h1)
    have := le b a ha (back b a hb ha h2)
    omega
  refine ⟨⟨fun ⟨hne, ht⟩ => ?_, fun hc => ?_⟩, fun hne ht => ?_⟩
  · unfold cmpF
    rw [if_neg (fun he => hne (eqL i j hi hj he)), if_pos (forth i j hi hj ht)]
  · unfold cmpF at hc
    split at hc
    · cases hc
    · rename_i hne
      split at hc
      · rename_i hl
        exact ⟨fun e => hne (by rw [e]; exact eq_refl _), back i j hi hj hl⟩
      · split at hc <;> cases hc
  · unfold cmpF
    have hij := le i j hj ht
    rw [if_neg (fun he => hne (eqL j i hj hi he).symm), if_neg (fun hl => by
      have := le j i hi (back j i hj hi hl)
      omega), if_pos (forth i j hi hj ht)]
end Go.Proofs.YtnmickfdflinpaaDoor
