/- Texts of the proof, one behind the other. -/
import Derived.Test.YtmbiojpcidccjaaDoorMf
import Derived.ProofKit
import Derived.Lib.LaidTab
import Derived.Deep.Slices
import Derived.Deep.Fields
import Derived.OpenShut
import Derived.Test.YtmbiojpcidccjaaDoorTie
import Derived.ShutString
import Derived.Lay
import Derived.Stop.LaidErr
import Derived.Stop.Joined
import Derived.Shelf.Vars
import Derived.Lib.SmallJoins
import Derived.SevenTiedAt
/- Plain: the tokens of a good expression are read back to it. -/
namespace Go.Proofs.YtmbiojpcidccjaaDoor
abbrev Kt := UInt8 × Str
def kt (t : Tk) : Kt := (t.k, t.t)
def isK (w : Str) (x : Kt) : Bool := (x.1 == 2 || x.1 == 4) && decide (x.2 = w)
def opK (lv : Nat) (x : Kt) : Option UInt8 := ((opsL lv).find? fun y => isK y.1 x).map (·.2)
theorem isT_cons (w : Str) (t : Tk) (r : List Tk) : isT w (t :: r) = isK w (kt t) := rfl
theorem opAt_cons (lv : Nat) (t : Tk) (r : List Tk) : opAt lv (t :: r) = opK lv (kt t) := rfl
def parK (n lv : Nat) (l : List Kt) : List Kt := if lv < n then (4, [40]) :: (l ++ [(4, [41])]) else l
def symK (op : UInt8) : Kt := (if op = 22 ∨ op = 23 then 2 else 4, ((shapeOf op).tx.drop 1).dropLast)
def ktx (op : UInt8) (nm : Str) (n : Int64) (ls : List (Nat × List Kt)) : List Kt :=
  if op = 1 then [(3, Lib.itoa n.toInt)]
  else if op = 5 then [(1, nm)]
  else if op = 8 then [(2, [115, 105, 122, 101]), (1, nm)]
  else if op = 6 then (1, nm) :: (4, [91]) :: ((ls.getD 0 (0, [])).2 ++ [(4, [93])])
  else if op = 7 then (2, [104, 97, 115]) :: (1, nm) :: (4, [91]) :: ((ls.getD 0 (0, [])).2 ++ [(4, [93])])
  else if op = 9 then (4, [45]) :: parK 6 (ls.getD 0 (0, [])).1 (ls.getD 0 (0, [])).2
  else if op = 10 then (2, [110, 111, 116]) :: parK 6 (ls.getD 0 (0, [])).1 (ls.getD 0 (0, [])).2
  else if (shapeOf op).n = 0 then [(2, (shapeOf op).tx)]
  else parK (lftT (shapeOf op).lv) (ls.getD 0 (0, [])).1 (ls.getD 0 (0, [])).2 ++ symK op :: parK ((shapeOf op).lv + 1) (ls.getD 1 (0, [])).1 (ls.getD 1 (0, [])).2
mutual
def ktE : Ex → List Kt
  | .mk op nm n args => ktx op nm n (ktEs args)
def ktEs : List Ex → List (Nat × List Kt)
  | [] => []
  | e :: r => ((shapeOf e.op).lv, ktE e) :: ktEs r
end
def Ex.lv (e : Ex) : Nat := (shapeOf e.op).lv
/-- No operator of level j or above, and no bracket, stands ahead. -/
def Stp (j : Nat) (r : List Tk) : Prop := (∀ i, j ≤ i → i ≤ 4 → opAt i r = none) ∧ isT [91] r = false
theorem Stp.up {i j : Nat} {r : List Tk} (h : Stp i r) (hij : i ≤ j) : Stp j r := ⟨fun k h1 h2 => h.1 k (by omega) h2, h.2⟩
theorem Stp.of {j : Nat} {t : Tk} {r : List Tk} (h : ∀ i ∈ List.range 5, j ≤ i → opK i (kt t) = none) (h2 : isK [91] (kt t) = false) : Stp j (t :: r) :=
  ⟨fun i h1 h3 => h i (List.mem_range.2 (by omega)) h1, h2⟩
theorem pX_up {l : List Tk} {a : Ex} {r : List Tk} : ∀ (d lv j : Nat), j = lv + 1 + d → j ≤ 5 → pX j l = .ok a r → Stp (lv + 1) r → pX lv l = pL lv a r
  | 0, lv, j, e, hj, h, _ => by
    rw [pX_low (by omega), show lv + 1 = j by omega, h]; rfl
  | d + 1, lv, j, e, hj, h, hs => by
    have := pX_up d (lv + 1) j (by omega) hj h (hs.up (by omega))
    rw [pX_low (by omega), this, pL_none (hs.1 _ (Nat.le_refl _) (by omega))]; rfl
/-- An expression's tokens are read by every rule that its level allows. -/
def Rd (e : Ex) : Prop := ∀ le r, le.map kt = ktE e → (∀ lv, lv ≤ 4 → lv + 1 ≤ e.lv → Stp (lv + 1) r → pX lv (le ++ r) = if lv = 2 ∧ e.lv = 3 then .ok e r else pL lv e r) ∧ (6 ≤ e.lv → isT [91] r = false → pX 5 (le ++ r) = .ok e r)
theorem Rd.full {e : Ex} (h : Rd e) {le r : List Tk} (hk : le.map kt = ktE e) {lv : Nat} (h5 : lv ≤ 5) (hl : lv + 1 ≤ e.lv) (hs : Stp lv r) : pX lv (le ++ r) = .ok e r := by
  by_cases e5 : lv = 5
  · subst e5; exact (h le r hk).2 hl hs.2
  · rw [(h le r hk).1 lv (by omega) hl (hs.up (by omega)), pL_none (hs.1 lv (Nat.le_refl _) (by omega))]
    split <;> rfl
theorem Rd.of {e : Ex} (h6 : 6 ≤ e.lv) (h : ∀ le r, le.map kt = ktE e → isT [91] r = false → pX 5 (le ++ r) = .ok e r) : Rd e := fun le r hk => by
  refine ⟨fun lv hl h1 hs => ?_, fun _ => h le r hk⟩
  rw [if_neg (by omega)]
  exact pX_up (4 - lv) lv 5 (by omega) (by omega) (h le r hk hs.2) hs
/-- In parentheses. -/
theorem Rd.par {e : Ex} (h : Rd e) (h1 : 1 ≤ e.lv) {le r : List Tk} (hk : le.map kt = (4, [40]) :: (ktE e ++ [(4, [41])])) : pX 5 (le ++ r) = .ok e r := by
  obtain ⟨t, l1, rfl, ht, hk⟩ := List.map_eq_cons_iff.1 hk
  obtain ⟨l2, l3, rfl, h2, h3⟩ := List.map_eq_append_iff.1 hk
  obtain ⟨t2, l4, rfl, ht2, h4⟩ := List.map_eq_cons_iff.1 h3
  obtain rfl := List.map_eq_nil_iff.1 h4
  simp only [List.cons_append, List.append_assoc, List.nil_append]
  have hf := h.full h2 (r := t2 :: r) (lv := 0) (by omega) h1 (.of (by rw [ht2]; decide) (by rw [ht2]; decide))
  rw [pX_un, isT_cons, isT_cons, ht, if_neg (by decide), if_neg (by decide), primE]
  have hk0 : t.k = 4 := congrArg Prod.fst ht
  simp only [isT_cons, ht]
  rw [if_neg (by rw [hk0]; decide), if_neg (by decide), if_neg (by decide), if_neg (by decide), if_neg (by decide), if_pos (by decide), hf]
  show needT [41] (t2 :: r) _ = _
  rw [needT, isT_cons, ht2, if_pos (by decide)]
  rfl
/-- An operand that stands in parentheses if its level is below n. -/
theorem Rd.opnd {e : Ex} (h : Rd e) (h1 : 1 ≤ e.lv) {n : Nat} {le r : List Tk} (hk : le.map kt = parK n e.lv (ktE e)) (hn : n ≤ 6) (h0 : 0 < n) (hs : Stp (n - 1) r) : pX (n - 1) (le ++ r) = .ok e r := by
  unfold parK at hk
  split at hk
  · have hp := h.par h1 hk (r := r)
    by_cases e5 : n = 6
    · subst e5; exact hp
    · rw [pX_up (5 - n) (n - 1) 5 (by omega) (by omega) hp (hs.up (by omega)), pL_none (hs.1 _ (Nat.le_refl _) (by omega))]
  · exact h.full hk (by omega) (by omega) hs
/-- The left operand of an operator of its level. -/
theorem Rd.left {e : Ex} (h : Rd e) (h1 : 1 ≤ e.lv) {lv : Nat} {le r : List Tk} (hk : le.map kt = parK (lv + 1) e.lv (ktE e)) (hn : lv ≤ 4) (h2 : lv ≠ 2) (hs : Stp (lv + 1) r) : pX lv (le ++ r) = pL lv e r := by
  unfold parK at hk
  split at hk
  · exact pX_up (4 - lv) lv 5 (by omega) (by omega) (h.par h1 hk (r := r)) hs
  · rw [(h le r hk).1 lv hn (by omega) hs, if_neg (by omega)]
theorem pm_num : ∀ (r : Str) (acc : Nat), (∀ c ∈ r, 48 ≤ c.toNat ∧ c.toNat ≤ 57) → r.foldl (fun v (c : UInt8) => 10 * v + (c.toNat - 48)) acc = acc * 10 ^ r.length + numV r
  | [], acc, _ => by simp [numV]
  | c :: r, acc, h => by
    unfold numV
    simp only [List.foldl_cons]
    have h2 : ∀ c ∈ r, 48 ≤ c.toNat ∧ c.toNat ≤ 57 := fun d hd => h d (List.mem_cons_of_mem _ hd)
    rw [pm_num r _ h2, pm_num r (10 * 0 + _) h2]
    simp only [List.length_cons, Nat.pow_succ, Nat.mul_zero, Nat.zero_add, Nat.add_mul]
    rw [Nat.mul_comm 10 acc, Nat.mul_assoc acc 10, Nat.mul_comm 10 (10 ^ r.length)]
    omega
theorem numV_digits (u : Nat) : numV (Lib.decDigits u) = u := by
  induction u using Nat.strongRecOn with
  | _ u ih =>
    by_cases h : u < 10
    · rw [Lib.decDigits_one h]
      simp only [numV, List.foldl_cons, List.foldl_nil, Plain.digit_nat u h]; omega
    · rw [Plain.digits_more u h]
      have := ih (u / 10) (by omega)
      unfold numV at this ⊢
      rw [List.foldl_append, this]
      simp only [List.foldl_cons, List.foldl_nil, Plain.digit_nat (u % 10) (by omega)]; omega
theorem numV_itoa {n : Int} (h : 0 ≤ n) : numV (Lib.itoa n) = n.toNat := by
  unfold Lib.itoa
  rw [if_neg (by omega), numV_digits]
theorem ok_cases {op : UInt8} (h : okOp op = true) : op ∈ ([1, 2, 3, 4, 5, 6, 7, 8, 9, 10, 11, 12, 13, 14, 15, 16, 17, 18, 19, 20, 21, 22, 23] : List UInt8) := by
  simp only [okOp, Bool.and_eq_true, decide_eq_true_eq] at h
  have key : ∀ i ∈ List.range 24, 1 ≤ i → UInt8.ofNat i ∈ ([1, 2, 3, 4, 5, 6, 7, 8, 9, 10, 11, 12, 13, 14, 15, 16, 17, 18, 19, 20, 21, 22, 23] : List UInt8) := by decide
  have := key op.toNat (List.mem_range.2 (by omega)) h.1
  rwa [UInt8.ofNat_toNat] at this
theorem ok_split {op : UInt8} (h : okOp op = true) : op = 1 ∨ op ∈ ([11, 12, 13, 14, 15, 16, 17, 18, 19, 20, 21, 22, 23] : List UInt8) ∨ (op = 2 ∨ op = 3 ∨ op = 4 ∨ op = 5 ∨ op = 6 ∨ op = 7 ∨ op = 8 ∨ op = 9 ∨ op = 10) := by
  have key : ∀ o ∈ ([1, 2, 3, 4, 5, 6, 7, 8, 9, 10, 11, 12, 13, 14, 15, 16, 17, 18, 19, 20, 21, 22, 23] : List UInt8), o = 1 ∨ o ∈ ([11, 12, 13, 14, 15, 16, 17, 18, 19, 20, 21, 22, 23] : List UInt8) ∨ (o = 2 ∨ o = 3 ∨ o = 4 ∨ o = 5 ∨ o = 6 ∨ o = 7 ∨ o = 8 ∨ o = 9 ∨ o = 10) := by decide
  exact key op (ok_cases h)
theorem ok_lv {op : UInt8} (h : okOp op = true) : 1 ≤ (shapeOf op).lv := by
  have key : ∀ o ∈ ([1, 2, 3, 4, 5, 6, 7, 8, 9, 10, 11, 12, 13, 14, 15, 16, 17, 18, 19, 20, 21, 22, 23] : List UInt8), 1 ≤ (shapeOf o).lv := by decide
  exact key op (ok_cases h)
theorem args0 {l : List Ex} (h : l.length = 0) : l = [] := List.eq_nil_of_length_eq_zero h
theorem args1 {l : List Ex} (h : l.length = 1) : ∃ a, l = [a] := List.length_eq_one_iff.1 h
theorem args2 {l : List Ex} (h : l.length = 2) : ∃ a b, l = [a, b] := by
  match l, h with
  | [a, b], _ => exact ⟨a, b, rfl⟩
theorem i64_zero {n : Int64} (h : n.toInt = 0) : n = 0 := Int64.toInt_inj.1 (by rw [h]; rfl)
def binOp (op : UInt8) : Bool := decide (11 ≤ op.toNat) && decide (op.toNat ≤ 23)
theorem bin_facts : ∀ op ∈ ([11, 12, 13, 14, 15, 16, 17, 18, 19, 20, 21, 22, 23] : List UInt8), (shapeOf op).n = 2 ∧ (shapeOf op).nm = false ∧ 1 ≤ (shapeOf op).lv ∧ (shapeOf op).lv ≤ 5 ∧ opK ((shapeOf op).lv - 1) (symK op) = some op ∧ isK [91] (symK op) = false ∧
    (∀ i ∈ List.range 5, (shapeOf op).lv ≤ i → opK i (symK op) = none) ∧ ¬ op = 1 ∧ ¬ op = 5 ∧ ¬ op = 8 ∧ ¬ op = 6 ∧ ¬ op = 7 ∧ ¬ op = 9 ∧ ¬ op = 10 := by decide
theorem ktE_bin {op : UInt8} (h : op ∈ ([11, 12, 13, 14, 15, 16, 17, 18, 19, 20, 21, 22, 23] : List UInt8)) (nm : Str) (n : Int64) (a b : Ex) :
    ktE (.mk op nm n [a, b]) = parK (lftT (shapeOf op).lv) a.lv (ktE a) ++ symK op :: parK ((shapeOf op).lv + 1) b.lv (ktE b) := by
  obtain ⟨h1, _, _, _, _, _, _, g1, g2, g3, g4, g5, g6, g7⟩ := bin_facts op h
  rw [ktE, ktx, if_neg g1, if_neg g2, if_neg g3, if_neg g4, if_neg g5, if_neg g6, if_neg g7, if_neg (by omega)]
  rfl
theorem rd_bin {op : UInt8} (h : op ∈ ([11, 12, 13, 14, 15, 16, 17, 18, 19, 20, 21, 22, 23] : List UInt8)) {a b : Ex} (ha : Rd a) (hb : Rd b) (ha1 : 1 ≤ a.lv) (hb1 : 1 ≤ b.lv) : Rd (opE op [a, b]) := by
  intro le r hk
  obtain ⟨_, _, h3, h4, h5, h6, h7, _⟩ := bin_facts op h
  have hlv : (opE op [a, b]).lv = (shapeOf op).lv := rfl
  rw [hlv]
  rw [show opE op [a, b] = .mk op [] 0 [a, b] from rfl, ktE_bin h] at hk
  obtain ⟨la, l1, rfl, hla, hk⟩ := List.map_eq_append_iff.1 hk
  obtain ⟨t, lb, rfl, ht, hlb⟩ := List.map_eq_cons_iff.1 hk
  generalize hL : (shapeOf op).lv = L at *
  refine ⟨?_, fun h8 => absurd h8 (by omega)⟩
  have hst : ∀ q, Stp L (t :: q) := fun q => .of (by rw [ht]; exact h7) (by rw [ht]; exact h6)
  -- at its own level
  have own : Stp L r → pX (L - 1) (la ++ t :: lb ++ r) = if L - 1 = 2 then .ok (opE op [a, b]) r else pL (L - 1) (opE op [a, b]) r := by
    intro hs
    have hopt : ∀ q, opAt (L - 1) (t :: q) = some op := fun q => by rw [opAt_cons, ht]; exact h5
    have hB : pX L (lb ++ r) = .ok b r := by
      have := hb.opnd hb1 (n := L + 1) hlb (by omega) (by omega) (r := r) (by simpa using hs)
      simpa using this
    have hA : pX (L - 1) (la ++ (t :: lb ++ r)) = pL (L - 1) a (t :: lb ++ r) := by
      by_cases h2 : L = 3
      · subst h2
        have := ha.opnd ha1 (n := 4) (r := t :: lb ++ r) hla (by omega) (by omega) (hst _)
        rw [pX_low (by omega)]
        show (pX 3 _).bind _ = _
        rw [show (4 : Nat) - 1 = 3 from rfl] at this
        rw [this]; rfl
      · have e : lftT L = L - 1 + 1 := by unfold lftT; rw [if_neg h2]; omega
        rw [e] at hla
        exact ha.left ha1 hla (by omega) (by omega) (by rw [show L - 1 + 1 = L by omega]; exact hst _)
    rw [List.append_assoc, hA, List.cons_append, pL_some (by omega) (hopt _)]
    show (pX (L - 1 + 1) (lb ++ r)).bind _ = _
    rw [show L - 1 + 1 = L by omega, hB]
    rfl
  intro lv hl4 hl hs
  by_cases e : lv = L - 1
  · subst e
    rw [show L - 1 + 1 = L by omega] at hs
    rw [own hs]
    exact ifI (by omega)
  · rw [if_neg (by omega)]
    refine pX_up (L - 2 - lv) lv (L - 1) (by omega) (by omega) ?_ hs
    rw [own (hs.up (by omega)), pL_none (hs.1 _ (by omega) (by omega))]
    split <;> rfl
theorem ktE_one {op : UInt8} {nm : Str} {n : Int64} {args : List Ex} {x : Kt} (h : ktE (.mk op nm n args) = [x]) {le : List Tk} (hk : le.map kt = ktE (.mk op nm n args)) : ∃ t, le = [t] ∧ kt t = x := by
  rw [h] at hk
  obtain ⟨t, l, rfl, ht, hl⟩ := List.map_eq_cons_iff.1 hk
  obtain rfl := List.map_eq_nil_iff.1 hl
  exact ⟨t, rfl, ht⟩
theorem rd_un {op : UInt8} {a : Ex} (ha : Rd a) (h1 : 1 ≤ a.lv) (hop : op = 9 ∨ op = 10) : Rd (opE op [a]) := by
  refine .of (by rcases hop with rfl | rfl <;> exact (by decide : 6 ≤ 6)) fun le r hk h91 => ?_
  have key : ∃ t l, le = t :: l ∧ kt t = (if op = 9 then (4, [45]) else (2, [110, 111, 116])) ∧ l.map kt = parK 6 a.lv (ktE a) := by
    rcases hop with rfl | rfl
    · obtain ⟨t, l, rfl, ht, hl⟩ := List.map_eq_cons_iff.1 (show le.map kt = (4, [45]) :: parK 6 a.lv (ktE a) from hk)
      exact ⟨t, l, rfl, ht, hl⟩
    · obtain ⟨t, l, rfl, ht, hl⟩ := List.map_eq_cons_iff.1 (show le.map kt = (2, [110, 111, 116]) :: parK 6 a.lv (ktE a) from hk)
      exact ⟨t, l, rfl, ht, hl⟩
  obtain ⟨t, l, rfl, ht, hl⟩ := key
  have hA : pX 5 (l ++ r) = .ok a r := ha.opnd h1 (n := 6) hl (by omega) (by omega) ⟨fun i h1 h2 => by omega, h91⟩
  rw [List.cons_append, pX_un]
  rcases hop with rfl | rfl
  · rw [isT_cons, ht, if_pos (by decide)]
    show (pX 5 (l ++ r)).bind _ = _
    rw [hA]; rfl
  · rw [isT_cons, isT_cons, ht, if_neg (by decide), if_pos (by decide)]
    show (pX 5 (l ++ r)).bind _ = _
    rw [hA]; rfl
/-- The key in brackets. -/
theorem rd_key {a : Ex} (ha : Rd a) (h1 : 1 ≤ a.lv) {l r : List Tk} (hl : l.map kt = (4, [91]) :: (ktE a ++ [(4, [93])])) : isT [91] (l ++ r) = true ∧ ∀ (g : Ex → List Tk → Rs Ex), ((pX 0 (l ++ r).tail).bind fun x r4 => needT [93] r4 fun r5 => g x r5) = g a r := by
  obtain ⟨t, l1, rfl, ht, hk⟩ := List.map_eq_cons_iff.1 hl
  obtain ⟨l2, l3, rfl, h2, h3⟩ := List.map_eq_append_iff.1 hk
  obtain ⟨t2, l4, rfl, ht2, h4⟩ := List.map_eq_cons_iff.1 h3
  obtain rfl := List.map_eq_nil_iff.1 h4
  refine ⟨by rw [List.cons_append, isT_cons, ht]; decide, fun g => ?_⟩
  have hf := ha.full h2 (r := t2 :: r) (lv := 0) (by omega) h1 (.of (by rw [ht2]; decide) (by rw [ht2]; decide))
  simp only [List.cons_append, List.append_assoc, List.nil_append, List.tail_cons]
  rw [hf]
  show needT [93] (t2 :: r) _ = _
  rw [needT, isT_cons, ht2, if_pos (by decide)]
  rfl
theorem rd_all (e : Ex) : Ex.all frmE e = true → Rd e ∧ 1 ≤ e.lv := by
  induction e using Ex.ind with
  | _ op nm n args ih =>
    intro h
    rw [all_mk, Bool.and_eq_true] at h
    obtain ⟨hf, hr⟩ := h
    have ha : ∀ a ∈ args, Rd a ∧ 1 ≤ a.lv := fun a m => ih a m (alls_mem m hr)
    simp only [frmE, Bool.and_eq_true, Bool.or_eq_true, decide_eq_true_eq] at hf
    obtain ⟨⟨⟨hop, hl⟩, hnm⟩, hn⟩ := hf
    refine ⟨?_, ok_lv hop⟩
    have hm := ok_cases hop
    by_cases h1 : op = 1
    · subst h1
      obtain rfl := args0 hl
      obtain rfl : nm = [] := hnm.resolve_left (by decide)
      rw [if_pos rfl, decide_eq_true_eq] at hn
      refine .of (show 6 ≤ (shapeOf 1).lv by decide) fun le r hk _ => ?_
      obtain ⟨t, rfl, ht⟩ := ktE_one (x := (3, Lib.itoa n.toInt)) rfl hk
      have hk3 : t.k = 3 := congrArg Prod.fst ht
      have ht2 : t.t = Lib.itoa n.toInt := congrArg Prod.snd ht
      have hlt := n.toInt_lt
      rw [List.cons_append, List.nil_append, pX_un, isT_cons, isT_cons, ht, if_neg (by simp [isK]), if_neg (by simp [isK]), primE]
      rw [if_pos hk3, ht2, numV_itoa hn, if_pos (by omega)]
      congr 2
      exact Int64.toInt_inj.1 (by rw [Int64.toInt_ofNat_of_lt (by omega)]; omega)
    rw [if_neg h1, decide_eq_true_eq] at hn
    obtain rfl := i64_zero hn
    by_cases hb : op ∈ ([11, 12, 13, 14, 15, 16, 17, 18, 19, 20, 21, 22, 23] : List UInt8)
    · obtain ⟨b1, b2, _⟩ := bin_facts op hb
      obtain ⟨a, b, rfl⟩ := args2 (l := args) (by omega)
      obtain rfl : nm = [] := by rcases hnm with e | e
                                 · rw [b2] at e; cases e
                                 · exact e
      have h3 := ha a (by simp)
      have h4 := ha b (by simp)
      exact rd_bin hb h3.1 h4.1 h3.2 h4.2
    have hs : op = 2 ∨ op = 3 ∨ op = 4 ∨ op = 5 ∨ op = 6 ∨ op = 7 ∨ op = 8 ∨ op = 9 ∨ op = 10 := ((ok_split hop).resolve_left h1).resolve_left hb
    have cst : ∀ (w : Str), op = 2 ∨ op = 3 ∨ op = 4 → w = (shapeOf op).tx → Rd (.mk op nm 0 args) := by
      intro w ho hw
      have hnil : args = [] := by
        rcases ho with rfl | rfl | rfl <;> exact args0 hl
      have hnm0 : nm = [] := by
        rcases ho with rfl | rfl | rfl <;> exact hnm.resolve_left (by decide)
      subst hnil hnm0
      refine .of (by rcases ho with rfl | rfl | rfl <;> exact (by decide : 6 ≤ 7)) fun le r hk _ => ?_
      rcases ho with rfl | rfl | rfl
      all_goals
        obtain ⟨t, rfl, ht⟩ := ktE_one rfl hk
        have hk3 : t.k = 2 := congrArg Prod.fst ht
        rw [List.cons_append, List.nil_append, pX_un, isT_cons, isT_cons, ht, if_neg (by decide), if_neg (by decide), primE]
        simp only [isT_cons, ht]
        rw [if_neg (by rw [hk3]; decide)]
      · rw [if_pos (by decide)]; rfl
      · rw [if_neg (by decide), if_pos (by decide)]; rfl
      · rw [if_neg (by decide), if_neg (by decide), if_pos (by decide)]; rfl
    rcases hs with rfl | rfl | rfl | rfl | rfl | rfl | rfl | rfl | rfl
    · exact cst _ (.inl rfl) rfl
    · exact cst _ (.inr (.inl rfl)) rfl
    · exact cst _ (.inr (.inr rfl)) rfl
    · obtain rfl := args0 hl
      refine .of (show 6 ≤ (shapeOf 5).lv by decide) fun le r hk h91 => ?_
      obtain ⟨t, rfl, ht⟩ := ktE_one (x := (1, nm)) rfl hk
      have hk1 : t.k = 1 := congrArg Prod.fst ht
      have ht2 : t.t = nm := congrArg Prod.snd ht
      have hno : ∀ w, isK w (1, nm) = false := fun w => by simp [isK]
      rw [List.cons_append, List.nil_append, pX_un, isT_cons, isT_cons, ht, hno, hno, if_neg (by decide), if_neg (by decide), primE]
      simp only [isT_cons, ht, hno]
      rw [if_neg (by rw [hk1]; decide)]
      simp only [Bool.false_eq_true, if_false]
      rw [if_pos hk1, h91, if_neg (by decide), ht2]
    · obtain ⟨a, rfl⟩ := args1 hl
      obtain ⟨ra, r1⟩ := ha a (by simp)
      refine .of (show 6 ≤ (shapeOf 6).lv by decide) fun le r hk h91 => ?_
      obtain ⟨t, l, rfl, ht, hl⟩ := List.map_eq_cons_iff.1 (show le.map kt = (1, nm) :: (4, [91]) :: (ktE a ++ [(4, [93])]) from hk)
      have hk1 : t.k = 1 := congrArg Prod.fst ht
      have ht2 : t.t = nm := congrArg Prod.snd ht
      have hno : ∀ w, isK w (1, nm) = false := fun w => by simp [isK]
      obtain ⟨k1, k2⟩ := rd_key ra r1 hl (r := r)
      rw [List.cons_append, pX_un, isT_cons, isT_cons, ht, hno, hno, if_neg (by decide), if_neg (by decide), primE]
      simp only [isT_cons, ht, hno]
      rw [if_neg (by rw [hk1]; decide)]
      simp only [Bool.false_eq_true, if_false]
      rw [if_pos hk1, k1, if_pos rfl, k2, ht2]
    · obtain ⟨a, rfl⟩ := args1 hl
      obtain ⟨ra, r1⟩ := ha a (by simp)
      refine .of (show 6 ≤ (shapeOf 7).lv by decide) fun le r hk h91 => ?_
      obtain ⟨t, l, rfl, ht, hl⟩ := List.map_eq_cons_iff.1 (show le.map kt = (2, [104, 97, 115]) :: (1, nm) :: (4, [91]) :: (ktE a ++ [(4, [93])]) from hk)
      obtain ⟨t2, l2, rfl, ht2, hl⟩ := List.map_eq_cons_iff.1 hl
      have hk1 : t.k = 2 := congrArg Prod.fst ht
      have hk2 : t2.k = 1 := congrArg Prod.fst ht2
      have ht3 : t2.t = nm := congrArg Prod.snd ht2
      obtain ⟨k1, k2⟩ := rd_key ra r1 hl (r := r)
      rw [List.cons_append, pX_un, isT_cons, isT_cons, ht, if_neg (by decide), if_neg (by decide), primE]
      simp only [isT_cons, ht]
      rw [if_neg (by rw [hk1]; decide), if_neg (by decide), if_neg (by decide), if_neg (by decide), if_neg (by decide), if_neg (by decide), if_pos (by decide), List.cons_append, nameT]
      rw [if_pos hk2, needT, k1, if_pos rfl, k2, ht3]
    · obtain rfl := args0 hl
      refine .of (show 6 ≤ (shapeOf 8).lv by decide) fun le r hk h91 => ?_
      obtain ⟨t, l, rfl, ht, hl⟩ := List.map_eq_cons_iff.1 (show le.map kt = (2, [115, 105, 122, 101]) :: (1, nm) :: [] from hk)
      obtain ⟨t2, l2, rfl, ht2, hl⟩ := List.map_eq_cons_iff.1 hl
      obtain rfl := List.map_eq_nil_iff.1 hl
      have hk1 : t.k = 2 := congrArg Prod.fst ht
      have hk2 : t2.k = 1 := congrArg Prod.fst ht2
      have ht3 : t2.t = nm := congrArg Prod.snd ht2
      rw [List.cons_append, pX_un, isT_cons, isT_cons, ht, if_neg (by decide), if_neg (by decide), primE]
      simp only [isT_cons, ht]
      rw [if_neg (by rw [hk1]; decide), if_neg (by decide), if_neg (by decide), if_neg (by decide), if_pos (by decide), List.cons_append, nameT]
      rw [if_pos hk2, ht3]; rfl
    · obtain ⟨a, rfl⟩ := args1 hl
      obtain ⟨ra, r1⟩ := ha a (by simp)
      obtain rfl : nm = [] := hnm.resolve_left (by decide)
      exact rd_un ra r1 (.inl rfl)
    · obtain ⟨a, rfl⟩ := args1 hl
      obtain ⟨ra, r1⟩ := ha a (by simp)
      obtain rfl : nm = [] := hnm.resolve_left (by decide)
      exact rd_un ra r1 (.inr rfl)
/-- Two good trees with the same tokens are the same tree. -/
theorem ktE_inj {a b : Ex} (ha : Ex.all frmE a = true) (hb : Ex.all frmE b = true) (h : ktE a = ktE b) : a = b := by
  obtain ⟨ra, ra1⟩ := rd_all a ha
  obtain ⟨rb, rb1⟩ := rd_all b hb
  have hs : Stp 0 [] := ⟨fun i _ _ => by unfold opAt isT; simp, rfl⟩
  obtain ⟨l, hl⟩ : ∃ l : List Tk, l.map kt = ktE a := ⟨(ktE a).map fun x => ⟨x.1, x.2, 0⟩, by rw [List.map_map]; simp [kt, Function.comp_def]⟩
  have h1 := ra.full hl (r := []) (lv := 0) (by omega) ra1 hs
  have h2 := rb.full (hl.trans h) (r := []) (lv := 0) (by omega) rb1 hs
  rw [h1] at h2
  injection h2
end Go.Proofs.YtmbiojpcidccjaaDoor
/- Plain: which tokens a text has, piece by piece; the canonical text of a good expression has its tokens. -/
namespace Go.Proofs.YtmbiojpcidccjaaDoor
/-- The piece is the token at the beginning of what it stands ahead of. -/
structure Tok (x : Kt) (r : Str) : Prop where
  ne : x.2 ≠ []
  read : readK (x.2 ++ r) = (x.1, x.2.length)
  skip : skipS false (x.2 ++ r) = x.2 ++ r
inductive Lx : Str → List Kt → Prop where
  | nil : Lx [] []
  | blk {c : UInt8} {s : Str} {k : List Kt} (h : blkB c = true) (l : Lx s k) : Lx (c :: s) k
  | tok {x : Kt} {s : Str} {k : List Kt} (h : Tok x s) (l : Lx s k) : Lx (x.2 ++ s) (x :: k)
theorem Lx.toks {s : Str} {k : List Kt} (h : Lx s k) : ∀ (f o : Nat), (skipS false s).length < f → (tokF f o (skipS false s)).map kt = k := by
  induction h with
  | nil => intro f o _; rw [skipS_nil, tokF_nil]; rfl
  | blk h _ ih => intro f o hf; rw [skipS_blk h] at hf ⊢; exact ih f o hf
  | @tok x s k h _ ih =>
    intro f o hf
    rw [h.skip] at hf ⊢
    match f, hf with
    | f + 1, hf =>
      have hne : x.2 ++ s ≠ [] := by intro e; exact h.ne (List.append_eq_nil_iff.1 e).1
      rw [tokF_step hne, h.read]
      simp only [List.take_left, List.drop_left, List.map_cons]
      have hl := skipS_len false s
      have h1 : 1 ≤ x.2.length := List.length_pos_iff.2 h.ne
      rw [ih f _ (by rw [List.length_append] at hf; omega)]
      rfl
theorem Lx.lex {s : Str} {k : List Kt} (h : Lx s k) : (lexR s).map kt = k := by
  unfold lexR
  have := skipS_len false s
  exact h.toks _ _ (by omega)
/-- What stands ahead ends a word, and makes no longer symbol. -/
def sepB (r : Str) : Prop := ∀ c, r.head? = some c → insB c = false ∧ c ≠ 46 ∧ c ≠ 61 ∧ c ≠ 62 ∧ c ≠ 47
def hdB (r : Str) : Prop := ∀ c, r.head? = some c → c ≠ 46 ∧ c ≠ 61 ∧ c ≠ 62 ∧ c ≠ 47
theorem sepB.hd {r : Str} (h : sepB r) : hdB r := fun c e => (h c e).2
theorem sepB_nil : sepB [] := fun c e => by cases e
theorem sepB_cons {c : UInt8} {r : Str} (h : insB c = false ∧ c ≠ 46 ∧ c ≠ 61 ∧ c ≠ 62 ∧ c ≠ 47) : sepB (c :: r) := fun d e => by cases e; exact h
theorem hdB_cons {c : UInt8} {r : Str} (h : c ≠ 46 ∧ c ≠ 61 ∧ c ≠ 62 ∧ c ≠ 47) : hdB (c :: r) := fun d e => by cases e; exact h
theorem pre_app {q : UInt8 → Bool} : ∀ {w r : Str}, w.all q = true → (∀ c, r.head? = some c → q c = false) → pre q (w ++ r) = w.length
  | [], [], _, _ => rfl
  | [], c :: r, _, h => by unfold pre; rw [List.nil_append, List.takeWhile_cons, h c rfl]; rfl
  | a :: w, r, hw, h => by
    rw [List.all_cons, Bool.and_eq_true] at hw
    have := pre_app hw.2 h
    unfold pre at this ⊢
    rw [List.cons_append, List.takeWhile_cons, hw.1]
    simp [this]
theorem pre_all {q : UInt8 → Bool} : ∀ {w : Str}, pre q w = w.length → w.all q = true
  | [], _ => rfl
  | a :: w, h => by
    unfold pre at h
    rw [List.takeWhile_cons] at h
    cases ha : q a with
    | false => rw [ha] at h; simp at h
    | true =>
      rw [ha] at h
      have := pre_all (q := q) (w := w) (by unfold pre; simpa using h)
      rw [List.all_cons, ha, this]; rfl
theorem byte_key {Q : UInt8 → Prop} (h : ∀ i ∈ List.range 256, Q (UInt8.ofNat i)) (c : UInt8) : Q c := by
  have := h c.toNat (List.mem_range.2 c.toNat_lt)
  rwa [UInt8.ofNat_toNat] at this
theorem let_blk (c : UInt8) (h : letB c = true) : blkB c = false ∧ c ≠ 47 ∧ c ≠ 46 ∧ c ≠ 61 ∧ c ≠ 62 ∧ insB c = true ∧ digB c = false := by
  revert h
  exact byte_key (Q := fun c => letB c = true → blkB c = false ∧ c ≠ 47 ∧ c ≠ 46 ∧ c ≠ 61 ∧ c ≠ 62 ∧ insB c = true ∧ digB c = false) (by decide +kernel) c
theorem dig_blk (c : UInt8) (h : digB c = true) : blkB c = false ∧ c ≠ 47 ∧ c ≠ 46 ∧ c ≠ 61 ∧ c ≠ 62 ∧ letB c = false := by
  revert h
  exact byte_key (Q := fun c => digB c = true → blkB c = false ∧ c ≠ 47 ∧ c ≠ 46 ∧ c ≠ 61 ∧ c ≠ 62 ∧ letB c = false) (by decide +kernel) c
theorem ins_dig (c : UInt8) (h : insB c = false) : digB c = false := by
  revert h
  exact byte_key (Q := fun c => insB c = false → digB c = false) (by decide +kernel) c
theorem tok_word {k : UInt8} {w r : Str} (h0 : w ≠ []) (hl : letB (w.headD 0) = true) (hw : w.all insB = true) (hk : (if words.contains w then (2 : UInt8) else if w.length ≤ 12 then 1 else 5) = k) (h5 : k ≠ 5) (hr : sepB r) : Tok (k, w) r := by
  match w, h0 with
  | c :: t, h0 =>
    have hlb := let_blk c hl
    have hp : pre insB ((c :: t) ++ r) = (c :: t).length := pre_app hw fun d hd => (hr d hd).1
    refine ⟨h0, ?_, ?_⟩
    · show readK ((c :: t) ++ r) = (k, (c :: t).length)
      unfold readK
      simp only
      rw [show ((c :: t) ++ r).headD 0 = c from rfl, show letB c = true from hl, if_pos rfl, hp, List.take_left]
      split at hk
      · rename_i e; rw [if_pos e, ← hk]
      · rename_i e
        rw [if_neg e]
        split at hk
        · rename_i e2; rw [if_pos e2, ← hk]
        · exact absurd hk.symm h5
    · exact skipS_stop hlb.1 (fun e => hlb.2.1 e.1)
theorem kw_facts : ∀ w ∈ words, w ≠ [] ∧ letB (w.headD 0) = true ∧ w.all insB = true := by decide +kernel
theorem tok_kw {w r : Str} (hw : w ∈ words) (hr : sepB r) : Tok (2, w) r := by
  obtain ⟨h1, h2, h3⟩ := kw_facts w hw
  exact tok_word h1 h2 h3 (by rw [if_pos (List.contains_iff_mem.2 hw)]) (by decide) hr
theorem nameB_facts {w : Str} (h : nameB w = true) : w ≠ [] ∧ letB (w.headD 0) = true ∧ w.all insB = true ∧ words.contains w = false ∧ w.length ≤ 12 := by
  have hlen := name_len h
  simp only [nameB, Bool.and_eq_true, decide_eq_true_eq, beq_iff_eq] at h
  obtain ⟨⟨h0, h1⟩, h2⟩ := h
  match w, h0 with
  | c :: t, h0 =>
    have hl := readK_one h1
    have h3 : words.contains ((c :: t).take (pre insB (c :: t))) = false ∧ pre insB (c :: t) = (c :: t).length := by
      unfold readK at h1 h2
      simp only [List.headD_cons, hl, if_true] at h1 h2
      split at h1
      · simp at h1
      · rename_i e
        rw [if_neg e] at h2
        split at h1
        · rename_i e2
          rw [if_pos e2] at h2
          exact ⟨by simpa using e, h2⟩
        · simp at h1
    obtain ⟨h4, h5⟩ := h3
    rw [h5, List.take_length] at h4
    exact ⟨h0, hl, pre_all h5, h4, hlen⟩
theorem tok_name {w r : Str} (hw : nameB w = true) (hr : sepB r) : Tok (1, w) r := by
  obtain ⟨h1, h2, h3, h4, h5⟩ := nameB_facts hw
  exact tok_word h1 h2 h3 (by rw [h4, if_neg (by decide), if_pos h5]) (by decide) hr
theorem name_hd {w r : Str} (hw : nameB w = true) : hdB (w ++ r) := by
  obtain ⟨h1, h2, _⟩ := nameB_facts hw
  match w, h1 with
  | c :: t, _ => have := let_blk c h2; exact hdB_cons ⟨this.2.2.1, this.2.2.2.1, this.2.2.2.2.1, this.2.1⟩
theorem kw_hd {w r : Str} (hw : w ∈ words) : hdB (w ++ r) := by
  obtain ⟨h1, h2, _⟩ := kw_facts w hw
  match w, h1 with
  | c :: t, _ => have := let_blk c h2; exact hdB_cons ⟨this.2.2.1, this.2.2.2.1, this.2.2.2.2.1, this.2.1⟩
theorem digits_hd : ∀ (u : Nat), ∃ c t, Lib.decDigits u = c :: t ∧ (t = [] ∨ c ≠ 48) ∧ (u ≠ 0 → c ≠ 48) := by
  intro u
  induction u using Nat.strongRecOn with
  | _ u ih =>
    by_cases h : u < 10
    · rw [Lib.decDigits_one h]
      refine ⟨_, [], rfl, .inl rfl, fun hu e => ?_⟩
      have := congrArg UInt8.toNat e
      rw [Plain.digit_nat u h] at this
      have h48 : (48 : UInt8).toNat = 48 := rfl
      omega
    · rw [Plain.digits_more u h]
      obtain ⟨c, t, e, _, h2⟩ := ih (u / 10) (by omega)
      rw [e]
      exact ⟨c, _, rfl, .inr (h2 (by omega)), fun _ => h2 (by omega)⟩
theorem tok_num {u : Nat} {r : Str} (hr : sepB r) : Tok (3, Lib.decDigits u) r := by
  obtain ⟨c, t, e, h2, _⟩ := digits_hd u
  have hall : (Lib.decDigits u).all digB = true := List.all_eq_true.2 fun d hd => by
    have := Plain.digits_are u d hd
    simp only [digB, Bool.and_eq_true, decide_eq_true_eq]; exact this
  have hp : pre digB (Lib.decDigits u ++ r) = (Lib.decDigits u).length := pre_app hall fun d hd => ins_dig d (hr d hd).1
  rw [e] at hall hp ⊢
  rw [List.all_cons, Bool.and_eq_true] at hall
  have hb := dig_blk c hall.1
  refine ⟨by simp, ?_, skipS_stop hb.1 (fun e => hb.2.1 e.1)⟩
  show readK ((c :: t) ++ r) = (3, (c :: t).length)
  unfold readK
  simp only
  rw [show ((c :: t) ++ r).headD 0 = c from rfl, hb.2.2.2.2.2, if_neg (by decide), hall.1, if_pos rfl, hp]
  refine if_pos ?_
  rcases h2 with rfl | h2
  · exact .inl rfl
  · exact .inr h2
theorem num_hd {u : Nat} {r : Str} : hdB (Lib.decDigits u ++ r) := by
  obtain ⟨c, t, e, _⟩ := digits_hd u
  have := Plain.digits_are u c (by rw [e]; simp)
  have hd : digB c = true := by simp only [digB, Bool.and_eq_true, decide_eq_true_eq]; exact this
  have hb := dig_blk c hd
  rw [e]
  exact hdB_cons ⟨hb.2.2.1, hb.2.2.2.1, hb.2.2.2.2.1, hb.2.1⟩
def sym1 : Str := [123, 125, 40, 41, 91, 93, 44, 59, 58, 46, 61, 60, 62, 43, 45, 42, 47, 37]
theorem tok_sym {c : UInt8} {r : Str} (hc : c ∈ sym1) (hr : hdB r) : Tok (4, [c]) r := by
  have hx : ∀ d, r.head? = some d → d ≠ 46 ∧ d ≠ 61 ∧ d ≠ 62 ∧ d ≠ 47 := hr
  refine ⟨by simp, ?_, ?_⟩
  · show readK (c :: r) = (4, 1)
    have hl : letB c = false ∧ digB c = false := by revert c; decide
    have hf : symbols.find? (fun x => x.isPrefixOf (c :: r)) = some [c] := by
      cases r with
      | nil => revert c; decide
      | cons d t =>
        obtain ⟨e1, e2, e3, e4⟩ := hx d rfl
        have b1 : ((46 : UInt8) == d) = false := beq_false_of_ne (Ne.symm e1)
        have b2 : ((61 : UInt8) == d) = false := beq_false_of_ne (Ne.symm e2)
        have b3 : ((62 : UInt8) == d) = false := beq_false_of_ne (Ne.symm e3)
        simp only [sym1, List.mem_cons, List.not_mem_nil, or_false] at hc
        rcases hc with rfl | rfl | rfl | rfl | rfl | rfl | rfl | rfl | rfl | rfl | rfl | rfl | rfl | rfl | rfl | rfl | rfl | rfl <;>
          simp [symbols, List.find?, List.isPrefixOf, b1, b2, b3]
    unfold readK
    simp only [List.headD_cons, hl.1, hl.2, hf, Bool.false_eq_true, if_false, List.length_singleton]
  · refine skipS_stop (by revert c; decide) ?_
    rintro ⟨_, h⟩
    exact (hx 47 h).2.2.2 rfl
def sym2 : List Str := [[61, 61], [33, 61], [60, 61], [62, 61], [45, 62]]
theorem tok_two {w : Str} {r : Str} (hw : w ∈ sym2) : Tok (4, w) r := by
  simp only [sym2, List.mem_cons, List.not_mem_nil, or_false] at hw
  rcases hw with rfl | rfl | rfl | rfl | rfl <;> refine ⟨by simp, ?_, ?_⟩ <;> simp [readK, letB, digB, symbols, List.find?, List.isPrefixOf, skipS, blkB]
theorem sp_sep {r : Str} : sepB (32 :: r) := sepB_cons (by decide)
theorem cl_sep {r : Str} : sepB (41 :: r) := sepB_cons (by decide)
theorem br_sep {r : Str} : sepB (91 :: r) := sepB_cons (by decide)
theorem bk_sep {r : Str} : sepB (93 :: r) := sepB_cons (by decide)
theorem Lx.sp {r : Str} {k : List Kt} (h : Lx r k) : Lx (32 :: r) k := .blk (by decide) h
theorem Lx.sy {c : UInt8} {r : Str} {k : List Kt} (hc : c ∈ sym1) (hr : hdB r) (h : Lx r k) : Lx (c :: r) ((4, [c]) :: k) := .tok (x := (4, [c])) (tok_sym hc hr) h
theorem Lx.kw {w r : Str} {k : List Kt} (hw : w ∈ words) (hr : sepB r) (h : Lx r k) : Lx (w ++ r) ((2, w) :: k) := .tok (x := (2, w)) (tok_kw hw hr) h
theorem Lx.nm {w r : Str} {k : List Kt} (hw : nameB w = true) (hr : sepB r) (h : Lx r k) : Lx (w ++ r) ((1, w) :: k) := .tok (x := (1, w)) (tok_name hw hr) h
theorem Lx.nu {u : Nat} {r : Str} {k : List Kt} (hr : sepB r) (h : Lx r k) : Lx (Lib.decDigits u ++ r) ((3, Lib.decDigits u) :: k) := .tok (x := (3, Lib.decDigits u)) (tok_num hr) h
/-- The text of an expression, ahead of what separates: its tokens, and how it begins. -/
def LxE (e : Ex) : Prop := ∀ r ks, sepB r → Lx r ks → Lx (e.text ++ r) (ktE e ++ ks) ∧ hdB (e.text ++ r)
theorem LxE.opnd {e : Ex} (h : LxE e) (n : Nat) {r : Str} {ks : List Kt} (hr : sepB r) (hk : Lx r ks) : Lx (opT n (e.lv, e.text) ++ r) (parK n e.lv (ktE e) ++ ks) ∧ hdB (opT n (e.lv, e.text) ++ r) := by
  unfold opT parK
  simp only
  split
  · simp only [List.cons_append, List.nil_append, List.append_assoc]
    obtain ⟨h1, h2⟩ := h (41 :: r) ((4, [41]) :: ks) cl_sep (.sy (by decide) hr.hd hk)
    exact ⟨.sy (by decide) h2 h1, hdB_cons (by decide)⟩
  · exact h r ks hr hk
theorem bin_tx : ∀ op ∈ ([11, 12, 13, 14, 15, 16, 17, 18, 19, 20, 21, 22, 23] : List UInt8), (shapeOf op).tx = 32 :: ((symK op).2 ++ [32]) ∧ (((symK op).1 = 2 ∧ (symK op).2 ∈ words) ∨ ((symK op).1 = 4 ∧ ((symK op).2 ∈ sym2 ∨ ∃ c ∈ sym1, (symK op).2 = [c]))) := by decide +kernel
theorem Lx.bin {op : UInt8} (h : op ∈ ([11, 12, 13, 14, 15, 16, 17, 18, 19, 20, 21, 22, 23] : List UInt8)) {r : Str} {k : List Kt} (hk : Lx r k) : Lx ((shapeOf op).tx ++ r) (symK op :: k) := by
  obtain ⟨h1, h2⟩ := bin_tx op h
  rw [h1]
  simp only [List.cons_append, List.append_assoc, List.nil_append]
  refine .sp ?_
  have hs := hk.sp
  refine .tok (x := symK op) ?_ hs
  generalize symK op = x at h2
  obtain ⟨k, w⟩ := x
  rcases h2 with ⟨e, hw⟩ | ⟨e, hw | ⟨c, hc, hw⟩⟩
  · obtain rfl : k = 2 := e
    exact tok_kw hw sp_sep
  · obtain rfl : k = 4 := e
    exact tok_two hw
  · obtain rfl : k = 4 := e
    obtain rfl : w = [c] := hw
    exact tok_sym hc sp_sep.hd
theorem lx_all (e : Ex) : Ex.all frmE e = true → Ex.all namE e = true → LxE e := by
  induction e using Ex.ind with
  | _ op nm n args ih =>
    intro h hq
    rw [all_mk, Bool.and_eq_true] at h hq
    obtain ⟨hf, hr⟩ := h
    obtain ⟨hg, hq⟩ := hq
    have ha : ∀ a ∈ args, LxE a := fun a m => ih a m (alls_mem m hr) (alls_mem m hq)
    simp only [frmE, Bool.and_eq_true, Bool.or_eq_true, decide_eq_true_eq] at hf
    simp only [namE, Bool.or_eq_true, Bool.not_eq_true'] at hg
    obtain ⟨⟨⟨hop, hl⟩, hnm⟩, hn⟩ := hf
    have hm := ok_cases hop
    intro r ks hs hk
    by_cases h1 : op = 1
    · subst h1
      rw [if_pos rfl, decide_eq_true_eq] at hn
      have e1 : Ex.text (.mk 1 nm n args) = Lib.decDigits n.toInt.toNat := by
        rw [Ex.text, txt, if_pos rfl, Lib.itoa, if_neg (by omega)]
      have e2 : ktE (.mk 1 nm n args) = [(3, Lib.decDigits n.toInt.toNat)] := by
        rw [ktE, ktx, if_pos rfl, Lib.itoa, if_neg (by omega)]
      rw [e1, e2]
      exact ⟨.nu hs hk, num_hd⟩
    rw [if_neg h1, decide_eq_true_eq] at hn
    obtain rfl := i64_zero hn
    by_cases hb : op ∈ ([11, 12, 13, 14, 15, 16, 17, 18, 19, 20, 21, 22, 23] : List UInt8)
    · obtain ⟨b1, _, _, _, _, _, _, g1, g2, g3, g4, g5, g6, g7⟩ := bin_facts op hb
      obtain ⟨a, b, rfl⟩ := args2 (l := args) (by omega)
      have e1 : Ex.text (.mk op nm 0 [a, b]) = opT (lftT (shapeOf op).lv) (a.lv, a.text) ++ (shapeOf op).tx ++ opT ((shapeOf op).lv + 1) (b.lv, b.text) := by
        rw [Ex.text, txt, if_neg g1, if_neg (by simp [g2, g3]), if_neg (by simp [g4, g5]), if_neg (by simp [g6, g7]), if_neg (by omega)]
        rfl
      rw [e1, ktE_bin hb]
      simp only [List.append_assoc, List.cons_append]
      obtain ⟨k1, _⟩ := (ha b (by simp)).opnd ((shapeOf op).lv + 1) hs hk
      have k2 := Lx.bin hb k1
      refine (ha a (by simp)).opnd (lftT (shapeOf op).lv) ?_ k2
      rw [(bin_tx op hb).1]
      exact sp_sep
    have hs9 : op = 2 ∨ op = 3 ∨ op = 4 ∨ op = 5 ∨ op = 6 ∨ op = 7 ∨ op = 8 ∨ op = 9 ∨ op = 10 := ((ok_split hop).resolve_left h1).resolve_left hb
    have key : ∀ a, LxE a → Lx (91 :: (a.text ++ 93 :: r)) ((4, [91]) :: (ktE a ++ (4, [93]) :: ks)) := by
      intro a hA
      obtain ⟨k1, k2⟩ := hA (93 :: r) ((4, [93]) :: ks) bk_sep (.sy (by decide) hs.hd hk)
      exact .sy (by decide) k2 k1
    have hn5 : (shapeOf op).nm = true → nameB nm = true := fun e => hg.resolve_left (by rw [e]; decide)
    rcases hs9 with rfl | rfl | rfl | rfl | rfl | rfl | rfl | rfl | rfl
    · exact ⟨Lx.kw (w := [116, 114, 117, 101]) (by decide) hs hk, kw_hd (w := [116, 114, 117, 101]) (by decide)⟩
    · exact ⟨Lx.kw (w := [102, 97, 108, 115, 101]) (by decide) hs hk, kw_hd (w := [102, 97, 108, 115, 101]) (by decide)⟩
    · exact ⟨Lx.kw (w := [110, 111, 119]) (by decide) hs hk, kw_hd (w := [110, 111, 119]) (by decide)⟩
    · exact ⟨Lx.nm (hn5 rfl) hs hk, name_hd (hn5 rfl)⟩
    · obtain ⟨a, rfl⟩ := args1 hl
      have e1 : Ex.text (.mk 6 nm 0 [a]) ++ r = nm ++ 91 :: (a.text ++ 93 :: r) := by rw [text_mk]; simp [txt, shapeOf, okOp, shapes]
      have e2 : ktE (.mk 6 nm 0 [a]) ++ ks = (1, nm) :: (4, [91]) :: (ktE a ++ (4, [93]) :: ks) := by
        rw [show ktE (.mk 6 nm 0 [a]) = (1, nm) :: (4, [91]) :: (ktE a ++ [(4, [93])]) from rfl]; simp
      rw [e1, e2]
      exact ⟨.nm (hn5 rfl) br_sep (key a (ha a (by simp))), name_hd (hn5 rfl)⟩
    · obtain ⟨a, rfl⟩ := args1 hl
      have e1 : Ex.text (.mk 7 nm 0 [a]) ++ r = [104, 97, 115] ++ 32 :: (nm ++ 91 :: (a.text ++ 93 :: r)) := by rw [text_mk]; simp [txt, shapeOf, okOp, shapes]
      have e2 : ktE (.mk 7 nm 0 [a]) ++ ks = (2, [104, 97, 115]) :: (1, nm) :: (4, [91]) :: (ktE a ++ (4, [93]) :: ks) := by
        rw [show ktE (.mk 7 nm 0 [a]) = (2, [104, 97, 115]) :: (1, nm) :: (4, [91]) :: (ktE a ++ [(4, [93])]) from rfl]; simp
      rw [e1, e2]
      exact ⟨.kw (by decide) sp_sep (.sp (.nm (hn5 rfl) br_sep (key a (ha a (by simp))))), kw_hd (by decide)⟩
    · obtain rfl := args0 hl
      have e1 : Ex.text (.mk 8 nm 0 []) ++ r = [115, 105, 122, 101] ++ 32 :: (nm ++ r) := by rw [text_mk]; simp [txt, shapeOf, okOp, shapes]
      rw [e1]
      exact ⟨.kw (by decide) sp_sep (.sp (.nm (hn5 rfl) hs hk)), kw_hd (by decide)⟩
    · obtain ⟨a, rfl⟩ := args1 hl
      obtain ⟨k1, k2⟩ := (ha a (by simp)).opnd 6 hs hk
      have e1 : Ex.text (.mk 9 nm 0 [a]) ++ r = 45 :: (opT 6 (a.lv, a.text) ++ r) := by rw [text_mk]; rfl
      rw [e1]
      exact ⟨.sy (by decide) k2 k1, hdB_cons (by decide)⟩
    · obtain ⟨a, rfl⟩ := args1 hl
      obtain ⟨k1, k2⟩ := (ha a (by simp)).opnd 6 hs hk
      have e1 : Ex.text (.mk 10 nm 0 [a]) ++ r = [110, 111, 116] ++ 32 :: (opT 6 (a.lv, a.text) ++ r) := by rw [text_mk]; rfl
      rw [e1]
      exact ⟨.kw (by decide) sp_sep (.sp k1), kw_hd (by decide)⟩
theorem textE_lex {e : Ex} (h : Ex.all frmE e = true) (hq : Ex.all namE e = true) : (lexR e.text).map kt = ktE e := by
  have := (lx_all e h hq [] [] sepB_nil .nil).1
  rw [List.append_nil, List.append_nil] at this
  exact this.lex
theorem checkE_ok {e : Ex} (h : checkE e = 0) : Ex.all frmE e = true ∧ Ex.all namE e = true := by
  unfold checkE at h
  split at h
  · cases h
  split at h
  · cases h
  split at h
  · cases h
  · rename_i h1 h2; exact ⟨by simpa using h2, by simpa using h1⟩
/-- Good expressions have the same text only if they are equal. -/
theorem text_inj {a b : Ex} (ha : checkE a = 0) (hb : checkE b = 0) (h : a.text = b.text) : a = b := by
  obtain ⟨fa, na⟩ := checkE_ok ha
  obtain ⟨fb, nb⟩ := checkE_ok hb
  refine ktE_inj fa fb ?_
  rw [← textE_lex fa na, ← textE_lex fb nb, h]
end Go.Proofs.YtmbiojpcidccjaaDoor
/- Facts on types and functions. -/
namespace Go.Proofs.YtmbiojpcidccjaaDoor
open Go.RowKit Go.Par Go.Sx
theorem Fx.bool4 : isBool Tryd.prog 4 = Bool.true := by kernel_rfl
end Go.Proofs.YtmbiojpcidccjaaDoor
/- The walk of SyntaxDiffers. -/
namespace Go.Proofs.YtmbiojpcidccjaaDoor
open Go.RowKit Go.Par Go.Sx
theorem text_dec {a b : Ex} (ha : checkE a = 0) (hb : checkE b = 0) : decide (a.text = b.text) = eqP (a = b) := by
  rw [Bool.eq_iff_iff, decide_eq_true_eq, eqP_iff]
  exact ⟨text_inj ha hb, fun e => by rw [e]⟩
set_option maxRecDepth 100000 in
theorem syntaxDiffers_any (H : Hp) (G : Gl H) (g : Gt H) (l m : List Nd) (v u : Value) (hl : Rep H (.seq 5 (l.map dNd)) [v]) (hm : Rep H (.seq 5 (m.map dNd)) [u]) (w : World) (hA : Agr H w) :
    Calls Tryd.prog 5 #[v, u] w fun r w' => r = .returned (.bool true) ∧ Ext w w' := by
  refine Sx.enter (H := H) Tryd.func5 rfl Tryd.ntmps5 rfl hA ?_
  refine .sq <| .rg <| .a rfl rfl <| .nl <| .tN <| .sq <| .sq <| .rg <| .yv (.call Fx.call6 rfl (fun W t => awake_any H G g W t.agr)) rfl <| .yv (.not rfl) rfl <|
    .nl <| .tN <| .cF rfl <| .sk <| .tN <| .sq <| .rg <| .m rfl rfl <| .ct (X := List Value) Fx.call7 rfl (fun W t => buildR_any H l v hl W t.agr) rfl fun x1 H1 hc1 uH1 => ?_
  obtain ⟨e1, hx1, hg1⟩ := hc1
  refine .ct (X := List Value) Fx.call8 rfl (fun W t => expr_any e1 hg1.2 H1 x1 W hx1 t.agr) rfl fun y1 H2 hy1 uH2 => ?_
  have hm2 := hm.up (uH1.up.trans uH2.up)
  refine .m rfl rfl <| .ct (X := List Value) Fx.call7 rfl (fun W t => buildR_any H2 m u hm2 W t.agr) rfl fun x2 H3 hc2 uH3 => ?_
  obtain ⟨e2, hx2, hg2⟩ := hc2
  refine .ct (X := List Value) Fx.call8 rfl (fun W t => expr_any e2 hg2.2 H3 x2 W hx2 t.agr) rfl fun y2 H4 hy2 uH4 => ?_
  have hy1b := hy1.up (uH3.up.trans uH4.up)
  have v4 := (uH1.up.trans uH2.up).trans (uH3.up.trans uH4.up)
  refine .al Fx.zero31 rfl fun b5 => .al Fx.zero31 rfl fun b6 => .sV (.tail <| .head) rfl rfl Fx.size31 (ex_len hy1) hy1.one rfl <| .sV .head rfl rfl Fx.size31 (ex_len hy2) hy2.one rfl <|
    .nl <| .tN <| .sq <| .sq <| .rg <| .yv (.loadW rfl Fx.agg31 (.tail _ <| .head _) (ex_len hy1)) rfl <| .yv (.call Fx.call11 rfl (fun W t => checkExpr_any H4 (G.up v4) e1 y1 hy1b (by have := hg1.1; omega) W t.agr)) rfl <|
    .yv (.neq rfl rfl) rfl <| .m rfl rfl <| .b2 (fun h18 => ?_) (fun h18 => ?_)
  · skip
    refine .gF rfl rfl rfl rfl <| .gF rfl rfl rfl rfl <| .gF rfl rfl rfl rfl <| .yv (.pickT rfl rfl) rfl <| .nl <| .tN <| .cT rfl <| .sq <| .rg <| .a rfl rfl <| .nl <|
      .tN <| .rt <| .tR <| ?_
    exact Sx.ret1 (.inl rfl) rfl (.tmp rfl) fun W t => ⟨rfl, (((uH1.trans uH2).trans (uH3.trans uH4)).grow t).ext⟩
  · try simp only [decide_eq_false_iff_not] at h18
    have k1 : checkE e1 = 0 := by omega
    refine .gd rfl rfl <| .yv (.loadW rfl Fx.agg31 (.head _) (ex_len hy2)) rfl <| .gd rfl rfl <| .yv (.call Fx.call11 rfl (fun W t => checkExpr_any H4 (G.up v4) e2 y2 hy2 (by have := hg2.1; omega) W t.agr)) rfl <|
      .gd rfl rfl <| .yv (.neq rfl rfl) rfl <| .yv (.pickF rfl rfl) rfl <| .nl <| .tN <| .cd rfl (fun h22 => ?_) (fun h22 => ?_)
    · skip
      refine .sq <| .rg <| .a rfl rfl <| .nl <| .tN <| .rt <| .tR <| ?_
      exact Sx.ret1 (.inl rfl) rfl (.tmp rfl) fun W t => ⟨rfl, (((uH1.trans uH2).trans (uH3.trans uH4)).grow t).ext⟩
    · try simp only [decide_eq_false_iff_not] at h22
      have k2 : checkE e2 = 0 := by omega
      refine .sk <| .tN <| .sq <| .fl (trip := [(_, _, _), (_, _, _), (_, _, _), (_, _, _), (_, _, _), (_, _, _), (_, _, _), (_, _, _), (_, _, _)]) 9 [(0, 0), (1, 0), (2, 0), (3, 0), (4, 0), (5, 0), (6, 0), (7, 0), (8, 0)] (by kernel_rfl) (by kernel_rfl) rfl <|
        .yv (.loadW rfl Fx.agg31 (.tail _ <| .head _) (ex_len hy1)) rfl <| .yv (.call Fx.call12 rfl (fun W t => printE_ok (G.up v4) (g.up v4) hy1b (by have := hg1.1; omega) k1 W t.agr)) rfl <|
        .yv (.loadW rfl Fx.agg31 (.head _) (ex_len hy2)) rfl <| .yv (.call Fx.call12 rfl (fun W t => printE_ok (G.up v4) (g.up v4) hy2 (by have := hg2.1; omega) k2 W t.agr)) rfl <|
        .yv (.eqS rfl rfl) rfl <| .yv (.loadW rfl Fx.agg31 (.tail _ <| .head _) (ex_len hy1)) rfl <| .yv (.loadW rfl Fx.agg31 (.head _) (ex_len hy2)) rfl <| .yv (.call Fx.call21 rfl (fun W t => equalExpr_any H4 e1 e2 y1 y2 W hy1b hy2 t.agr)) rfl <|
        .yv (.cast (v' := .bool true) (.eqlB Fx.bool4 rfl rfl) (by rw [text_dec k1 k2]; simp)) rfl <| .fn (tl := [_]) rfl <| .a rfl rfl <| .nl <| .tN <| .rt <| ?_
      exact Sx.ret1 (.inl rfl) rfl (.tmp rfl) fun W t => ⟨rfl, (((uH1.trans uH2).trans (uH3.trans uH4)).grow t).ext⟩
end Go.Proofs.YtmbiojpcidccjaaDoor
/- Arguments and package variables: what a walk may know of them, out of the data that a statement tells. -/
namespace Go.Sx
open Go.RowKit Go.Par
inductive Ty where
  | int (k : IntKind)
  | bool
  | strg
  | seq (τ : Ty)
  | str (fs : List Ty)
  | arr (n : Nat) (τ : Ty)
mutual
def Ty.cells : Ty → Nat
  | .int _ => 1
  | .bool => 1
  | .strg => 1
  | .seq _ => 1
  | .str fs => Ty.cellsL fs
  | .arr n τ => n * Ty.cells τ
def Ty.cellsL : List Ty → Nat
  | [] => 0
  | τ :: r => Ty.cells τ + Ty.cellsL r
end
mutual
def Ty.at (P : Program) : Ty → TypeId → Bool
  | .int k, t => match P.underlying t with | some (.int k') => decide (k' = k) | _ => false
  | .bool, t => match P.underlying t with | some .bool => true | _ => false
  | .strg, t => match P.underlying t with | some .string => true | _ => false
  | .seq τ, t => match P.underlying t with | some (.slice e) => Ty.at P τ e && decide (P.cellsOf e = Ty.cells τ) && decide (0 < Ty.cells τ) | _ => false
  | .str fs, t => match P.underlying t with | some (.struct g) => decide (P.cellsOf t = Ty.cellsL fs) && Ty.atL P fs g.toList 0 | _ => false
  | .arr n τ, t => match P.underlying t with | some (.array m e) => decide (m = n) && Ty.at P τ e && decide (P.cellsOf e = Ty.cells τ) && decide (P.cellsOf t = n * Ty.cells τ) | _ => false
def Ty.atL (P : Program) : List Ty → List Field → Nat → Bool
  | [], [], _ => true
  | τ :: r, f :: g, o => Ty.at P τ f.type && decide (f.offset = o) && decide (P.cellsOf f.type = Ty.cells τ) && Ty.atL P r g (o + Ty.cells τ)
  | _, _, _ => false
end
mutual
def Ty.has : Ty → D → Prop
  | .int k, d => ∃ n, d = .val (.int k n) ∧ (Lit.int k n).wf = true
  | .bool, d => ∃ b, d = .val (.bool b)
  | .strg, _ => False
  | .seq τ, d => ∃ ds, d = .seq (Ty.cells τ) ds ∧ ∀ x ∈ ds, Ty.has τ x
  | .str fs, d => ∃ ds, d = .str ds ∧ Ty.hasL fs ds
  | .arr _ _, _ => False
def Ty.hasL : List Ty → List D → Prop
  | [], ds => ds = []
  | τ :: r, ds => ∃ d q, ds = d :: q ∧ Ty.has τ d ∧ Ty.hasL r q
end
mutual
/-- Neither strings nor arrays. -/
def Ty.opn : Ty → Bool
  | .int _ => true
  | .bool => true
  | .strg => false
  | .seq τ => Ty.opn τ
  | .str fs => Ty.opnL fs
  | .arr _ _ => false
def Ty.opnL : List Ty → Bool
  | [] => true
  | τ :: r => Ty.opn τ && Ty.opnL r
end
mutual
/-- No slices. -/
def Ty.pln : Ty → Bool
  | .int _ => true
  | .bool => true
  | .strg => true
  | .seq _ => false
  | .str fs => Ty.plnL fs
  | .arr _ τ => Ty.pln τ
def Ty.plnL : List Ty → Bool
  | [] => true
  | τ :: r => Ty.pln τ && Ty.plnL r
end
/-- The whole memory of a world. -/
def allH (W : World) : Hp := fun b => W.heap[b]?
theorem allH_agr (W : World) : Agr (allH W) W := fun _ _ h => h
theorem cell_block {W : World} {a : Addr} {v : Value} (h : W.cell? a = some v) : ∃ cs t m, W.heap[a.block]? = some (.cells cs t m) ∧ a.spot = Option.none ∧ cs[a.off]? = some v := by
  unfold World.cell? at h
  split at h
  · rename_i cs t m e
    split at h
    · cases h
    · rename_i hs
      exact ⟨cs, t, m, e, by simpa using hs, h⟩
  · cases h
theorem add_add (a : Addr) (x y : Nat) : (a.add x).add y = a.add (x + y) := by
  by_cases hx : x = 0
  · subst hx; simp [Addr.add]
  · by_cases hy : y = 0
    · subst hy; simp [Addr.add]
    · simp [Addr.add, hx, hy, Nat.add_assoc]
section
variable {H : Type} {enc : TypeId × Value → H} {P : Program} {base : Nat} {sp : Nat → Bool} {held : Bool}
mutual
theorem Ty.opens (W : World) : ∀ (τ : Ty) (t : TypeId) (fuel : Nat) (cs : List Value) (x : DataW H × List MemPlace), Ty.at P τ t = true → Ty.opn τ = true → DataW.trod enc P W base sp held fuel t cs = some x → ∃ d, Ty.has τ d ∧ Rep (allH W) d cs
  | .int k, t, fuel, cs, x, ha, _, h => by
    unfold Ty.at at ha
    split at ha
    · rename_i k' hu
      obtain rfl : k' = k := by simpa using ha
      obtain ⟨n, rfl, _, hw⟩ := DataW.trod_int hu h
      refine ⟨.val (.int k' n), ?_, ?_⟩
      · unfold Ty.has; exact ⟨n, rfl, hw⟩
      · unfold Rep; exact ⟨rfl, rfl, trivial⟩
    · cases ha
  | .bool, t, fuel, cs, x, ha, _, h => by
    unfold Ty.at at ha
    split at ha
    · rename_i hu
      obtain ⟨b, rfl, _⟩ := DataW.trod_bool hu h
      refine ⟨.val (.bool b), ?_, ?_⟩
      · unfold Ty.has; exact ⟨b, rfl⟩
      · unfold Rep; exact ⟨rfl, rfl, trivial⟩
    · cases ha
  | .strg, _, _, _, _, _, ho, _ => by simp [Ty.opn] at ho
  | .arr _ _, _, _, _, _, _, ho, _ => by simp [Ty.opn] at ho
  | .str fs, t, fuel, cs, x, ha, ho, h => by
    unfold Ty.at at ha
    split at ha
    · rename_i g hu
      simp only [Bool.and_eq_true, decide_eq_true_eq] at ha
      unfold Ty.opn at ho
      obtain ⟨xs, n, _, rfl, hl, hlen, hf⟩ := DataW.trod_struct hu h
      obtain ⟨ds, h1, h2⟩ := Ty.opensL W fs g.toList 0 n cs ha.2 ho (by rw [hl, ha.1]; omega) (fun i f hi => by
        have hi2 : g[i]? = some f := by simpa using hi
        have := hf i f hi2
        have hlt : i < xs.length := by rw [hlen]; exact (Array.getElem?_eq_some_iff.1 hi2).1
        rw [List.getElem?_eq_getElem hlt] at this
        exact ⟨_, this⟩)
      refine ⟨.str ds, ?_, ?_⟩
      · unfold Ty.has; exact ⟨ds, rfl, h1⟩
      · unfold Rep; simpa using h2
    · cases ha
  | .seq τ, t, fuel, cs, x, ha, ho, h => by
    unfold Ty.at at ha
    split at ha
    · rename_i e hu
      simp only [Bool.and_eq_true, decide_eq_true_eq] at ha
      obtain ⟨⟨ha, hz⟩, h0⟩ := ha
      unfold Ty.opn at ho
      rcases Go.Deep.open_slice hu h with ⟨rfl, -⟩ | ⟨a, len, cap, m, n, D, Pl, rfl, -, hl, hm, hmm, -, hi⟩
      · refine ⟨.seq (Ty.cells τ) [], ?_, .empty (by simp [maxLen])⟩
        unfold Ty.has; exact ⟨[], rfl, by simp⟩
      have hlm : len ≤ m := by rw [hmm]; split <;> omega
      have key : ∀ q, q ≤ len → ∃ ds l, ds.length = q ∧ (∀ x ∈ ds, Ty.has τ x) ∧ RepZ (allH W) (Ty.cells τ) ds l ∧ l.length = q * Ty.cells τ ∧ ∀ (j : Nat) u, l[j]? = some u → W.cell? (a.add j) = some u := by
        intro q
        induction q with
        | zero => intro _; exact ⟨[], [], rfl, by simp, RepZ.nil, by simp, by simp⟩
        | succ q ih =>
          intro hq
          obtain ⟨ds, l, h1, h2, h3, h4, h5⟩ := ih (by omega)
          obtain ⟨cs', hc, ht⟩ := hi q (by omega)
          rw [hz] at hc
          obtain ⟨_, hcl, hat⟩ := World.cells?_some hc
          obtain ⟨d, hd, hr⟩ := Ty.opens W τ e n cs' _ ha ho ht
          refine ⟨ds ++ [d], l ++ cs', by simp [h1], ?_, h3.snoc hr hcl, by rw [List.length_append, h4, hcl, Nat.succ_mul], ?_⟩
          · intro x hx
            rcases List.mem_append.1 hx with hx | hx
            · exact h2 x hx
            · rw [List.mem_singleton.1 hx]; exact hd
          · intro j u hj
            by_cases hjl : j < l.length
            · rw [List.getElem?_append_left hjl] at hj; exact h5 j u hj
            · rw [List.getElem?_append_right (by omega)] at hj
              have hjc := (List.getElem?_eq_some_iff.1 hj).1
              have := hat (j - l.length) (by omega)
              rw [hj] at this
              have h9 : q * Ty.cells τ + (j - l.length) = j := by omega
              have h10 : (a.add (q * Ty.cells τ)).add (j - l.length) = a.add j := by rw [add_add, h9]
              rw [← h10]
              exact this
      obtain ⟨ds, l, h1, h2, h3, h4, h5⟩ := key len (Nat.le_refl _)
      refine ⟨.seq (Ty.cells τ) ds, ?_, ?_⟩
      · unfold Ty.has; exact ⟨ds, rfl, h2⟩
      by_cases hl0 : len = 0
      · subst hl0
        obtain rfl := List.eq_nil_of_length_eq_zero h1
        exact .empty hm
      · have hlp : 0 < l.length := by rw [h4]; exact Nat.mul_pos (by omega) h0
        have hc0 := h5 0 _ (List.getElem?_eq_getElem hlp)
        rw [show a.add 0 = a by simp [Addr.add]] at hc0
        obtain ⟨arr, t', mk, hb, hs, _⟩ := cell_block hc0
        obtain ⟨ab, ao, ap⟩ := a
        simp only at hs hb
        subst hs
        refine .mk ⟨arr, t', mk, hb, fun j u hu => ?_⟩ h3 h1 hl hm
        have h6 := h5 j u hu
        rw [Addr.add_lit] at h6
        obtain ⟨arr', t'', mk', hb', _, h7⟩ := cell_block h6
        have e2 := Option.some.inj (hb.symm.trans hb')
        injection e2 with e3
        subst e3
        exact h7
    · cases ha
theorem Ty.opensL (W : World) : ∀ (fs : List Ty) (g : List Field) (o n : Nat) (cs : List Value), Ty.atL P fs g o = true → Ty.opnL fs = true → cs.length = o + Ty.cellsL fs →
    (∀ (i : Nat) f, g[i]? = some f → ∃ y, DataW.trod enc P W base sp held n f.type ((cs.drop f.offset).take (P.cellsOf f.type)) = some y) → ∃ ds, Ty.hasL fs ds ∧ RepL (allH W) ds (cs.drop o)
  | [], [], o, n, cs, _, _, hl, _ => by
    refine ⟨[], by unfold Ty.hasL; rfl, ?_⟩
    unfold RepL
    exact List.drop_of_length_le (by simp only [Ty.cellsL] at hl; omega)
  | [], _ :: _, _, _, _, ha, _, _, _ => by simp [Ty.atL] at ha
  | _ :: _, [], _, _, _, ha, _, _, _ => by simp [Ty.atL] at ha
  | τ :: r, f :: g, o, n, cs, ha, ho, hl, hf => by
    unfold Ty.atL at ha
    unfold Ty.opnL at ho
    simp only [Bool.and_eq_true, decide_eq_true_eq] at ha ho
    obtain ⟨⟨⟨a1, a2⟩, a3⟩, a4⟩ := ha
    obtain ⟨y, hy⟩ := hf 0 f rfl
    rw [a2, a3] at hy
    obtain ⟨d, h1, h2⟩ := Ty.opens W τ f.type n _ y a1 ho.1 hy
    unfold Ty.cellsL at hl
    obtain ⟨ds, h3, h4⟩ := Ty.opensL W r g (o + Ty.cells τ) n cs a4 ho.2 (by omega) (fun i f' hi => hf (i + 1) f' (by simpa using hi))
    refine ⟨d :: ds, by unfold Ty.hasL; exact ⟨d, ds, rfl, h1, h3⟩, ?_⟩
    unfold RepL
    exact ⟨_, _, by rw [← List.drop_drop, List.take_append_drop], h2, h4⟩
end
mutual
/-- The cells of plain data. -/
def flatD : DataW H → List Value
  | .lit (.int k n) => [.int k n]
  | .lit (.bool b) => [.bool b]
  | .lit (.string l) => [.string ⟨l.toArray⟩]
  | .agg ps => flatDs ps
  | _ => []
def flatDs : List (DataW H) → List Value
  | [] => []
  | d :: r => flatD d ++ flatDs r
end
mutual
theorem Ty.flat (W : World) : ∀ (τ : Ty) (t : TypeId) (fuel : Nat) (cs : List Value) (x : DataW H × List MemPlace), Ty.at P τ t = true → Ty.pln τ = true → DataW.trod enc P W base sp held fuel t cs = some x → cs = flatD x.1
  | .int k, t, fuel, cs, x, ha, _, h => by
    unfold Ty.at at ha
    split at ha
    · rename_i k' hu
      obtain ⟨n, rfl, rfl, hw⟩ := DataW.trod_int hu h
      simp only [flatD]
    · cases ha
  | .bool, t, fuel, cs, x, ha, _, h => by
    unfold Ty.at at ha
    split at ha
    · rename_i hu
      obtain ⟨b, rfl, rfl⟩ := DataW.trod_bool hu h
      simp only [flatD]
    · cases ha
  | .strg, t, fuel, cs, x, ha, _, h => by
    unfold Ty.at at ha
    split at ha
    · rename_i hu
      obtain ⟨s, rfl, rfl, _⟩ := DataW.trod_string hu h
      simp only [flatD]
    · cases ha
  | .seq _, _, _, _, _, _, ho, _ => by simp [Ty.pln] at ho
  | .str fs, t, fuel, cs, x, ha, ho, h => by
    unfold Ty.at at ha
    split at ha
    · rename_i g hu
      simp only [Bool.and_eq_true, decide_eq_true_eq] at ha
      unfold Ty.pln at ho
      obtain ⟨xs, n, _, rfl, hl, hlen, hf⟩ := DataW.trod_struct hu h
      have h2 := Ty.flatL W fs g.toList 0 n cs xs ha.2 ho (by rw [hl, ha.1]; omega) (by simpa using hlen) (fun i f hi => hf i f (by simpa using hi))
      simpa [flatD] using h2
    · cases ha
  | .arr k τ, t, fuel, cs, x, ha, ho, h => by
    unfold Ty.at at ha
    split at ha
    · rename_i m e hu
      simp only [Bool.and_eq_true, decide_eq_true_eq] at ha
      obtain ⟨⟨⟨hm, ha⟩, hz⟩, hct⟩ := ha
      subst hm
      unfold Ty.pln at ho
      obtain ⟨xs, n, _, rfl, hl, hlen, hf⟩ := DataW.trod_array hu h
      have key : ∀ (xs : List (DataW H × List MemPlace)) (cs : List Value), cs.length = xs.length * Ty.cells τ → (∀ i, i < xs.length → DataW.trod enc P W base sp held n e ((cs.drop (i * Ty.cells τ)).take (Ty.cells τ)) = xs[i]?) → cs = flatDs (xs.map (·.1)) := by
        intro xs
        induction xs with
        | nil => intro cs hc _; simp at hc; simp [hc, flatDs]
        | cons y r ih =>
          intro cs hc hi
          have h0 := hi 0 (by simp)
          simp only [Nat.zero_mul, List.drop_zero, List.getElem?_cons_zero] at h0
          have e0 := Ty.flat W τ e n _ y ha ho h0
          have e1 := ih (cs.drop (Ty.cells τ)) (by rw [List.length_drop, hc, List.length_cons, Nat.succ_mul]; omega) (fun i hlt => by
            have := hi (i + 1) (by simp; omega)
            rw [List.getElem?_cons_succ] at this
            rw [← this, List.drop_drop, show Ty.cells τ + i * Ty.cells τ = (i + 1) * Ty.cells τ by rw [Nat.succ_mul]; omega])
          simp only [List.map_cons, flatDs]
          rw [← e0, ← e1, List.take_append_drop]
      have h2 := key xs cs (by rw [hl, hct, hlen]) (fun i hlt => by
        have := hf i (by omega)
        rw [hz] at this
        exact this)
      simpa [flatD] using h2
    · cases ha
theorem Ty.flatL (W : World) : ∀ (fs : List Ty) (g : List Field) (o n : Nat) (cs : List Value) (xs : List (DataW H × List MemPlace)), Ty.atL P fs g o = true → Ty.plnL fs = true → cs.length = o + Ty.cellsL fs → xs.length = g.length →
    (∀ (i : Nat) f, g[i]? = some f → DataW.trod enc P W base sp held n f.type ((cs.drop f.offset).take (P.cellsOf f.type)) = xs[i]?) → cs.drop o = flatDs (xs.map (·.1))
  | [], [], o, n, cs, xs, _, _, hl, hx, _ => by
    obtain rfl := List.eq_nil_of_length_eq_zero hx
    simp only [List.map_nil, flatDs]
    exact List.drop_of_length_le (by simp only [Ty.cellsL] at hl; omega)
  | [], _ :: _, _, _, _, _, ha, _, _, _, _ => by simp [Ty.atL] at ha
  | _ :: _, [], _, _, _, _, ha, _, _, _, _ => by simp [Ty.atL] at ha
  | τ :: r, f :: g, o, n, cs, [], ha, ho, hl, hx, hf => by simp at hx
  | τ :: r, f :: g, o, n, cs, y :: xs, ha, ho, hl, hx, hf => by
    unfold Ty.atL at ha
    unfold Ty.plnL at ho
    simp only [Bool.and_eq_true, decide_eq_true_eq] at ha ho
    obtain ⟨⟨⟨a1, a2⟩, a3⟩, a4⟩ := ha
    have hy := hf 0 f rfl
    rw [a2, a3, List.getElem?_cons_zero] at hy
    have e0 := Ty.flat W τ f.type n _ y a1 ho.1 hy
    unfold Ty.cellsL at hl
    have e1 := Ty.flatL W r g (o + Ty.cells τ) n cs xs a4 ho.2 (by omega) (by simpa using hx) (fun i f' hi => by
      have := hf (i + 1) f' (by simpa using hi)
      rw [List.getElem?_cons_succ] at this
      exact this)
    simp only [List.map_cons, flatDs]
    rw [← e0, ← e1, ← List.drop_drop, List.take_append_drop]
end
end
/-- A package variable of plain data that the statement lays. -/
theorem laid_mem {P : Program} {W : World} {name : String} {dat : DataW Unit} {rest : List (String × DataW Unit)} {g : Nat} {t : TypeId} (τ : Ty) (cs : List Value)
    (hg : P.globalNamed name = some g) (hty : (P.globals[g]?).map (·.type) = some t) (ha : Ty.at P τ t = true) (hp : Ty.pln τ = true) (hc : flatD dat = cs) (h : laidMet P ((name, dat) :: rest) W) : MemAt (allH W) g 0 cs := by
  obtain ⟨ps, ⟨g', t', cs', fuel, p, q, hg', ht', hvar, hd, _, _⟩, _⟩ := h
  obtain rfl := Option.some.inj (hg.symm.trans hg')
  obtain rfl := Option.some.inj (hty.symm.trans ht')
  have e := Ty.flat W τ t fuel cs'.toList _ ha hp hd
  dsimp only at e
  rw [hc] at e
  unfold World.var? at hvar
  rw [hg] at hvar
  simp only [Option.bind_some] at hvar
  split at hvar
  · rename_i arr T m hb
    refine ⟨arr, T, m, hb, fun j u hu => ?_⟩
    obtain rfl := Option.some.inj hvar
    rw [Nat.zero_add]
    rw [← e] at hu
    simpa using hu
  · cases hvar
theorem list_of {α β : Type} {f : α → β} : ∀ {ds : List β}, (∀ x ∈ ds, ∃ y, x = f y) → ∃ l : List α, ds = l.map f
  | [], _ => ⟨[], rfl⟩
  | d :: r, h => by
    obtain ⟨y, rfl⟩ := h d (.head _)
    obtain ⟨l, rfl⟩ := list_of (ds := r) fun x hx => h x (.tail _ hx)
    exact ⟨y :: l, rfl⟩
theorem has_u8 {n : Int} (h : (Lit.int .u8 n).wf = true) : ∃ x : UInt8, n = x.toNat := by
  have e1 : IntKind.u8.min = 0 := rfl
  have e2 : IntKind.u8.max = 255 := rfl
  simp only [Lit.wf, e1, e2, Bool.and_eq_true, decide_eq_true_eq] at h
  exact ⟨UInt8.ofNat n.toNat, by simp [UInt8.toNat_ofNat']; omega⟩
theorem has_i64 {n : Int} (h : (Lit.int .i64 n).wf = true) : ∃ x : Int64, n = x.toInt := by
  have e1 : IntKind.i64.min = -9223372036854775808 := rfl
  have e2 : IntKind.i64.max = 9223372036854775807 := rfl
  simp only [Lit.wf, e1, e2, Bool.and_eq_true, decide_eq_true_eq] at h
  exact ⟨Int64.ofInt n, (Int64.toInt_ofInt_of_le (by simpa using h.1) (by have := h.2; omega)).symm⟩
end Go.Sx
/- What every row of this seat needs: the wrap that keeps the world's shape beside what the row lists, the witness's world, and what the walks are told of the package variables. -/
namespace Go.Proofs.YtmbiojpcidccjaaDoor
open Go.RowKit Go.Par Go.Sx
variable {H : Type} {enc : TypeId × Value → H}
/-- The wrap: what the row lists, and the world's shape. -/
theorem wrap {a : Assume} {C : Checked} {os : Os} {f : FuncId} {fn : Func} {s : ChangeSpec} {conds : List PathCond} {apart fresh handsOn again : Bool} {X : World → Array Value → Prop}
    (hX : ∀ (w w' : World) (args : Array Value), w.heap = w'.heap → X w args → X w' args)
    (own : ownKnob C.prog.godebug = none) (started : os.Started) (noInit : C.prog.inits.idxOf? f = none) (hfn : C.prog.funcs[f]? = some fn)
    (witness : ∃ (w : World) (tape : Tape) (i : Input), w.os = os ∧ (w.forCall tape i).Shaped C.prog ∧ i.vars = [] ∧ Input.okWide C.prog (w.forCall tape i) .any w.heap.size f i ∧
      ((s.pre enc C.prog fn conds apart (w.forCall tape i).memory i.args ∧ X (w.forCall tape i).memory i.args) ∧ sizedMet enc C.prog fn (OpenSpec.ofChange s) apart (w.forCall tape i).memory i.args) ∧ a.holds C.prog (lone (Frame.enter C.prog f i.args .normal) [] (w.forCall tape i)))
    (contract : ∀ (W : World) (base : Nat) (args : Array Value) (ds gs : List (DataW H)) (before : List MemPlace),
      (∀ (j : Nat) t v, fn.params[j]? = some t → args[j]? = some v → Value.okWide C.prog W .any base t v) →
      DataW.Whole enc C.prog fn.params.toList s.vars apart W args.toList ds gs before →
      X W args → W.ShapedOpen C.prog →
      Calls C.prog f args W fun e W' => ∃ v, e = .returned v ∧ s.post enc C.prog fn apart fresh handsOn again W args v W') :
    ReturnsInHanded a C os f .any (fun w args => (s.pre enc C.prog fn conds apart w args ∧ X w args) ∧ sizedMet enc C.prog fn (OpenSpec.ofChange s) apart w args) (s.post enc C.prog fn apart fresh handsOn again) := by
  refine returnsInHanded_of_calls own started noInit witness ?_
  intro w tape i _ hsh _ hok hpre _
  obtain ⟨_, _, _, fn', hfn', _, _, _, _, hval⟩ := hok
  have e : fn' = fn := Option.some.inj (hfn'.symm.trans hfn)
  subst e
  obtain ⟨⟨⟨ds, gs, before, hw, _⟩, hx⟩, _⟩ := hpre
  have hw' := DataW.Whole.of_heap (w' := w.forCall tape i) (by rfl) hw
  refine (contract (w.forCall tape i) w.heap.size i.args ds gs before hval hw' (hX _ _ _ (by rfl) hx) hsh).mono fun e W' ⟨v, he, hp⟩ => ?_
  subst he
  exact ChangeSpec.post_blind hp

theorem own : ownKnob Tryd.prog.godebug = none := by kernel_rfl
/-- What the rows of this seat list. -/
def laids : List (String × DataW Unit) := [("math/bits.deBruijn32tab", Rows.laid_math_bits_deBruijn32tab), ("math/bits.deBruijn64tab", Rows.laid_math_bits_deBruijn64tab), ("internal/strconv.uint64pow10", Rows.laid_internal_strconv_uint64pow10), ("rootcause/lexer.words", Rows.laid_rootcause_lexer_words), ("rootcause/lexer.symbols", Rows.laid_rootcause_lexer_symbols), ("rootcause/syntax.shapes", Rows.laid_rootcause_syntax_shapes), ("rootcause/syntax.forms", Rows.laid_rootcause_syntax_forms)]
theorem gTab : Tryd.prog.globalNamed "internal/strconv.uint64pow10" = some 4 := by kernel_rfl
theorem gTabT : (Tryd.prog.globals[4]?).map (·.type) = some 204 := by kernel_rfl
theorem cellsTab : Tryd.prog.cellsOf 204 = 20 := by kernel_rfl
theorem cellsTabE : Tryd.prog.cellsOf 146 = 1 := by kernel_rfl
theorem tabEq : (Rows.laid_internal_strconv_uint64pow10 : DataW Unit) = Lib.tabData .u64 Lib.pow10Tab := by kernel_rfl
theorem gt_of {W : World} (h : laidMet Tryd.prog laids W) : Gt (allH W) := by
  intro W' hA
  have h1 : Lib.TabIs Tryd.prog W "internal/strconv.uint64pow10" .u64 Lib.pow10Tab := Lib.tabIs_of_head gTab gTabT Tryd.underlying204 Tryd.underlying146 cellsTabE cellsTab (tabEq ▸ h.tail.tail)
  unfold Lib.TabIs World.var? at *
  rw [gTab] at *
  simp only [Option.bind_some] at *
  split at h1
  · rename_i cs T m hb
    rw [hA 4 _ hb]
    exact h1
  · cases h1
theorem gl_of {W : World} (h : laidMet Tryd.prog laids W) : Gl (allH W) :=
  ⟨laid_mem (t := 168) (.arr 24 (.str [.int .i64, .bool, .int .i64, .strg])) _ (by kernel_rfl) (by kernel_rfl) (by kernel_rfl) (by kernel_rfl) (by kernel_rfl) h.tail.tail.tail.tail.tail,
   laid_mem (t := 196) (.arr 11 (.str [.bool, .bool, .int .i64, .int .i64, .bool, .bool])) _ (by kernel_rfl) (by kernel_rfl) (by kernel_rfl) (by kernel_rfl) (by kernel_rfl) h.tail.tail.tail.tail.tail.tail,
   laid_mem (t := 202) (.arr 39 .strg) _ (by kernel_rfl) (by kernel_rfl) (by kernel_rfl) (by kernel_rfl) (by kernel_rfl) h.tail.tail.tail,
   laid_mem (t := 188) (.arr 25 .strg) _ (by kernel_rfl) (by kernel_rfl) (by kernel_rfl) (by kernel_rfl) (by kernel_rfl) h.tail.tail.tail.tail⟩
/-- The witness's world meets the list. -/
theorem laid_met (os : Os) (args : Array Value) : laidMet Tryd.prog laids ((World.laidAll Tryd.prog os laids).forCall (fun _ _ => 0) ⟨#[], args, []⟩).memory :=
  laidMet_laidAll _ (by kernel_rfl) (by kernel_rfl)
theorem laid_shaped (os : Os) (args : Array Value) : ((World.laidAll Tryd.prog os laids).forCall (fun _ _ => 0) ⟨#[], args, []⟩).Shaped Tryd.prog :=
  World.shaped_of_ZipB (by kernel_rfl) (by kernel_rfl)
theorem ext_kept {W W' : World} (h : Ext W W') : ∀ may, W.keptBut W' may := fun may => (Ext.below h).frame may
theorem laidOut : laidOutB Tryd.prog = true := by kernel_rfl
end Go.Proofs.YtmbiojpcidccjaaDoor
