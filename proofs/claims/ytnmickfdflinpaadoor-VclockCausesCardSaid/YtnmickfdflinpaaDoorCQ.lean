/- Clocks, sets and steps in memory. -/
import Derived.Test.YtnmickfdflinpaaDoorFI
namespace Go.Proofs.YtnmickfdflinpaaDoor
open Go.RowKit Go.Par Go.Sx
def nowL (now : Nat → Nat → Int) : List Value := ckL (now 0) ++ (ckL (now 1) ++ (ckL (now 2) ++ ckL (now 3)))
def pastL (past : Nat → Nat) : List Value := [.int .u64 (past 0 : Nat), .int .u64 (past 1 : Nat), .int .u64 (past 2 : Nat), .int .u64 (past 3 : Nat)]
def clL (N : Nat) (C : Nat → Nat → Int) : List Value := (List.range N).flatMap fun j => ckL (C j)
def psL (N : Nat) (P : Nat → Nat) : List Value := (List.range N).map fun j => Value.int .u64 (P j : Nat)
theorem nowL_len (now : Nat → Nat → Int) : (nowL now).length = 64 := rfl
theorem nowL_at (now : Nat → Nat → Int) {p : Nat} (hp : p < 4) : ∀ (j : Nat) (u : Value), (ckL (now p))[j]? = some u → (nowL now)[p * 16 + j]? = some u := by
  intro j u h
  have hj : j < 16 := by have := (List.getElem?_eq_some_iff.1 h).1; rwa [ck_length] at this
  unfold nowL
  rcases (show p = 0 ∨ p = 1 ∨ p = 2 ∨ p = 3 by omega) with rfl | rfl | rfl | rfl
  · rw [List.getElem?_append_left (by rw [ck_length]; omega), Nat.zero_mul, Nat.zero_add]; exact h
  · rw [List.getElem?_append_right (by rw [ck_length]; omega), List.getElem?_append_left (by rw [ck_length, ck_length]; omega), ck_length, show 1 * 16 + j - 16 = j by omega]; exact h
  · rw [List.getElem?_append_right (by rw [ck_length]; omega), List.getElem?_append_right (by rw [ck_length, ck_length]; omega), List.getElem?_append_left (by rw [ck_length, ck_length, ck_length]; omega), ck_length, ck_length, show 2 * 16 + j - 16 - 16 = j by omega]; exact h
  · rw [List.getElem?_append_right (by rw [ck_length]; omega), List.getElem?_append_right (by rw [ck_length, ck_length]; omega), List.getElem?_append_right (by rw [ck_length, ck_length, ck_length]; omega), ck_length, ck_length, ck_length, show 3 * 16 + j - 16 - 16 - 16 = j by omega]; exact h
theorem setsL_mid (vs : List Value) : ∀ (a b c : List Value), b.length = vs.length → setsL (a ++ (b ++ c)) a.length vs = a ++ (vs ++ c) := by
  induction vs with
  | nil => intro a b c h; obtain rfl : b = [] := List.eq_nil_of_length_eq_zero h; rfl
  | cons v r ih =>
    intro a b c h
    match b, h with
    | x :: b, h =>
      unfold setsL
      rw [List.set_append_right _ _ (Nat.le_refl _), Nat.sub_self, List.cons_append, List.set_cons_zero]
      have := ih (a ++ [v]) b c (by simpa using h)
      simpa using this
theorem setsL_at {a b c vs : List Value} {k : Nat} (hk : a.length = k) (h : b.length = vs.length) : setsL (a ++ (b ++ c)) k vs = a ++ (vs ++ c) := by
  subst hk; exact setsL_mid vs a b c h
theorem nowL_set (now : Nat → Nat → Int) {p : Nat} (hp : p < 4) (x : Nat → Int) : setsL (nowL now) (p * 16) (ckL x) = nowL (updN now p x) := by
  unfold nowL
  rcases (show p = 0 ∨ p = 1 ∨ p = 2 ∨ p = 3 by omega) with rfl | rfl | rfl | rfl
  · rw [updN_same, updN_ne now x (show 1 ≠ 0 by decide), updN_ne now x (show 2 ≠ 0 by decide), updN_ne now x (show 3 ≠ 0 by decide)]
    have h := setsL_at (a := []) (b := ckL (now 0)) (c := ckL (now 1) ++ (ckL (now 2) ++ ckL (now 3))) (vs := ckL x) (k := 0 * 16) rfl (by rw [ck_length, ck_length])
    rwa [List.nil_append, List.nil_append] at h
  · rw [updN_same, updN_ne now x (show 0 ≠ 1 by decide), updN_ne now x (show 2 ≠ 1 by decide), updN_ne now x (show 3 ≠ 1 by decide)]
    exact setsL_at (by rw [ck_length]) (by rw [ck_length, ck_length])
  · rw [updN_same, updN_ne now x (show 0 ≠ 2 by decide), updN_ne now x (show 1 ≠ 2 by decide), updN_ne now x (show 3 ≠ 2 by decide)]
    have h := setsL_at (a := ckL (now 0) ++ ckL (now 1)) (b := ckL (now 2)) (c := ckL (now 3)) (vs := ckL x) (k := 2 * 16) (by rw [List.length_append, ck_length, ck_length]) (by rw [ck_length, ck_length])
    rwa [List.append_assoc, List.append_assoc] at h
  · rw [updN_same, updN_ne now x (show 0 ≠ 3 by decide), updN_ne now x (show 1 ≠ 3 by decide), updN_ne now x (show 2 ≠ 3 by decide)]
    have := setsL_at (c := []) (k := 3 * 16) (a := (ckL (now 0) ++ ckL (now 1)) ++ ckL (now 2)) (b := ckL (now 3)) (vs := ckL x) (by rw [List.length_append, List.length_append, ck_length, ck_length, ck_length]) (by rw [ck_length, ck_length])
    rwa [List.append_nil, List.append_nil, List.append_assoc, List.append_assoc, List.append_assoc, List.append_assoc] at this
theorem pastL_at (past : Nat → Nat) {p : Nat} (hp : p < 4) : (pastL past)[p]? = some (.int .u64 (past p : Nat)) := by
  rcases (show p = 0 ∨ p = 1 ∨ p = 2 ∨ p = 3 by omega) with rfl | rfl | rfl | rfl <;> rfl
theorem pastL_set (past : Nat → Nat) {p : Nat} (hp : p < 4) (v : Nat) : (pastL past).set p (.int .u64 (v : Nat)) = pastL (updN past p v) := by
  rcases (show p = 0 ∨ p = 1 ∨ p = 2 ∨ p = 3 by omega) with rfl | rfl | rfl | rfl <;> rfl
theorem clL_len (N : Nat) (C : Nat → Nat → Int) : (clL N C).length = N * 16 := by
  induction N with
  | zero => rfl
  | succ N ih => unfold clL at *; rw [List.range_succ, List.flatMap_append, List.length_append, ih]; simp [ck_length]; omega
theorem clL_succ (N : Nat) (C : Nat → Nat → Int) : clL (N + 1) C = clL N C ++ ckL (C N) := by simp [clL, List.range_succ]
theorem clL_congr (N : Nat) {C D : Nat → Nat → Int} (h : ∀ j, j < N → C j = D j) : clL N C = clL N D := by
  unfold clL
  rw [List.flatMap_def, List.flatMap_def, List.map_congr_left fun j hj => by rw [h j (List.mem_range.1 hj)]]
theorem clL_new (N : Nat) (C : Nat → Nat → Int) (x : Nat → Int) : clL (N + 1) (updN C N x) = clL N C ++ ckL x := by
  rw [clL_succ, updN_same, clL_congr N fun j hj => updN_ne C x (show j ≠ N by omega)]
theorem clL_at (C : Nat → Nat → Int) {k : Nat} : ∀ {N : Nat}, k < N → ∀ (j : Nat) (u : Value), (ckL (C k))[j]? = some u → (clL N C)[k * 16 + j]? = some u := by
  intro N
  induction N with
  | zero => intro h; omega
  | succ N ih =>
    intro hk j u h
    have hj : j < 16 := by have := (List.getElem?_eq_some_iff.1 h).1; rwa [ck_length] at this
    rw [clL_succ]
    by_cases e : k = N
    · subst e
      rw [List.getElem?_append_right (by rw [clL_len]; omega), clL_len, show k * 16 + j - k * 16 = j by omega]
      exact h
    · rw [List.getElem?_append_left (by rw [clL_len]; omega)]
      exact ih (by omega) j u h
theorem psL_len (N : Nat) (P : Nat → Nat) : (psL N P).length = N := by simp [psL]
theorem psL_new (N : Nat) (P : Nat → Nat) (v : Nat) : psL (N + 1) (updN P N v) = psL N P ++ [.int .u64 (v : Nat)] := by
  unfold psL
  rw [List.range_succ, List.map_append, List.map_congr_left fun j hj => by rw [updN_ne P v (show j ≠ N by have := List.mem_range.1 hj; omega)]]
  simp [updN_same]
theorem psL_at (P : Nat → Nat) {k N : Nat} (h : k < N) : (psL N P)[k]? = some (.int .u64 (P k : Nat)) := by simp [psL, h]
theorem rowCells {H : Hp} {w0 W : World} {bs : List Res} {e : TypeId} {size b n c : Nat} {xs : List Value} (s : St H w0 bs W) (hm : Res.row e size (.slice (some ⟨b, 0, none⟩) n c) n xs ∈ bs) {off j : Nat} {u : Value} (h : xs[off + j]? = some u) : W.cell? ((⟨b, off, none⟩ : Addr).add j) = some u := by
  have h1 := (s.own _ hm).1
  have h2 := World.ownsRow.cells h1 (g := b) rfl (off + j) u h
  rw [Addr.add_lit, Nat.zero_add] at h2
  rw [Addr.add_lit]; exact h2
theorem Yl.loadRow {P : Program} {L : Sl} {H : Hp} {w0 : World} {bs : List Res} {d : Option Tmp} {ty : TypeId} {pos : String} {aft : Array Edge} {g : Option (Nat × Bool)} {x : Operand} {T e : TypeId} {size b off n c m : Nat} {xs vs : List Value} (hp : ev L x = some (.pointer (some ⟨b, off, none⟩))) (hT : aggN P T = some (some m)) (hm : Res.row e size (.slice (some ⟨b, 0, none⟩) n c) n xs ∈ bs) (hl : vs.length = m) (hv : ∀ (j : Nat) u, vs[j]? = some u → xs[off + j]? = some u) : Yl P L H w0 bs ⟨d, .load T x, ty, pos, aft, g⟩ (.agg vs.toArray) := .of_run fun a W f s => by
  obtain ⟨h1, h2⟩ := run_isAgg_yes (W := W) hT
  subst hl
  have h3 : (loadCells ⟨b, off, none⟩ vs.length).run P W = .ok vs.toArray W := run_loadCells_list W _ vs fun j u e => rowCells s hm (hv j u e)
  unfold execOp
  simp only [f x _ hp, Instr.loadAt, Instr.sureAddr, loadVar, Sem.run_bind, Sem.run_pure, Result.andThen, h1, h2, if_true, h3]
theorem Yl.loadRow1 {P : Program} {L : Sl} {H : Hp} {w0 : World} {bs : List Res} {d : Option Tmp} {ty : TypeId} {pos : String} {aft : Array Edge} {g : Option (Nat × Bool)} {x : Operand} {T e : TypeId} {size b off n c : Nat} {xs : List Value} {v : Value} (hp : ev L x = some (.pointer (some ⟨b, off, none⟩))) (hT : aggN P T = some none) (hm : Res.row e size (.slice (some ⟨b, 0, none⟩) n c) n xs ∈ bs) (hv : xs[off]? = some v) : Yl P L H w0 bs ⟨d, .load T x, ty, pos, aft, g⟩ v := .of_run fun a W f s => by
  have h3 := rowCells (off := off) (j := 0) s hm (by rwa [Nat.add_zero])
  rw [Addr.add_lit, Nat.add_zero] at h3
  unfold execOp
  simp only [f x _ hp, Instr.loadAt, Instr.sureAddr, loadVar, Sem.run_bind, Sem.run_pure, Result.andThen, run_isAgg_no hT, Bool.false_eq_true, if_false]
  rw [show (Go.load ⟨b, off, none⟩).run P W = .ok v W from by simp [Go.load, Sem.run, h3]]
theorem or_nat (a b : Nat) (ha : a < 2 ^ 64) (hb : b < 2 ^ 64) : IntKind.u64.wrap (((BitVec.ofInt 64 (a : Int) ||| BitVec.ofInt 64 (b : Int)).toNat : Nat) : Int) = ((a ||| b : Nat) : Int) := by
  rw [BitVec.toNat_or, BitVec.ofInt_natCast, BitVec.ofInt_natCast, BitVec.toNat_ofNat, BitVec.toNat_ofNat, Nat.mod_eq_of_lt ha, Nat.mod_eq_of_lt hb]
  have := Nat.or_lt_two_pow ha hb
  exact wu64 (by omega) (by omega)
theorem and1_nat (a : Nat) (ha : a < 2 ^ 64) : IntKind.u64.wrap (((BitVec.ofInt 64 (a : Int) &&& BitVec.ofInt 64 1).toNat : Nat) : Int) = ((a % 2 : Nat) : Int) := by
  rw [BitVec.toNat_and, BitVec.ofInt_natCast, BitVec.toNat_ofNat, Nat.mod_eq_of_lt ha]
  have e : (BitVec.ofInt 64 1).toNat = 1 := by decide
  rw [e, Nat.and_one_is_mod]
  exact wu64 (by omega) (by omega)
theorem bit_div (S i : Nat) : (S / 2 ^ i % 2 = 1) ↔ S.testBit i = true := by
  rw [Nat.testBit_eq_decide_div_mod_eq, decide_eq_true_eq]
/-- A slice of steps: three bytes each, in unchanging memory. -/
def StAt (H : Hp) (v : Value) (n : Nat) (st : Nat → Nat → UInt8) : Prop :=
  ∃ p c, v = .slice p n c ∧ n ≤ c ∧ c ≤ maxLen ∧ (n = 0 ∨ ∃ b off arr t m, p = some (⟨b, off, none⟩ : Addr) ∧ H b = some (.cells arr t m) ∧ ∀ (i k : Nat), i < n → k < 3 → arr[off + i * 3 + k]? = some (byteV (st i k)))
structure Sd where
  N : Nat
  now : Nat → Nat → Int
  past : Nat → Nat
  C : Nat → Nat → Int
  P : Nat → Nat
  r5 : Value
  r6 : Value
end Go.Proofs.YtnmickfdflinpaaDoor
