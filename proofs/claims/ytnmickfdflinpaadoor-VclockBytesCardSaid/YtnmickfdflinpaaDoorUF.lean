/- Contract of num.Uint. -/
import Derived.Test.YtnmickfdflinpaaDoorFE
namespace Go.Proofs.YtnmickfdflinpaaDoor
open Go.RowKit Go.Par Go.Sx
/-- The number at the beginning of a list, and how many bytes are read. -/
def decU : Nat → Nat → List UInt8 → Option (Nat × Nat)
  | _, _, [] => none
  | i, v, b :: r => if i = 9 ∧ 1 < b.toNat then none else if b.toNat < 128 then (if b.toNat = 0 ∧ 0 < i then none else some (v + b.toNat % 128 * 128 ^ i, i + 1)) else decU (i + 1) (v + b.toNat % 128 * 128 ^ i) r
theorem dec_enc (r : List UInt8) (u i v : Nat) (hi : i ≤ 9) (hu : u * 128 ^ i < 18446744073709551616) (h0 : i = 0 ∨ u ≠ 0) : decU i v (encU u ++ r) = some (v + u * 128 ^ i, i + (encU u).length) := by
  by_cases h : u < 128
  · rw [encU_small h]
    have hb : (UInt8.ofNat u).toNat = u := by simp; omega
    show (if i = 9 ∧ 1 < (UInt8.ofNat u).toNat then _ else _) = _
    rw [hb, if_neg (fun ⟨e, h1⟩ => by subst e; have : (128 : Nat) ^ 9 = 9223372036854775808 := by decide
                                      rw [this] at hu; omega), if_pos h, if_neg (by omega), Nat.mod_eq_of_lt h]
    rfl
  · rw [encU_big h]
    have hb : (UInt8.ofNat (u % 128 + 128)).toNat = u % 128 + 128 := by simp; omega
    have hi9 : i ≠ 9 := fun e => by
      subst e
      have : (128 : Nat) ^ 9 = 9223372036854775808 := by decide
      rw [this] at hu; omega
    show (if i = 9 ∧ 1 < (UInt8.ofNat (u % 128 + 128)).toNat then _ else _) = _
    have hm : (u % 128 + 128) % 128 = u % 128 := by omega
    rw [hb, if_neg (fun ⟨e, _⟩ => hi9 e), if_neg (by omega), hm]
    have hle : u / 128 * 128 ^ (i + 1) ≤ u * 128 ^ i := by
      rw [Nat.pow_succ, Nat.mul_comm (128 ^ i), ← Nat.mul_assoc]
      exact Nat.mul_le_mul_right _ (Nat.div_mul_le_self u 128)
    have ih := dec_enc r (u / 128) (i + 1) (v + u % 128 * 128 ^ i) (by omega) (by omega) (.inr (by omega))
    change decU (i + 1) (v + u % 128 * 128 ^ i) (encU (u / 128) ++ r) = _
    rw [ih]
    have e1 : u % 128 * 128 ^ i + u / 128 * 128 ^ (i + 1) = u * 128 ^ i := by
      rw [Nat.pow_succ, Nat.mul_comm (128 ^ i), ← Nat.mul_assoc, ← Nat.add_mul]
      congr 1
      omega
    rw [Nat.add_assoc, e1]
    simp
    omega
termination_by u
decreasing_by omega
theorem enc_dec : ∀ (l : List UInt8) (i v u k : Nat), i ≤ 9 → decU i v l = some (u, k) → ∃ q, u = v + q * 128 ^ i ∧ l.take (k - i) = encU q ∧ i < k ∧ k - i ≤ l.length ∧ (0 < i → q ≠ 0) ∧ (i = 9 → q ≤ 1)
  | [], i, v, u, k, _, h => by cases h
  | b :: r, i, v, u, k, hi, h => by
    unfold decU at h
    split at h
    · cases h
    · rename_i h1
      split at h
      · rename_i h2
        split at h
        · cases h
        · rename_i h3
          simp only [Option.some.injEq, Prod.mk.injEq] at h
          obtain ⟨rfl, rfl⟩ := h
          refine ⟨b.toNat, by rw [Nat.mod_eq_of_lt h2], ?_, by omega, by simp, by omega, by omega⟩
          rw [encU_small h2]
          simp
      · rename_i h2
        have hi9 : i ≠ 9 := fun e => h1 ⟨e, by omega⟩
        obtain ⟨q, rfl, hq, hk, hl, h0, -⟩ := enc_dec r (i + 1) _ u k (by omega) h
        have hq0 := h0 (by omega)
        have hbl : b.toNat < 256 := b.toNat_lt
        refine ⟨b.toNat % 128 + 128 * q, ?_, ?_, by omega, by simp; omega, by omega, by omega⟩
        · rw [Nat.add_mul, Nat.pow_succ, Nat.add_assoc, Nat.mul_comm (128 ^ i) 128, ← Nat.mul_assoc, Nat.mul_comm q 128]
        · rw [encU_big (by omega), show k - i = (k - (i + 1)) + 1 by omega, List.take_succ_cons, hq, show (b.toNat % 128 + 128 * q) / 128 = q by omega, show (b.toNat % 128 + 128 * q) % 128 + 128 = b.toNat by omega]
          simp
theorem decU_lt (l : List UInt8) (u k : Nat) (h : decU 0 0 l = some (u, k)) : l.take k = encU u ∧ 0 < k ∧ k ≤ l.length := by
  obtain ⟨q, e, h2, h3, h4, -⟩ := enc_dec l 0 0 u k (by omega) h
  have : u = q := by simpa using e
  subst this
  exact ⟨by simpa using h2, h3, by simpa using h4⟩
def uintV (l : List UInt8) : Value := match decU 0 0 l with | some (u, k) => .tuple #[.int .u64 u, .int .i64 k, .int .i64 0] | none => .tuple #[.int .u64 0, .int .i64 0, .int .i64 6]
set_option maxRecDepth 100000 in
theorem and127 : ∀ a : Nat, a < 256 → IntKind.u8.wrap (((BitVec.ofInt 8 (a : Int) &&& BitVec.ofInt 8 127).toNat : Nat) : Int) = ((a % 128 : Nat) : Int) := by decide
theorem or_shift (v x i : Nat) (hv : v < 128 ^ i) (hs : v + x * 128 ^ i < 18446744073709551616) : IntKind.u64.wrap (((BitVec.ofInt 64 (v : Int) ||| BitVec.ofInt 64 ((x * 128 ^ i : Nat) : Int)).toNat : Nat) : Int) = ((v + x * 128 ^ i : Nat) : Int) := by
  have e : (128 : Nat) ^ i = 2 ^ (7 * i) := by rw [Nat.pow_mul]
  have h1 : (BitVec.ofInt 64 (v : Int)).toNat = v := by
    rw [BitVec.ofInt_natCast, BitVec.toNat_ofNat, Nat.mod_eq_of_lt (by omega)]
  have h2 : (BitVec.ofInt 64 ((x * 128 ^ i : Nat) : Int)).toNat = x * 128 ^ i := by
    rw [BitVec.ofInt_natCast, BitVec.toNat_ofNat, Nat.mod_eq_of_lt (by omega)]
  rw [BitVec.toNat_or, h1, h2, Nat.or_comm]
  have h3 := Nat.shiftLeft_add_eq_or_of_lt (a := x) (i := 7 * i) (b := v) (by rw [← e]; exact hv)
  rw [Nat.shiftLeft_eq, ← e] at h3
  rw [← h3, wu64 (by omega) (by omega), Nat.add_comm]
theorem pow_le9 {i : Nat} (h : i ≤ 8) : 128 ^ (i + 1) ≤ 9223372036854775808 := Nat.le_trans (Nat.pow_le_pow_right (by decide) (show i + 1 ≤ 9 by omega)) (by decide)
theorem step_rng {b v i : Nat} (hi : i ≤ 9) (hv : v < 128 ^ i) (h9 : ¬ (i = 9 ∧ 1 < b)) : v + b % 128 * 128 ^ i < 18446744073709551616 ∧ (i ≤ 8 → v + b % 128 * 128 ^ i < 128 ^ (i + 1)) := by
  by_cases h : i = 9
  · subst h
    have e : (128 : Nat) ^ 9 = 9223372036854775808 := by decide
    rw [e] at hv ⊢
    have : b ≤ 1 := by omega
    have : b % 128 ≤ 1 := by omega
    exact ⟨by omega, by omega⟩
  · have h1 : b % 128 * 128 ^ i ≤ 127 * 128 ^ i := Nat.mul_le_mul_right _ (by omega)
    have h2 : v + b % 128 * 128 ^ i < 128 ^ (i + 1) := by rw [Nat.pow_succ]; omega
    have h3 := pow_le9 (i := i) (by omega)
    exact ⟨by omega, fun _ => h2⟩
theorem shl_w {x v i : Nat} (h : v + x * 128 ^ i < 18446744073709551616) : IntKind.u64.wrap ((x : Int) * 2 ^ (7 * i)) = ((x * 128 ^ i : Nat) : Int) := by
  have e : (128 : Nat) ^ i = 2 ^ (7 * i) := by rw [Nat.pow_mul]
  have e2 : (x : Int) * 2 ^ (7 * i) = ((x * 128 ^ i : Nat) : Int) := by rw [e]; simp
  rw [e2, wu64 (by omega) (by omega)]
theorem uint_no {l : List UInt8} (h : decU 0 0 l = none) : Ending.returned (.tuple [.int .u64 0, .int .i64 0, .int .i64 6].toArray) = .returned (uintV l) := by unfold uintV; rw [h]
theorem uint_yes {l : List UInt8} {v i : Nat} (h : decU 0 0 l = some (v, i + 1)) : Ending.returned (.tuple [.int .u64 (v : Int), .int .i64 ((i : Int) + 1), .int .i64 0].toArray) = .returned (uintV l) := by unfold uintV; rw [h]; rfl
set_option maxRecDepth 100000 in
theorem uint_any (H : Hp) (v0 : Value) (n : Nat) (l : List UInt8) (hv : SlAt H v0 n (l.map byteV)) (w : World) (hA : Agr H w) :
    Calls Tryd.prog 41 #[v0] w fun e w' => e = .returned (uintV l) ∧ Ext w w' := by
  obtain ⟨hn, p, c, rfl, hc, hcm, hs⟩ := hv
  rw [List.length_map] at hn
  have hmax : n ≤ 9223372036854775807 := by unfold maxLen at hcm; omega
  refine Sx.enter (H := H) Tryd.func41 rfl Tryd.ntmps41 rfl hA ?_
  refine Sx.seq ?_
  refine Sx.region ?_
  refine Sx.cons ?_
  refine Sx.yl (.assign rfl) rfl ?_
  refine Sx.cons ?_
  refine Sx.yl (.assign rfl) rfl ?_
  refine Sx.cons ?_
  refine Sx.yl (.assign rfl) rfl ?_
  refine Sx.nil ?_
  refine Sx.thenN ?_
  refine Sx.seq ?_
  refine Sx.seq ?_
  refine Sx.region ?_
  refine Sx.cons ?_
  refine Sx.yl (.move rfl) rfl ?_
  refine Sx.cons ?_
  refine Sx.yl (.lenSl Fx.sl62 rfl) rfl ?_
  refine Sx.cons ?_
  refine Sx.yl (.move rfl) rfl ?_
  refine Sx.nil ?_
  refine Sx.thenN ?_
  refine Sx.blk ?_
  -- live at the head, not kept: [3, 4, 17, 18, 34, 35]
  refine Sx.loop (X := Nat × Nat) (fun z => [(2, .int .u64 (z.2 : Nat)), (7, .slice p n c), (8, .int .i64 n), (9, .int .i64 (z.1 : Nat))]) (fun z => H) (fun z => []) (fun z => z.1 ≤ n ∧ z.1 ≤ 9 ∧ z.2 < 128 ^ z.1 ∧ decU z.1 z.2 (l.drop z.1) = decU 0 0 l) (fun z => n - z.1) (0, 0) ⟨by simp, by simp, by decide, by simp⟩ ⟨rfl, rfl, rfl, rfl, trivial⟩ (fun W s => s) ?_
  intro z hC
  obtain ⟨i, v⟩ := z
  dsimp only at hC ⊢
  have hi9 := hC.2.1
  refine Sx.seq ?_
  refine Sx.region ?_
  refine Sx.cons ?_
  refine Sx.yl (.lss rfl rfl) rfl ?_
  refine Sx.nil ?_
  refine Sx.thenN ?_
  refine Sx.seq ?_
  refine Sx.cond rfl (fun h10 => ?_) (fun h10 => ?_)
  · simp only [decide_eq_true_eq] at h10
    have hbl : l[i].toNat < 256 := l[i].toNat_lt
    refine Sx.skip ?_
    refine Sx.thenN ?_
    refine Sx.seq ?_
    refine Sx.blk ?_
    refine Sx.seq ?_
    refine Sx.region ?_
    refine Sx.cons ?_
    refine Sx.yl (.move rfl) rfl ?_
    refine Sx.cons ?_
    obtain ⟨b, off, arr, t, m, rfl, hb, ha⟩ := hs.resolve_left (fun e => by have := congrArg List.length e; rw [List.length_map, List.length_nil] at this; omega)
    refine Sx.yl (.indexSl Fx.sl62 rfl rfl rfl (by omega) (q := off + i) (by omega)) rfl ?_
    refine Sx.cons ?_
    refine Sx.yl (.loadH rfl Fx.agg5 hb (v := .int .u8 (l[i].toNat : Int)) (ha i _ (by simp [byteV, show i < l.length by omega]))) rfl ?_
    refine Sx.cons ?_
    refine Sx.yl (.assign rfl) rfl ?_
    refine Sx.cons ?_
    refine Sx.yl (.assign rfl) rfl ?_
    refine Sx.nil ?_
    refine Sx.thenN ?_
    refine Sx.seq ?_
    refine Sx.seq ?_
    refine Sx.region ?_
    refine Sx.cons ?_
    refine Sx.yl (.move rfl) rfl ?_
    refine Sx.cons ?_
    refine Sx.yl (.eql rfl rfl) rfl ?_
    refine Sx.cons ?_
    refine Sx.yl (.move rfl) rfl ?_
    refine Sx.bool (fun h16 => ?_) (fun h16 => ?_)
    · simp only [decide_eq_true_eq] at h16
      refine Sx.cons ?_
      refine Sx.guardT rfl rfl ?_
      refine Sx.yl (.move rfl) rfl ?_
      refine Sx.cons ?_
      refine Sx.guardT rfl rfl ?_
      refine Sx.yl (.gtr rfl rfl) rfl ?_
      refine Sx.cons ?_
      refine Sx.yl (.pickT rfl rfl) rfl ?_
      refine Sx.nil ?_
      refine Sx.thenN ?_
      refine Sx.cond rfl (fun h19 => ?_) (fun h19 => ?_)
      · simp only [decide_eq_true_eq] at h19
        refine Sx.seq ?_
        refine Sx.region ?_
        refine Sx.cons ?_
        refine Sx.yl (.assign rfl) rfl ?_
        refine Sx.cons ?_
        refine Sx.yl (.assign rfl) rfl ?_
        refine Sx.cons ?_
        refine Sx.yl (.assign rfl) rfl ?_
        refine Sx.nil ?_
        refine Sx.thenN ?_
        refine Sx.ret ?_
        refine Sx.thenR ?_
        refine Sx.blkR ?_
        refine Sx.thenR ?_
        refine Sx.thenR ?_
        refine Sx.blkR ?_
        refine Sx.thenR ?_
        refine Sx.retN (.inl rfl) rfl (.cons (.tmp rfl) (.cons (.tmp rfl) (.cons (.tmp rfl) .nil))) rfl (fun W s => ⟨?_, s.ext⟩)
        first
          | exact uint_no (by rw [← hC.2.2.2, List.drop_eq_getElem_cons (by omega)]; unfold decU; rw [if_pos ⟨by omega, by omega⟩])
          | exact uint_no (by rw [← hC.2.2.2, List.drop_eq_getElem_cons (by omega)]; unfold decU; rw [if_neg h9, if_pos (by omega), if_pos ⟨by omega, by omega⟩])
          | exact uint_yes (by rw [← hC.2.2.2, List.drop_eq_getElem_cons (by omega)]; unfold decU; rw [if_neg h9, if_pos (by omega), if_neg (by omega)])
          | exact uint_no (by rw [← hC.2.2.2, List.drop_eq_nil_of_le (by omega)]; rfl)
      · simp only [decide_eq_false_iff_not] at h19
        have h9 : ¬ (i = 9 ∧ 1 < l[i].toNat) := fun h => h19 (by omega)
        have hst := step_rng hi9 hC.2.2.1 h9
        refine Sx.skip ?_
        refine Sx.thenN ?_
        refine Sx.seq ?_
        refine Sx.region ?_
        refine Sx.cons ?_
        refine Sx.yl (.move rfl) rfl ?_
        refine Sx.cons ?_
        refine Sx.yl (.move rfl) rfl ?_
        refine Sx.cons ?_
        refine Sx.yl (.andI rfl rfl (and127 _ l[i].toNat_lt)) rfl ?_
        refine Sx.cons ?_
        refine Sx.yl (.conv rfl Fx.int5 Fx.int23 (wu64 (by omega) (by omega))) rfl ?_
        refine Sx.cons ?_
        refine Sx.yl (.move rfl) rfl ?_
        refine Sx.cons ?_
        refine Sx.yl (.mul rfl rfl (c := ((7 * i : Nat) : Int)) (by rw [w64 (by omega) (by omega)]; rfl)) rfl ?_
        refine Sx.cons ?_
        refine Sx.yl (.shl rfl rfl (m := 7 * i) rfl (by show 7 * i ≤ 64; omega) (c := ((l[i].toNat % 128 * 128 ^ i : Nat) : Int)) (shl_w hst.1)) rfl ?_
        refine Sx.cons ?_
        refine Sx.yl (.orI rfl rfl (or_shift v _ i hC.2.2.1 hst.1)) rfl ?_
        refine Sx.cons ?_
        refine Sx.yl (.assign rfl) rfl ?_
        refine Sx.nil ?_
        refine Sx.thenN ?_
        refine Sx.seq ?_
        refine Sx.region ?_
        refine Sx.cons ?_
        refine Sx.yl (.move rfl) rfl ?_
        refine Sx.cons ?_
        refine Sx.yl (.shr rfl rfl (m := 7) rfl (by decide) (c := ((l[i].toNat / 128 : Nat) : Int)) (by rw [show ((2 : Int) ^ 7) = 128 from rfl, Int.fdiv_eq_ediv_of_nonneg _ (by decide)]; rfl)) rfl ?_
        refine Sx.cons ?_
        refine Sx.yl (.eql rfl rfl) rfl ?_
        refine Sx.nil ?_
        refine Sx.thenN ?_
        refine Sx.cond rfl (fun h30 => ?_) (fun h30 => ?_)
        · simp only [decide_eq_true_eq] at h30
          refine Sx.seq ?_
          refine Sx.seq ?_
          refine Sx.region ?_
          refine Sx.cons ?_
          refine Sx.yl (.move rfl) rfl ?_
          refine Sx.cons ?_
          refine Sx.yl (.eql rfl rfl) rfl ?_
          refine Sx.cons ?_
          refine Sx.yl (.move rfl) rfl ?_
          refine Sx.bool (fun h33 => ?_) (fun h33 => ?_)
          · simp only [decide_eq_true_eq] at h33
            refine Sx.cons ?_
            refine Sx.guardT rfl rfl ?_
            refine Sx.yl (.move rfl) rfl ?_
            refine Sx.cons ?_
            refine Sx.guardT rfl rfl ?_
            refine Sx.yl (.gtr rfl rfl) rfl ?_
            refine Sx.cons ?_
            refine Sx.yl (.pickT rfl rfl) rfl ?_
            refine Sx.nil ?_
            refine Sx.thenN ?_
            refine Sx.cond rfl (fun h36 => ?_) (fun h36 => ?_)
            · simp only [decide_eq_true_eq] at h36
              refine Sx.seq ?_
              refine Sx.region ?_
              refine Sx.cons ?_
              refine Sx.yl (.assign rfl) rfl ?_
              refine Sx.cons ?_
              refine Sx.yl (.assign rfl) rfl ?_
              refine Sx.cons ?_
              refine Sx.yl (.assign rfl) rfl ?_
              refine Sx.nil ?_
              refine Sx.thenN ?_
              refine Sx.ret ?_
              refine Sx.thenR ?_
              refine Sx.blkR ?_
              refine Sx.thenR ?_
              refine Sx.thenR ?_
              refine Sx.blkR ?_
              refine Sx.thenR ?_
              refine Sx.retN (.inl rfl) rfl (.cons (.tmp rfl) (.cons (.tmp rfl) (.cons (.tmp rfl) .nil))) rfl (fun W s => ⟨?_, s.ext⟩)
              first
                | exact uint_no (by rw [← hC.2.2.2, List.drop_eq_getElem_cons (by omega)]; unfold decU; rw [if_pos ⟨by omega, by omega⟩])
                | exact uint_no (by rw [← hC.2.2.2, List.drop_eq_getElem_cons (by omega)]; unfold decU; rw [if_neg h9, if_pos (by omega), if_pos ⟨by omega, by omega⟩])
                | exact uint_yes (by rw [← hC.2.2.2, List.drop_eq_getElem_cons (by omega)]; unfold decU; rw [if_neg h9, if_pos (by omega), if_neg (by omega)])
                | exact uint_no (by rw [← hC.2.2.2, List.drop_eq_nil_of_le (by omega)]; rfl)
            · simp only [decide_eq_false_iff_not] at h36
              refine Sx.skip ?_
              refine Sx.thenN ?_
              refine Sx.seq ?_
              refine Sx.region ?_
              refine Sx.cons ?_
              refine Sx.yl (.move rfl) rfl ?_
              refine Sx.cons ?_
              refine Sx.yl (.move rfl) rfl ?_
              refine Sx.cons ?_
              refine Sx.yl (.add rfl rfl (w64 (by omega) (by omega))) rfl ?_
              refine Sx.cons ?_
              refine Sx.yl (.assign rfl) rfl ?_
              refine Sx.cons ?_
              refine Sx.yl (.assign rfl) rfl ?_
              refine Sx.cons ?_
              refine Sx.yl (.assign rfl) rfl ?_
              refine Sx.nil ?_
              refine Sx.thenN ?_
              refine Sx.ret ?_
              refine Sx.blkR ?_
              refine Sx.thenR ?_
              refine Sx.thenR ?_
              refine Sx.blkR ?_
              refine Sx.thenR ?_
              refine Sx.retN (.inl rfl) rfl (.cons (.tmp rfl) (.cons (.tmp rfl) (.cons (.tmp rfl) .nil))) rfl (fun W s => ⟨?_, s.ext⟩)
              first
                | exact uint_no (by rw [← hC.2.2.2, List.drop_eq_getElem_cons (by omega)]; unfold decU; rw [if_pos ⟨by omega, by omega⟩])
                | exact uint_no (by rw [← hC.2.2.2, List.drop_eq_getElem_cons (by omega)]; unfold decU; rw [if_neg h9, if_pos (by omega), if_pos ⟨by omega, by omega⟩])
                | exact uint_yes (by rw [← hC.2.2.2, List.drop_eq_getElem_cons (by omega)]; unfold decU; rw [if_neg h9, if_pos (by omega), if_neg (by omega)])
                | exact uint_no (by rw [← hC.2.2.2, List.drop_eq_nil_of_le (by omega)]; rfl)
          · simp only [decide_eq_false_iff_not] at h33
            refine Sx.cons ?_
            refine Sx.guardF rfl rfl rfl rfl ?_
            refine Sx.cons ?_
            refine Sx.guardF rfl rfl rfl rfl ?_
            refine Sx.cons ?_
            refine Sx.yl (.pickF rfl rfl) rfl ?_
            refine Sx.nil ?_
            refine Sx.thenN ?_
            refine Sx.condF rfl ?_
            refine Sx.skip ?_
            refine Sx.thenN ?_
            refine Sx.seq ?_
            refine Sx.region ?_
            refine Sx.cons ?_
            refine Sx.yl (.move rfl) rfl ?_
            refine Sx.cons ?_
            refine Sx.yl (.move rfl) rfl ?_
            refine Sx.cons ?_
            refine Sx.yl (.add rfl rfl (w64 (by omega) (by omega))) rfl ?_
            refine Sx.cons ?_
            refine Sx.yl (.assign rfl) rfl ?_
            refine Sx.cons ?_
            refine Sx.yl (.assign rfl) rfl ?_
            refine Sx.cons ?_
            refine Sx.yl (.assign rfl) rfl ?_
            refine Sx.nil ?_
            refine Sx.thenN ?_
            refine Sx.ret ?_
            refine Sx.blkR ?_
            refine Sx.thenR ?_
            refine Sx.thenR ?_
            refine Sx.blkR ?_
            refine Sx.thenR ?_
            refine Sx.retN (.inl rfl) rfl (.cons (.tmp rfl) (.cons (.tmp rfl) (.cons (.tmp rfl) .nil))) rfl (fun W s => ⟨?_, s.ext⟩)
            first
              | exact uint_no (by rw [← hC.2.2.2, List.drop_eq_getElem_cons (by omega)]; unfold decU; rw [if_pos ⟨by omega, by omega⟩])
              | exact uint_no (by rw [← hC.2.2.2, List.drop_eq_getElem_cons (by omega)]; unfold decU; rw [if_neg h9, if_pos (by omega), if_pos ⟨by omega, by omega⟩])
              | exact uint_yes (by rw [← hC.2.2.2, List.drop_eq_getElem_cons (by omega)]; unfold decU; rw [if_neg h9, if_pos (by omega), if_neg (by omega)])
              | exact uint_no (by rw [← hC.2.2.2, List.drop_eq_nil_of_le (by omega)]; rfl)
        · simp only [decide_eq_false_iff_not] at h30
          refine Sx.skip ?_
          refine Sx.blkN ?_
          refine Sx.thenN ?_
          refine Sx.region ?_
          refine Sx.cons ?_
          refine Sx.yl (.add rfl rfl (w64 (by omega) (by omega))) rfl ?_
          refine Sx.cons ?_
          refine Sx.yl (.move rfl) rfl ?_
          refine Sx.nil ?_
          refine Sx.thenN ?_
          exact Sx.again (x := (i, v)) (i + 1, v + l[i].toNat % 128 * 128 ^ i) ⟨⟨by dsimp only; omega, by dsimp only; omega, hst.2 (by omega), by rw [← hC.2.2.2, List.drop_eq_getElem_cons (show i < l.length by omega)]; conv => rhs; unfold decU; rw [if_neg h9, if_neg (by omega)]⟩, by dsimp only; omega⟩ ⟨rfl, rfl, rfl, rfl, trivial⟩ (fun W s => s)
    · simp only [decide_eq_false_iff_not] at h16
      have h9 : ¬ (i = 9 ∧ 1 < l[i].toNat) := fun h => h16 (by omega)
      have hst := step_rng hi9 hC.2.2.1 h9
      refine Sx.cons ?_
      refine Sx.guardF rfl rfl rfl rfl ?_
      refine Sx.cons ?_
      refine Sx.guardF rfl rfl rfl rfl ?_
      refine Sx.cons ?_
      refine Sx.yl (.pickF rfl rfl) rfl ?_
      refine Sx.nil ?_
      refine Sx.thenN ?_
      refine Sx.condF rfl ?_
      refine Sx.skip ?_
      refine Sx.thenN ?_
      refine Sx.seq ?_
      refine Sx.region ?_
      refine Sx.cons ?_
      refine Sx.yl (.move rfl) rfl ?_
      refine Sx.cons ?_
      refine Sx.yl (.move rfl) rfl ?_
      refine Sx.cons ?_
      refine Sx.yl (.andI rfl rfl (and127 _ l[i].toNat_lt)) rfl ?_
      refine Sx.cons ?_
      refine Sx.yl (.conv rfl Fx.int5 Fx.int23 (wu64 (by omega) (by omega))) rfl ?_
      refine Sx.cons ?_
      refine Sx.yl (.move rfl) rfl ?_
      refine Sx.cons ?_
      refine Sx.yl (.mul rfl rfl (c := ((7 * i : Nat) : Int)) (by rw [w64 (by omega) (by omega)]; rfl)) rfl ?_
      refine Sx.cons ?_
      refine Sx.yl (.shl rfl rfl (m := 7 * i) rfl (by show 7 * i ≤ 64; omega) (c := ((l[i].toNat % 128 * 128 ^ i : Nat) : Int)) (shl_w hst.1)) rfl ?_
      refine Sx.cons ?_
      refine Sx.yl (.orI rfl rfl (or_shift v _ i hC.2.2.1 hst.1)) rfl ?_
      refine Sx.cons ?_
      refine Sx.yl (.assign rfl) rfl ?_
      refine Sx.nil ?_
      refine Sx.thenN ?_
      refine Sx.seq ?_
      refine Sx.region ?_
      refine Sx.cons ?_
      refine Sx.yl (.move rfl) rfl ?_
      refine Sx.cons ?_
      refine Sx.yl (.shr rfl rfl (m := 7) rfl (by decide) (c := ((l[i].toNat / 128 : Nat) : Int)) (by rw [show ((2 : Int) ^ 7) = 128 from rfl, Int.fdiv_eq_ediv_of_nonneg _ (by decide)]; rfl)) rfl ?_
      refine Sx.cons ?_
      refine Sx.yl (.eql rfl rfl) rfl ?_
      refine Sx.nil ?_
      refine Sx.thenN ?_
      refine Sx.cond rfl (fun h30 => ?_) (fun h30 => ?_)
      · simp only [decide_eq_true_eq] at h30
        refine Sx.seq ?_
        refine Sx.seq ?_
        refine Sx.region ?_
        refine Sx.cons ?_
        refine Sx.yl (.move rfl) rfl ?_
        refine Sx.cons ?_
        refine Sx.yl (.eql rfl rfl) rfl ?_
        refine Sx.cons ?_
        refine Sx.yl (.move rfl) rfl ?_
        refine Sx.bool (fun h33 => ?_) (fun h33 => ?_)
        · simp only [decide_eq_true_eq] at h33
          refine Sx.cons ?_
          refine Sx.guardT rfl rfl ?_
          refine Sx.yl (.move rfl) rfl ?_
          refine Sx.cons ?_
          refine Sx.guardT rfl rfl ?_
          refine Sx.yl (.gtr rfl rfl) rfl ?_
          refine Sx.cons ?_
          refine Sx.yl (.pickT rfl rfl) rfl ?_
          refine Sx.nil ?_
          refine Sx.thenN ?_
          refine Sx.cond rfl (fun h36 => ?_) (fun h36 => ?_)
          · simp only [decide_eq_true_eq] at h36
            refine Sx.seq ?_
            refine Sx.region ?_
            refine Sx.cons ?_
            refine Sx.yl (.assign rfl) rfl ?_
            refine Sx.cons ?_
            refine Sx.yl (.assign rfl) rfl ?_
            refine Sx.cons ?_
            refine Sx.yl (.assign rfl) rfl ?_
            refine Sx.nil ?_
            refine Sx.thenN ?_
            refine Sx.ret ?_
            refine Sx.thenR ?_
            refine Sx.blkR ?_
            refine Sx.thenR ?_
            refine Sx.thenR ?_
            refine Sx.blkR ?_
            refine Sx.thenR ?_
            refine Sx.retN (.inl rfl) rfl (.cons (.tmp rfl) (.cons (.tmp rfl) (.cons (.tmp rfl) .nil))) rfl (fun W s => ⟨?_, s.ext⟩)
            first
              | exact uint_no (by rw [← hC.2.2.2, List.drop_eq_getElem_cons (by omega)]; unfold decU; rw [if_pos ⟨by omega, by omega⟩])
              | exact uint_no (by rw [← hC.2.2.2, List.drop_eq_getElem_cons (by omega)]; unfold decU; rw [if_neg h9, if_pos (by omega), if_pos ⟨by omega, by omega⟩])
              | exact uint_yes (by rw [← hC.2.2.2, List.drop_eq_getElem_cons (by omega)]; unfold decU; rw [if_neg h9, if_pos (by omega), if_neg (by omega)])
              | exact uint_no (by rw [← hC.2.2.2, List.drop_eq_nil_of_le (by omega)]; rfl)
          · simp only [decide_eq_false_iff_not] at h36
            refine Sx.skip ?_
            refine Sx.thenN ?_
            refine Sx.seq ?_
            refine Sx.region ?_
            refine Sx.cons ?_
            refine Sx.yl (.move rfl) rfl ?_
            refine Sx.cons ?_
            refine Sx.yl (.move rfl) rfl ?_
            refine Sx.cons ?_
            refine Sx.yl (.add rfl rfl (w64 (by omega) (by omega))) rfl ?_
            refine Sx.cons ?_
            refine Sx.yl (.assign rfl) rfl ?_
            refine Sx.cons ?_
            refine Sx.yl (.assign rfl) rfl ?_
            refine Sx.cons ?_
            refine Sx.yl (.assign rfl) rfl ?_
            refine Sx.nil ?_
            refine Sx.thenN ?_
            refine Sx.ret ?_
            refine Sx.blkR ?_
            refine Sx.thenR ?_
            refine Sx.thenR ?_
            refine Sx.blkR ?_
            refine Sx.thenR ?_
            refine Sx.retN (.inl rfl) rfl (.cons (.tmp rfl) (.cons (.tmp rfl) (.cons (.tmp rfl) .nil))) rfl (fun W s => ⟨?_, s.ext⟩)
            first
              | exact uint_no (by rw [← hC.2.2.2, List.drop_eq_getElem_cons (by omega)]; unfold decU; rw [if_pos ⟨by omega, by omega⟩])
              | exact uint_no (by rw [← hC.2.2.2, List.drop_eq_getElem_cons (by omega)]; unfold decU; rw [if_neg h9, if_pos (by omega), if_pos ⟨by omega, by omega⟩])
              | exact uint_yes (by rw [← hC.2.2.2, List.drop_eq_getElem_cons (by omega)]; unfold decU; rw [if_neg h9, if_pos (by omega), if_neg (by omega)])
              | exact uint_no (by rw [← hC.2.2.2, List.drop_eq_nil_of_le (by omega)]; rfl)
        · simp only [decide_eq_false_iff_not] at h33
          refine Sx.cons ?_
          refine Sx.guardF rfl rfl rfl rfl ?_
          refine Sx.cons ?_
          refine Sx.guardF rfl rfl rfl rfl ?_
          refine Sx.cons ?_
          refine Sx.yl (.pickF rfl rfl) rfl ?_
          refine Sx.nil ?_
          refine Sx.thenN ?_
          refine Sx.condF rfl ?_
          refine Sx.skip ?_
          refine Sx.thenN ?_
          refine Sx.seq ?_
          refine Sx.region ?_
          refine Sx.cons ?_
          refine Sx.yl (.move rfl) rfl ?_
          refine Sx.cons ?_
          refine Sx.yl (.move rfl) rfl ?_
          refine Sx.cons ?_
          refine Sx.yl (.add rfl rfl (w64 (by omega) (by omega))) rfl ?_
          refine Sx.cons ?_
          refine Sx.yl (.assign rfl) rfl ?_
          refine Sx.cons ?_
          refine Sx.yl (.assign rfl) rfl ?_
          refine Sx.cons ?_
          refine Sx.yl (.assign rfl) rfl ?_
          refine Sx.nil ?_
          refine Sx.thenN ?_
          refine Sx.ret ?_
          refine Sx.blkR ?_
          refine Sx.thenR ?_
          refine Sx.thenR ?_
          refine Sx.blkR ?_
          refine Sx.thenR ?_
          refine Sx.retN (.inl rfl) rfl (.cons (.tmp rfl) (.cons (.tmp rfl) (.cons (.tmp rfl) .nil))) rfl (fun W s => ⟨?_, s.ext⟩)
          first
            | exact uint_no (by rw [← hC.2.2.2, List.drop_eq_getElem_cons (by omega)]; unfold decU; rw [if_pos ⟨by omega, by omega⟩])
            | exact uint_no (by rw [← hC.2.2.2, List.drop_eq_getElem_cons (by omega)]; unfold decU; rw [if_neg h9, if_pos (by omega), if_pos ⟨by omega, by omega⟩])
            | exact uint_yes (by rw [← hC.2.2.2, List.drop_eq_getElem_cons (by omega)]; unfold decU; rw [if_neg h9, if_pos (by omega), if_neg (by omega)])
            | exact uint_no (by rw [← hC.2.2.2, List.drop_eq_nil_of_le (by omega)]; rfl)
      · simp only [decide_eq_false_iff_not] at h30
        refine Sx.skip ?_
        refine Sx.blkN ?_
        refine Sx.thenN ?_
        refine Sx.region ?_
        refine Sx.cons ?_
        refine Sx.yl (.add rfl rfl (w64 (by omega) (by omega))) rfl ?_
        refine Sx.cons ?_
        refine Sx.yl (.move rfl) rfl ?_
        refine Sx.nil ?_
        refine Sx.thenN ?_
        exact Sx.again (x := (i, v)) (i + 1, v + l[i].toNat % 128 * 128 ^ i) ⟨⟨by dsimp only; omega, by dsimp only; omega, hst.2 (by omega), by rw [← hC.2.2.2, List.drop_eq_getElem_cons (show i < l.length by omega)]; conv => rhs; unfold decU; rw [if_neg h9, if_neg (by omega)]⟩, by dsimp only; omega⟩ ⟨rfl, rfl, rfl, rfl, trivial⟩ (fun W s => s)
  · simp only [decide_eq_false_iff_not] at h10
    refine Sx.exit ?_
    refine Sx.thenE ?_
    refine Sx.thenE ?_
    refine Sx.blkE ?_
    refine Sx.thenN ?_
    refine Sx.seq ?_
    refine Sx.region ?_
    refine Sx.cons ?_
    refine Sx.yl (.assign rfl) rfl ?_
    refine Sx.cons ?_
    refine Sx.yl (.assign rfl) rfl ?_
    refine Sx.cons ?_
    refine Sx.yl (.assign rfl) rfl ?_
    refine Sx.nil ?_
    refine Sx.thenN ?_
    refine Sx.ret ?_
    refine Sx.retN (.inl rfl) rfl (.cons (.tmp rfl) (.cons (.tmp rfl) (.cons (.tmp rfl) .nil))) rfl (fun W s => ⟨?_, s.ext⟩)
    first
      | exact uint_no (by rw [← hC.2.2.2, List.drop_eq_getElem_cons (by omega)]; unfold decU; rw [if_pos ⟨by omega, by omega⟩])
      | exact uint_no (by rw [← hC.2.2.2, List.drop_eq_getElem_cons (by omega)]; unfold decU; rw [if_neg h9, if_pos (by omega), if_pos ⟨by omega, by omega⟩])
      | exact uint_yes (by rw [← hC.2.2.2, List.drop_eq_getElem_cons (by omega)]; unfold decU; rw [if_neg h9, if_pos (by omega), if_neg (by omega)])
      | exact uint_no (by rw [← hC.2.2.2, List.drop_eq_nil_of_le (by omega)]; rfl)
end Go.Proofs.YtnmickfdflinpaaDoor
