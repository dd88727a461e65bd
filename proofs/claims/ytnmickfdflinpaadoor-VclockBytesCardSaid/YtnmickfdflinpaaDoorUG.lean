/- Contracts of the reference Bytes; of Read. -/
import Derived.Test.YtnmickfdflinpaaDoorFF
namespace Go.Proofs.YtnmickfdflinpaaDoor
open Go.RowKit Go.Par Go.Sx
theorem bytesR_snoc (r : Value) (l : List UInt8) (a : UInt8) : Res.row 5 1 r (l.length + 1) (l.map byteV ++ [Value.int .u8 (a.toNat : Int)]) = bytesR r (l ++ [a]) := bytesR_one r l a
set_option maxRecDepth 100000 in
theorem ruint_st {H : Hp} {w0 W : World} {bs : List Res} (v0 : Nat) (hv : v0 < 18446744073709551616) (s : St H w0 bs W) :
    Calls Tryd.prog 43 #[.int .u64 v0] W fun e W' => ∃ r', True ∧ e = .returned r' ∧ St H w0 (bytesR r' (encU v0) :: bs) W' := by
  refine Sx.enterS Tryd.func43 rfl Tryd.ntmps43 rfl s ?_
  refine Sx.seq ?_
  refine Sx.region ?_
  refine Sx.cons ?_
  refine Sx.yl (.assign rfl) rfl ?_
  refine Sx.nil ?_
  refine Sx.thenN ?_
  refine Sx.seq ?_
  refine Sx.region ?_
  refine Sx.cons ?_
  refine Sx.yl (.assign rfl) rfl ?_
  refine Sx.nil ?_
  refine Sx.thenN ?_
  refine Sx.seq ?_
  refine Sx.blk ?_
  refine Sx.row0 5 1 ?_
  -- live at the head, not kept: [2]
  refine Sx.loop (X := Value × List UInt8 × Nat) (fun z => [(0, .int .u64 (z.2.2 : Nat)), (3, z.1)]) (fun z => H) (fun z => bytesR z.1 z.2.1 :: bs) (fun z => z.2.1 ++ encU z.2.2 = encU v0 ∧ z.2.2 < 18446744073709551616) (fun z => z.2.2) (.slice none 0 0, [], v0) ⟨rfl, hv⟩ ⟨rfl, rfl, trivial⟩ (fun W s => s) ?_
  intro z hC
  obtain ⟨r, dn, v⟩ := z
  dsimp only at hC ⊢
  have hlen : dn.length ≤ 10 := Nat.le_trans (by rw [← hC.1]; simp) (encU_len10 hv)
  refine Sx.seq ?_
  refine Sx.seq ?_
  refine Sx.region ?_
  refine Sx.cons ?_
  refine Sx.yl (.move rfl) rfl ?_
  refine Sx.cons ?_
  refine Sx.yl (.gtr rfl rfl) rfl ?_
  refine Sx.nil ?_
  refine Sx.thenN ?_
  refine Sx.cond rfl (fun h5 => ?_) (fun h5 => ?_)
  · try simp only [decide_eq_true_eq] at h5
    refine Sx.skip ?_
    refine Sx.thenN ?_
    refine Sx.blk ?_
    refine Sx.seq ?_
    refine Sx.region ?_
    refine Sx.cons ?_
    refine Sx.yl (.move rfl) rfl ?_
    refine Sx.cons ?_
    refine Sx.yl (.move rfl) rfl ?_
    refine Sx.cons ?_
    refine Sx.yl (.rem rfl rfl (by decide) (c := ((v % 128 : Nat) : Int)) rfl) rfl ?_
    refine Sx.cons ?_
    refine Sx.yl (.add rfl rfl (c := ((v % 128 + 128 : Nat) : Int)) (by rw [wu64 (by omega) (by omega)]; rfl)) rfl ?_
    refine Sx.cons ?_
    refine Sx.yl (.conv rfl Fx.int23 Fx.int5 (wu8s (v := v % 128 + 128) (by omega))) rfl ?_
    refine Sx.cons ?_
    refine Sx.buildSlice (e := 5) (l := [.int .u8 ((UInt8.ofNat (v % 128 + 128)).toNat : Int)]) rfl (by kernel_rfl) rfl (fun b11 => ?_)
    refine Sx.cons ?_
    refine Sx.append (news := [.int .u8 ((UInt8.ofNat (v % 128 + 128)).toNat : Int)]) Fx.row62 rfl (fun _ => .tail .head) rfl (.box (.head _) (fun j u h => by rw [Nat.zero_add]; exact h)) rfl (by simp [Value.oneCell']) (by simp [maxLen]; omega) (by omega) rfl (fun r2 hr2 => ?_)
    refine Sx.reSt (bs' := bytesR r2 (dn ++ [UInt8.ofNat (v % 128 + 128)]) :: bs) (fun W s => by rw [← bytesR_snoc]; exact s.drop) ?_
    refine Sx.cons ?_
    refine Sx.yl (.assign rfl) rfl ?_
    refine Sx.nil ?_
    refine Sx.thenN ?_
    refine Sx.region ?_
    refine Sx.cons ?_
    refine Sx.yl (.move rfl) rfl ?_
    refine Sx.cons ?_
    refine Sx.yl (.quo rfl rfl (by decide) (c := ((v / 128 : Nat) : Int)) (wu64 (a := ((v / 128 : Nat) : Int)) (by omega) (by omega))) rfl ?_
    refine Sx.cons ?_
    refine Sx.yl (.assign rfl) rfl ?_
    refine Sx.nil ?_
    refine Sx.blkN ?_
    refine Sx.thenN ?_
    exact Sx.again (x := (r, dn, v)) (r2, dn ++ [UInt8.ofNat (v % 128 + 128)], v / 128) ⟨⟨by dsimp only; rw [← hC.1, encU_big (v := v) (by omega)]; simp, by dsimp only; omega⟩, by dsimp only; omega⟩ ⟨rfl, rfl, trivial⟩ (fun W s => s)
  · try simp only [decide_eq_false_iff_not] at h5
    refine Sx.exit ?_
    refine Sx.thenE ?_
    refine Sx.thenE ?_
    refine Sx.blkE ?_
    refine Sx.thenN ?_
    refine Sx.seq ?_
    refine Sx.region ?_
    refine Sx.cons ?_
    refine Sx.yl (.move rfl) rfl ?_
    refine Sx.cons ?_
    refine Sx.yl (.move rfl) rfl ?_
    refine Sx.cons ?_
    refine Sx.yl (.conv rfl Fx.int23 Fx.int5 (wu8s (v := v) (by omega))) rfl ?_
    refine Sx.cons ?_
    refine Sx.buildSlice (e := 5) (l := [.int .u8 ((UInt8.ofNat (v)).toNat : Int)]) rfl (by kernel_rfl) rfl (fun b18 => ?_)
    refine Sx.cons ?_
    refine Sx.append (news := [.int .u8 ((UInt8.ofNat (v)).toNat : Int)]) Fx.row62 rfl (fun _ => .tail .head) rfl (.box (.head _) (fun j u h => by rw [Nat.zero_add]; exact h)) rfl (by simp [Value.oneCell']) (by simp [maxLen]; omega) (by omega) rfl (fun r2 hr2 => ?_)
    refine Sx.reSt (bs' := bytesR r2 (dn ++ [UInt8.ofNat v]) :: bs) (fun W s => by rw [← bytesR_snoc]; exact s.drop) ?_
    refine Sx.cons ?_
    refine Sx.yl (.assign rfl) rfl ?_
    refine Sx.nil ?_
    refine Sx.thenN ?_
    refine Sx.ret ?_
    refine Sx.ret1 (.inl rfl) rfl (.tmp rfl) (fun W s => ⟨r2, trivial, rfl, ?_⟩)
    rw [← hC.1, encU_small (v := v) (by omega)]
    exact s
theorem encU_pos (v : Nat) : 0 < (encU v).length := by
  by_cases h : v < 128
  · rw [encU_small h]; simp
  · rw [encU_big h]; simp
set_option maxRecDepth 100000 in
theorem rbytes_st {H : Hp} {w0 W : World} {bs : List Res} (x : Nat → Int) (hU : U64 x) (s : St H w0 bs W) :
    Calls Tryd.prog 32 #[ck x] W fun e W' => ∃ r', True ∧ e = .returned r' ∧ St H w0 (bytesR r' (bytesL x) :: bs) W' := by
  have hlen := lenK_le x 16
  refine Sx.enterS Tryd.func32 rfl Tryd.ntmps32 rfl s ?_
  refine Sx.seq ?_
  refine Sx.region ?_
  refine Sx.cons ?_
  refine Sx.box (l := ckL x) rfl rfl rfl (fun b1 => ?_)
  refine Sx.cons ?_
  refine Sx.yl (.assign rfl) rfl ?_
  refine Sx.nil ?_
  refine Sx.thenN ?_
  refine Sx.seq ?_
  refine Sx.region ?_
  refine Sx.cons ?_
  refine Sx.yl (.loadW rfl Fx.agg27 (.head _) (ck_length _)) rfl ?_
  refine Sx.cons ?_
  refine Sx.yl (.call Fx.call40 rfl (fun W s => rlength_any x hU W)) rfl ?_
  refine Sx.cons ?_
  refine Sx.yl (.conv rfl Fx.int3 Fx.int5 (wu8s (v := lenK x 16) (by omega))) rfl ?_
  refine Sx.cons ?_
  refine Sx.buildSlice (e := 5) (l := [.int .u8 ((UInt8.ofNat (lenK x 16)).toNat : Int)]) rfl (by kernel_rfl) rfl (fun b8 => ?_)
  refine Sx.reSt (bs' := bytesR (.slice (some ⟨b8, 0, none⟩) 1 1) [UInt8.ofNat (lenK x 16)] :: .box b1 (ckL x) 27 :: bs) (fun W s => s.boxRow (by simp [maxLen])) ?_
  refine Sx.cons ?_
  refine Sx.yl (.assign rfl) rfl ?_
  refine Sx.nil ?_
  refine Sx.thenN ?_
  refine Sx.seq ?_
  refine Sx.seq ?_
  refine Sx.region ?_
  refine Sx.cons ?_
  refine Sx.yl (.assign rfl) rfl ?_
  refine Sx.nil ?_
  refine Sx.thenN ?_
  refine Sx.blk ?_
  -- live at the head, not kept: [2]
  refine Sx.loop (X := Value × Nat) (fun z => [(1, .pointer (some ⟨b1, 0, none⟩)), (3, z.1), (4, .int .i64 (z.2 : Nat))]) (fun z => H) (fun z => bytesR z.1 ([UInt8.ofNat (lenK x 16)] ++ encs x z.2) :: .box b1 (ckL x) 27 :: bs) (fun z => z.2 ≤ lenK x 16) (fun z => lenK x 16 - z.2) (.slice (some ⟨b8, 0, none⟩) 1 1, 0) (Nat.zero_le _) ⟨rfl, rfl, rfl, trivial⟩ (fun W s => s) ?_
  intro z hC
  obtain ⟨r, k⟩ := z
  dsimp only at hC ⊢
  have hx := hU k
  have hel := encs_len x hU k
  have he10 := encU_len10 (v := (x k).toNat) (by omega)
  refine Sx.seq ?_
  refine Sx.seq ?_
  refine Sx.region ?_
  refine Sx.cons ?_
  refine Sx.yl (.move rfl) rfl ?_
  refine Sx.cons ?_
  refine Sx.yl (.loadW rfl Fx.agg27 (.tail _ (.head _)) (ck_length _)) rfl ?_
  refine Sx.cons ?_
  refine Sx.yl (.call Fx.call40 rfl (fun W s => rlength_any x hU W)) rfl ?_
  refine Sx.cons ?_
  refine Sx.yl (.lss rfl rfl) rfl ?_
  refine Sx.nil ?_
  refine Sx.thenN ?_
  refine Sx.cond rfl (fun h12 => ?_) (fun h12 => ?_)
  · try simp only [decide_eq_true_eq] at h12
    refine Sx.skip ?_
    refine Sx.thenN ?_
    refine Sx.seq ?_
    refine Sx.blk ?_
    refine Sx.region ?_
    refine Sx.cons ?_
    refine Sx.yl (.move rfl) rfl ?_
    refine Sx.cons ?_
    refine Sx.yl (.move rfl) rfl ?_
    refine Sx.cons ?_
    refine Sx.yl (.indexArr Fx.arr27 rfl rfl rfl (by omega) (q := k) (by omega)) rfl ?_
    refine Sx.cons ?_
    refine Sx.yl (.load rfl Fx.agg23 (.tail _ (.head _)) (ck_at x (k := k) (by omega))) rfl ?_
    rw [conv_nat (k := .u64) (x k) (by omega)]
    refine Sx.cons ?_
    refine Sx.callS Fx.call43 rfl (fun W s => ruint_st (x k).toNat (by omega) s) rfl (fun r19 _ => ?_)
    refine Sx.rowCase (.head _) (encU_pos _) (fun b19 c19 hr19 hc19 => ?_)
    subst hr19
    refine Sx.cons ?_
    refine Sx.append (news := (encU (x k).toNat).map byteV) Fx.row62 rfl (fun _ => .tail .head) rfl (.row (.head _) (fun j u h => by rw [Nat.zero_add]; exact h)) (by simp) (byteV_one _) (by simp [maxLen]; omega) (by simp; omega) rfl (fun r2 hr2 => ?_)
    refine Sx.reSt (bs' := bytesR r2 ([UInt8.ofNat (lenK x 16)] ++ encs x (k + 1)) :: .box b1 (ckL x) 27 :: bs) (fun W s => by rw [encs_succ, ← List.append_assoc, ← bytesR_app]; exact s.drop) ?_
    refine Sx.cons ?_
    refine Sx.yl (.assign rfl) rfl ?_
    refine Sx.nil ?_
    refine Sx.blkN ?_
    refine Sx.thenN ?_
    refine Sx.region ?_
    refine Sx.cons ?_
    refine Sx.yl (.move rfl) rfl ?_
    refine Sx.cons ?_
    refine Sx.yl (.add rfl rfl (w64 (by omega) (by omega))) rfl ?_
    refine Sx.cons ?_
    refine Sx.yl (.assign rfl) rfl ?_
    refine Sx.nil ?_
    refine Sx.thenN ?_
    exact Sx.again (x := (.slice none 0 0, k)) (r2, k + 1) ⟨by dsimp only; omega, by dsimp only; omega⟩ ⟨rfl, rfl, rfl, trivial⟩ (fun W s => s)
  · try simp only [decide_eq_false_iff_not] at h12
    refine Sx.exit ?_
    refine Sx.thenE ?_
    refine Sx.thenE ?_
    refine Sx.blkE ?_
    refine Sx.thenN ?_
    refine Sx.seq ?_
    refine Sx.region ?_
    refine Sx.cons ?_
    refine Sx.yl (.move rfl) rfl ?_
    refine Sx.cons ?_
    refine Sx.yl (.assign rfl) rfl ?_
    refine Sx.nil ?_
    refine Sx.thenN ?_
    refine Sx.ret ?_
    refine Sx.ret1 (.inl rfl) rfl (.tmp rfl) (fun W s => ⟨r, trivial, rfl, ?_⟩)
    obtain rfl : k = lenK x 16 := by omega
    exact s.sublist (.cons_cons _ (.cons _ (List.Sublist.refl _)))
/-- Some numbers at the beginning of a list. -/
def readR : Nat → List UInt8 → Option (List Int × Nat)
  | 0, _ => some ([], 0)
  | c + 1, l => (decU 0 0 l).bind fun q => (readR c (l.drop q.2)).map fun t => ((q.1 : Int) :: t.1, q.2 + t.2)
def readO : List UInt8 → Option (List Int × Nat)
  | [] => none
  | b :: r => if 16 < b.toNat then none else (readR b.toNat r).bind fun t => if lenK (ofF t.1) 16 = b.toNat then some (t.1, t.2 + 1) else none
def readV (l : List UInt8) : Value := match readO l with | some (us, m) => .tuple #[ck (ofF us), .int .i64 (m : Nat), .int .i64 0] | none => .tuple #[ck zeroF, .int .i64 0, .int .i64 6]
theorem sl_drop {H : Hp} {b off n c : Nat} {arr : Array Value} {t : TypeId} {m : Nat × Nat} {l : List UInt8} (hn : l.length = n) (hc : n ≤ c) (hcm : c ≤ maxLen) (hb : H b = some (.cells arr t m)) (ha : ∀ (j : Nat) u, (l.map byteV)[j]? = some u → arr[off + j]? = some u) (k : Nat) (hk : k ≤ n) :
    SlAt H (.slice (some (if c = k then ⟨b, off, none⟩ else ⟨b, off + k * 1, none⟩)) (n - k) (c - k)) (n - k) ((l.drop k).map byteV) := by
  refine ⟨by simp [hn], _, _, rfl, by omega, by omega, ?_⟩
  by_cases h : c = k
  · left
    have : l.drop k = [] := List.drop_eq_nil_of_le (by omega)
    rw [this]; rfl
  · right
    rw [if_neg h]
    refine ⟨b, off + k * 1, arr, t, m, rfl, hb, fun j u hu => ?_⟩
    have := ha (k + j) u (by rwa [List.map_drop, List.getElem?_drop] at hu)
    rwa [show off + k * 1 + j = off + (k + j) by omega]
theorem of_snoc (us : List Int) (a : Int) {k : Nat} (hk : us.length = k) (h : k < 16) : (ckL (ofF us)).set k (.int .u64 a) = ckL (ofF (us ++ [a])) := by
  rw [ck_set _ _ _ h]
  refine ck_congrL fun i _ => ?_
  unfold upd ofF
  by_cases h1 : i = k
  · subst h1; rw [if_pos rfl, ← hk]; simp
  · rw [if_neg h1]
    by_cases h2 : i < us.length
    · simp [List.getD, List.getElem?_append_left h2]
    · simp [List.getD, List.getElem?_eq_none (show (us ++ [a]).length ≤ i by simp; omega), List.getElem?_eq_none (show us.length ≤ i by omega)]
theorem uint_none {l : List UInt8} (h : decU 0 0 l = none) (H : Hp) (v0 : Value) (n : Nat) (hv : SlAt H v0 n (l.map byteV)) (w : World) (hA : Agr H w) :
    Calls Tryd.prog 41 #[v0] w fun e w' => e = .returned (.tuple #[.int .u64 0, .int .i64 0, .int .i64 6]) ∧ Ext w w' := by
  have := uint_any H v0 n l hv w hA
  unfold uintV at this
  rwa [h] at this
theorem uint_some {l : List UInt8} {u k : Nat} (h : decU 0 0 l = some (u, k)) (H : Hp) (v0 : Value) (n : Nat) (hv : SlAt H v0 n (l.map byteV)) (w : World) (hA : Agr H w) :
    Calls Tryd.prog 41 #[v0] w fun e w' => e = .returned (.tuple #[.int .u64 u, .int .i64 k, .int .i64 0]) ∧ Ext w w' := by
  have := uint_any H v0 n l hv w hA
  unfold uintV at this
  rwa [h] at this
theorem read_no {l : List UInt8} (h : readO l = none) : Ending.returned (.tuple [.agg (ckL fun _ => 0).toArray, .int .i64 0, .int .i64 6].toArray) = .returned (readV l) := by unfold readV; rw [h]; rfl
theorem read_yes {l : List UInt8} {us : List Int} {m : Nat} (h : readO l = some (us, m)) : Ending.returned (.tuple [.agg (ckL (ofF us)).toArray, .int .i64 (m : Nat), .int .i64 0].toArray) = .returned (readV l) := by unfold readV; rw [h]; rfl
theorem readO_at {l : List UInt8} (h : 0 < l.length) : readO l = if 16 < l[0].toNat then none else (readR l[0].toNat (l.drop 1)).bind fun t => if lenK (ofF t.1) 16 = l[0].toNat then some (t.1, t.2 + 1) else none := by
  cases l with
  | nil => simp at h
  | cons b r => rfl
/-- What is read behind i numbers. -/
def Rest (l : List UInt8) (c i at0 : Nat) (us : List Int) : Prop := readR c (l.drop 1) = (readR (c - i) (l.drop at0)).map fun t => (us ++ t.1, at0 - 1 + t.2)
theorem Rest.none {l : List UInt8} {c i a : Nat} {us : List Int} (h : Rest l c i a us) (hi : i < c) (hd : decU 0 0 (l.drop a) = none) : readR c (l.drop 1) = none := by
  unfold Rest at h
  rw [h, show c - i = (c - i - 1) + 1 by omega]
  unfold readR
  rw [hd]; rfl
theorem Rest.step {l : List UInt8} {c i a u k : Nat} {us : List Int} (h : Rest l c i a us) (hi : i < c) (ha : 1 ≤ a) (hd : decU 0 0 (l.drop a) = some (u, k)) : Rest l c (i + 1) (a + k) (us ++ [(u : Int)]) := by
  unfold Rest at *
  rw [h, show c - i = (c - (i + 1)) + 1 by omega]
  conv => lhs; unfold readR
  rw [hd]
  simp only [Option.bind_some, List.drop_drop]
  rw [Option.map_map]
  congr 1
  funext t
  simp
  omega
theorem Rest.end {l : List UInt8} {c a : Nat} {us : List Int} (h : Rest l c c a us) : readR c (l.drop 1) = some (us, a - 1) := by
  unfold Rest at h
  rw [h, Nat.sub_self]
  simp [readR]
set_option maxRecDepth 100000 in
theorem read_any (H : Hp) (v0 : Value) (n : Nat) (l : List UInt8) (hv : SlAt H v0 n (l.map byteV)) (w : World) (hA : Agr H w) :
    Calls Tryd.prog 30 #[v0] w fun e w' => e = .returned (readV l) ∧ Ext w w' := by
  obtain ⟨hn, p, c, rfl, hc, hcm, hs⟩ := hv
  rw [List.length_map] at hn
  have hmax : n ≤ 9223372036854775807 := by unfold maxLen at hcm; omega
  refine Sx.enter (H := H) Tryd.func30 rfl Tryd.ntmps30 rfl hA ?_
  refine Sx.seq ?_
  refine Sx.region ?_
  refine Sx.cons ?_
  refine Sx.alloc Fx.zero26 rfl (fun b2 => ?_)
  refine Sx.cons ?_
  refine Sx.yl (.assign rfl) rfl ?_
  refine Sx.cons ?_
  refine Sx.yl (.assign rfl) rfl ?_
  refine Sx.nil ?_
  refine Sx.thenN ?_
  refine Sx.seq ?_
  refine Sx.seq ?_
  refine Sx.region ?_
  refine Sx.cons ?_
  refine Sx.yl (.move rfl) rfl ?_
  refine Sx.cons ?_
  refine Sx.yl (.lenSl Fx.sl62 rfl) rfl ?_
  refine Sx.cons ?_
  refine Sx.yl (.eql rfl rfl) rfl ?_
  refine Sx.cons ?_
  refine Sx.yl (.move rfl) rfl ?_
  refine Sx.bool (fun h15 => ?_) (fun h15 => ?_)
  · simp only [decide_eq_true_eq] at h15
    refine Sx.cons ?_
    refine Sx.guardF rfl rfl rfl rfl ?_
    refine Sx.cons ?_
    refine Sx.guardF rfl rfl rfl rfl ?_
    refine Sx.cons ?_
    refine Sx.guardF rfl rfl rfl rfl ?_
    refine Sx.cons ?_
    refine Sx.guardF rfl rfl rfl rfl ?_
    refine Sx.cons ?_
    refine Sx.yl (.pickT rfl rfl) rfl ?_
    refine Sx.nil ?_
    refine Sx.thenN ?_
    refine Sx.condT rfl ?_
    refine Sx.seq ?_
    refine Sx.region ?_
    refine Sx.cons ?_
    refine Sx.yl (.build rfl Fx.build26) rfl ?_
    refine Sx.cons ?_
    refine Sx.storeW rfl rfl Fx.size26 (ckL_one _) (.head) rfl ?_
    refine Sx.cons ?_
    refine Sx.yl (.assign rfl) rfl ?_
    refine Sx.cons ?_
    refine Sx.yl (.assign rfl) rfl ?_
    refine Sx.nil ?_
    refine Sx.thenN ?_
    refine Sx.ret ?_
    refine Sx.thenR ?_
    refine Sx.retN (.inl rfl) rfl (.cons (.cell rfl Fx.agg26 (.head _) (ck_length _)) (.cons (.tmp rfl) (.cons (.tmp rfl) .nil))) rfl (fun W s => ⟨?_, s.ext⟩)
    first
      | exact read_no (by rw [List.eq_nil_of_length_eq_zero (l := l) (by omega)]; rfl)
      | exact read_no (by rw [readO_at (by omega), if_pos (by omega)])
      | exact read_no (by rw [readO_at (by omega), if_neg (by omega), hC.2.2.2.1.none (by omega) hd]; rfl)
      | (obtain rfl : i = l[0].toNat := (by omega)
         exact read_no (by rw [readO_at (by omega), if_neg (by omega), hC.2.2.2.1.end, Option.bind_some]; dsimp only; rw [if_neg (by omega)]))
      | (obtain rfl : i = l[0].toNat := (by omega)
         exact read_yes (by rw [readO_at (by omega), if_neg (by omega), hC.2.2.2.1.end, Option.bind_some]; dsimp only; rw [if_pos (by omega), show a - 1 + 1 = a by omega]))
  · simp only [decide_eq_false_iff_not] at h15
    obtain ⟨b, off, arr, t, m, rfl, hb, ha⟩ := hs.resolve_left (fun e => by have := congrArg List.length e; rw [List.length_map, List.length_nil] at this; omega)
    have hl0 : 0 < l.length := by omega
    have hbl : l[0].toNat < 256 := l[0].toNat_lt
    refine Sx.cons ?_
    refine Sx.guardT rfl rfl ?_
    refine Sx.yl (.move rfl) rfl ?_
    refine Sx.cons ?_
    refine Sx.guardT rfl rfl ?_
    refine Sx.yl (.indexSl Fx.sl62 rfl rfl (i := 0) rfl (by omega) (q := off + 0) (by omega)) rfl ?_
    refine Sx.cons ?_
    refine Sx.guardT rfl rfl ?_
    refine Sx.yl (.loadH rfl Fx.agg5 hb (v := .int .u8 (l[0].toNat : Int)) (ha 0 _ (by simp [byteV, List.getElem?_eq_getElem hl0]))) rfl ?_
    refine Sx.cons ?_
    refine Sx.guardT rfl rfl ?_
    refine Sx.yl (.gtr rfl rfl) rfl ?_
    refine Sx.cons ?_
    refine Sx.yl (.pickF rfl rfl) rfl ?_
    refine Sx.nil ?_
    refine Sx.thenN ?_
    refine Sx.cond rfl (fun h20 => ?_) (fun h20 => ?_)
    · simp only [decide_eq_true_eq] at h20
      refine Sx.seq ?_
      refine Sx.region ?_
      refine Sx.cons ?_
      refine Sx.yl (.build rfl Fx.build26) rfl ?_
      refine Sx.cons ?_
      refine Sx.storeW rfl rfl Fx.size26 (ckL_one _) (.head) rfl ?_
      refine Sx.cons ?_
      refine Sx.yl (.assign rfl) rfl ?_
      refine Sx.cons ?_
      refine Sx.yl (.assign rfl) rfl ?_
      refine Sx.nil ?_
      refine Sx.thenN ?_
      refine Sx.ret ?_
      refine Sx.thenR ?_
      refine Sx.retN (.inl rfl) rfl (.cons (.cell rfl Fx.agg26 (.head _) (ck_length _)) (.cons (.tmp rfl) (.cons (.tmp rfl) .nil))) rfl (fun W s => ⟨?_, s.ext⟩)
      first
        | exact read_no (by rw [List.eq_nil_of_length_eq_zero (l := l) (by omega)]; rfl)
        | exact read_no (by rw [readO_at (by omega), if_pos (by omega)])
        | exact read_no (by rw [readO_at (by omega), if_neg (by omega), hC.2.2.2.1.none (by omega) hd]; rfl)
        | (obtain rfl : i = l[0].toNat := (by omega)
           exact read_no (by rw [readO_at (by omega), if_neg (by omega), hC.2.2.2.1.end, Option.bind_some]; dsimp only; rw [if_neg (by omega)]))
        | (obtain rfl : i = l[0].toNat := (by omega)
           exact read_yes (by rw [readO_at (by omega), if_neg (by omega), hC.2.2.2.1.end, Option.bind_some]; dsimp only; rw [if_pos (by omega), show a - 1 + 1 = a by omega]))
    · simp only [decide_eq_false_iff_not] at h20
      refine Sx.skip ?_
      refine Sx.thenN ?_
      refine Sx.seq ?_
      refine Sx.region ?_
      refine Sx.cons ?_
      refine Sx.alloc Fx.zero26 rfl (fun b5 => ?_)
      refine Sx.nil ?_
      refine Sx.thenN ?_
      refine Sx.seq ?_
      refine Sx.region ?_
      refine Sx.cons ?_
      refine Sx.yl (.move rfl) rfl ?_
      refine Sx.cons ?_
      refine Sx.yl (.indexSl Fx.sl62 rfl rfl (i := 0) rfl (by omega) (q := off + 0) (by omega)) rfl ?_
      refine Sx.cons ?_
      refine Sx.yl (.loadH rfl Fx.agg5 hb (v := .int .u8 (l[0].toNat : Int)) (ha 0 _ (by simp [byteV, List.getElem?_eq_getElem hl0]))) rfl ?_
      refine Sx.cons ?_
      refine Sx.yl (.conv rfl Fx.int5 Fx.int3 (w64 (by omega) (by omega))) rfl ?_
      refine Sx.cons ?_
      refine Sx.yl (.assign rfl) rfl ?_
      refine Sx.cons ?_
      refine Sx.yl (.assign rfl) rfl ?_
      refine Sx.nil ?_
      refine Sx.thenN ?_
      refine Sx.seq ?_
      refine Sx.seq ?_
      refine Sx.region ?_
      refine Sx.cons ?_
      refine Sx.yl (.move rfl) rfl ?_
      refine Sx.cons ?_
      refine Sx.yl (.move rfl) rfl ?_
      refine Sx.nil ?_
      refine Sx.thenN ?_
      refine Sx.blk ?_
      -- live at the head, not kept: [3, 4]
      refine Sx.loop (X := Nat × Nat × List Int) (fun z => [(0, .slice (some ⟨b, off, none⟩) n c), (2, .pointer (some ⟨b2, 0, none⟩)), (5, .pointer (some ⟨b5, 0, none⟩)), (6, .int .i64 (l[0].toNat : Nat)), (7, .int .i64 (z.2.1 : Nat)), (26, .int .i64 (l[0].toNat : Nat)), (27, .int .i64 (z.1 : Nat))]) (fun z => H) (fun z => [.box b5 (ckL (ofF z.2.2)) 26, .box b2 (ckL fun _ => 0) 26]) (fun z => z.1 ≤ l[0].toNat ∧ z.2.2.length = z.1 ∧ (1 ≤ z.2.1 ∧ z.2.1 ≤ n) ∧ Rest l l[0].toNat z.1 z.2.1 z.2.2 ∧ True) (fun z => l[0].toNat - z.1) (0, 1, []) ⟨Nat.zero_le _, rfl, ⟨by simp, by show 1 ≤ n; omega⟩, by unfold Rest; simp, trivial⟩ ⟨rfl, rfl, rfl, rfl, rfl, rfl, rfl, trivial⟩ (fun W s => s) ?_
      intro z hC
      obtain ⟨i, a, us⟩ := z
      dsimp only at hC ⊢
      refine Sx.seq ?_
      refine Sx.region ?_
      refine Sx.cons ?_
      refine Sx.yl (.lss rfl rfl) rfl ?_
      refine Sx.nil ?_
      refine Sx.thenN ?_
      refine Sx.seq ?_
      refine Sx.cond rfl (fun h28 => ?_) (fun h28 => ?_)
      · try simp only [decide_eq_true_eq] at h28
        refine Sx.skip ?_
        refine Sx.thenN ?_
        refine Sx.seq ?_
        refine Sx.blk ?_
        refine Sx.seq ?_
        refine Sx.region ?_
        refine Sx.cons ?_
        refine Sx.yl (.move rfl) rfl ?_
        refine Sx.cons ?_
        refine Sx.yl (.assign rfl) rfl ?_
        refine Sx.nil ?_
        refine Sx.thenN ?_
        refine Sx.seq ?_
        refine Sx.region ?_
        rcases hd : decU 0 0 (l.drop a) with _ | ⟨u, k⟩
        · skip
          refine Sx.cons ?_
          refine Sx.yl (.move rfl) rfl ?_
          refine Sx.cons ?_
          refine Sx.yl (.move rfl) rfl ?_
          refine Sx.cons ?_
          refine Sx.yl (.cutLo Fx.sl62 rfl rfl rfl (lo := a) (by omega) hc) rfl ?_
          refine Sx.cons ?_
          refine Sx.yl (.call Fx.call41 rfl (fun W s => uint_none hd H _ _ (sl_drop hn hc hcm hb ha a (by omega)) W s.agr)) rfl ?_
          refine Sx.cons ?_
          refine Sx.yl (.move rfl) rfl ?_
          refine Sx.cons ?_
          refine Sx.yl (.extract rfl rfl) rfl ?_
          refine Sx.cons ?_
          refine Sx.yl (.extract rfl rfl) rfl ?_
          refine Sx.cons ?_
          refine Sx.yl (.extract rfl rfl) rfl ?_
          refine Sx.cons ?_
          refine Sx.yl (.assign rfl) rfl ?_
          refine Sx.cons ?_
          refine Sx.yl (.assign rfl) rfl ?_
          refine Sx.cons ?_
          refine Sx.yl (.assign rfl) rfl ?_
          refine Sx.nil ?_
          refine Sx.thenN ?_
          refine Sx.seq ?_
          refine Sx.seq ?_
          refine Sx.region ?_
          refine Sx.cons ?_
          refine Sx.yl (.move rfl) rfl ?_
          refine Sx.cons ?_
          refine Sx.yl (.neq rfl rfl) rfl ?_
          refine Sx.nil ?_
          refine Sx.thenN ?_
          refine Sx.condT rfl ?_
          refine Sx.seq ?_
          refine Sx.region ?_
          refine Sx.cons ?_
          refine Sx.yl (.build rfl Fx.build26) rfl ?_
          refine Sx.cons ?_
          first
            | refine Sx.storeW rfl rfl Fx.size26 (ckL_one _) (.head) rfl ?_
            | refine Sx.storeW rfl rfl Fx.size26 (ckL_one _) (.tail (.head)) rfl ?_
          refine Sx.cons ?_
          refine Sx.yl (.assign rfl) rfl ?_
          refine Sx.cons ?_
          refine Sx.yl (.assign rfl) rfl ?_
          refine Sx.nil ?_
          refine Sx.thenN ?_
          refine Sx.ret ?_
          refine Sx.thenR ?_
          refine Sx.blkR ?_
          refine Sx.thenR ?_
          refine Sx.thenR ?_
          refine Sx.blkR ?_
          refine Sx.thenR ?_
          first
            | refine Sx.retN (.inl rfl) rfl (.cons (.cell rfl Fx.agg26 (.head _) (ck_length _)) (.cons (.tmp rfl) (.cons (.tmp rfl) .nil))) rfl (fun W s => ⟨?_, s.ext⟩)
            | refine Sx.retN (.inl rfl) rfl (.cons (.cell rfl Fx.agg26 (.tail _ (.head _)) (ck_length _)) (.cons (.tmp rfl) (.cons (.tmp rfl) .nil))) rfl (fun W s => ⟨?_, s.ext⟩)
          first
            | exact read_no (by rw [List.eq_nil_of_length_eq_zero (l := l) (by omega)]; rfl)
            | exact read_no (by rw [readO_at (by omega), if_pos (by omega)])
            | exact read_no (by rw [readO_at (by omega), if_neg (by omega), hC.2.2.2.1.none (by omega) hd]; rfl)
            | (obtain rfl : i = l[0].toNat := (by omega)
               exact read_no (by rw [readO_at (by omega), if_neg (by omega), hC.2.2.2.1.end, Option.bind_some]; dsimp only; rw [if_neg (by omega)]))
            | (obtain rfl : i = l[0].toNat := (by omega)
               exact read_yes (by rw [readO_at (by omega), if_neg (by omega), hC.2.2.2.1.end, Option.bind_some]; dsimp only; rw [if_pos (by omega), show a - 1 + 1 = a by omega]))
        · have hk := decU_lt _ _ _ hd
          have hk2 : k ≤ n - a := by have := hk.2.2; rw [List.length_drop] at this; omega
          refine Sx.cons ?_
          refine Sx.yl (.move rfl) rfl ?_
          refine Sx.cons ?_
          refine Sx.yl (.move rfl) rfl ?_
          refine Sx.cons ?_
          refine Sx.yl (.cutLo Fx.sl62 rfl rfl rfl (lo := a) (by omega) hc) rfl ?_
          refine Sx.cons ?_
          refine Sx.yl (.call Fx.call41 rfl (fun W s => uint_some hd H _ _ (sl_drop hn hc hcm hb ha a (by omega)) W s.agr)) rfl ?_
          refine Sx.cons ?_
          refine Sx.yl (.move rfl) rfl ?_
          refine Sx.cons ?_
          refine Sx.yl (.extract rfl rfl) rfl ?_
          refine Sx.cons ?_
          refine Sx.yl (.extract rfl rfl) rfl ?_
          refine Sx.cons ?_
          refine Sx.yl (.extract rfl rfl) rfl ?_
          refine Sx.cons ?_
          refine Sx.yl (.assign rfl) rfl ?_
          refine Sx.cons ?_
          refine Sx.yl (.assign rfl) rfl ?_
          refine Sx.cons ?_
          refine Sx.yl (.assign rfl) rfl ?_
          refine Sx.nil ?_
          refine Sx.thenN ?_
          refine Sx.seq ?_
          refine Sx.seq ?_
          refine Sx.region ?_
          refine Sx.cons ?_
          refine Sx.yl (.move rfl) rfl ?_
          refine Sx.cons ?_
          refine Sx.yl (.neq rfl rfl) rfl ?_
          refine Sx.nil ?_
          refine Sx.thenN ?_
          refine Sx.condF rfl ?_
          refine Sx.skip ?_
          refine Sx.thenN ?_
          refine Sx.seq ?_
          refine Sx.region ?_
          refine Sx.cons ?_
          refine Sx.yl (.move rfl) rfl ?_
          refine Sx.cons ?_
          refine Sx.yl (.move rfl) rfl ?_
          refine Sx.cons ?_
          refine Sx.yl (.fieldAddr rfl Fx.field26_0) rfl ?_
          refine Sx.cons ?_
          refine Sx.yl (.indexArr Fx.arr24 rfl rfl rfl (by omega) (q := i) (by omega)) rfl ?_
          refine Sx.cons ?_
          first
            | refine Sx.store rfl rfl Fx.size23 rfl (.head) (by rw [ck_length]; omega) (of_snoc us _ hC.2.1 (by omega)) ?_
            | refine Sx.store rfl rfl Fx.size23 rfl (.tail (.head)) (by rw [ck_length]; omega) (of_snoc us _ hC.2.1 (by omega)) ?_
          refine Sx.nil ?_
          refine Sx.thenN ?_
          refine Sx.region ?_
          refine Sx.cons ?_
          refine Sx.yl (.move rfl) rfl ?_
          refine Sx.cons ?_
          refine Sx.yl (.move rfl) rfl ?_
          refine Sx.cons ?_
          refine Sx.yl (.add rfl rfl (c := ((a + k : Nat) : Int)) (by rw [w64 (by omega) (by omega)]; rfl)) rfl ?_
          refine Sx.cons ?_
          refine Sx.yl (.assign rfl) rfl ?_
          refine Sx.nil ?_
          refine Sx.blkN ?_
          refine Sx.thenN ?_
          refine Sx.region ?_
          refine Sx.cons ?_
          refine Sx.yl (.add rfl rfl (w64 (by omega) (by omega))) rfl ?_
          refine Sx.cons ?_
          refine Sx.yl (.move rfl) rfl ?_
          refine Sx.nil ?_
          refine Sx.thenN ?_
          exact Sx.again (x := (i, a, us)) (i + 1, a + k, us ++ [(u : Int)]) ⟨⟨by dsimp only; omega, by simp [hC.2.1], ⟨by dsimp only; omega, by dsimp only; omega⟩, hC.2.2.2.1.step (by omega) (by omega) hd, trivial⟩, by dsimp only; omega⟩ ⟨rfl, rfl, rfl, rfl, rfl, rfl, rfl, trivial⟩ (fun W s => s)
      · try simp only [decide_eq_false_iff_not] at h28
        refine Sx.exit ?_
        refine Sx.thenE ?_
        refine Sx.thenE ?_
        refine Sx.blkE ?_
        refine Sx.thenN ?_
        refine Sx.seq ?_
        refine Sx.seq ?_
        refine Sx.region ?_
        refine Sx.cons ?_
        first
          | refine Sx.yl (.loadW rfl Fx.agg26 (.head _) (ck_length _)) rfl ?_
          | refine Sx.yl (.loadW rfl Fx.agg26 (.tail _ (.head _)) (ck_length _)) rfl ?_
        refine Sx.cons ?_
        refine Sx.yl (.call Fx.call33 rfl (fun W s => length_any (ofF us) W)) rfl ?_
        refine Sx.cons ?_
        refine Sx.yl (.move rfl) rfl ?_
        refine Sx.cons ?_
        refine Sx.yl (.neq rfl rfl) rfl ?_
        refine Sx.nil ?_
        refine Sx.thenN ?_
        refine Sx.cond rfl (fun h52 => ?_) (fun h52 => ?_)
        · try simp only [decide_eq_true_eq] at h52
          refine Sx.seq ?_
          refine Sx.region ?_
          refine Sx.cons ?_
          refine Sx.yl (.build rfl Fx.build26) rfl ?_
          refine Sx.cons ?_
          first
            | refine Sx.storeW rfl rfl Fx.size26 (ckL_one _) (.head) rfl ?_
            | refine Sx.storeW rfl rfl Fx.size26 (ckL_one _) (.tail (.head)) rfl ?_
          refine Sx.cons ?_
          refine Sx.yl (.assign rfl) rfl ?_
          refine Sx.cons ?_
          refine Sx.yl (.assign rfl) rfl ?_
          refine Sx.nil ?_
          refine Sx.thenN ?_
          refine Sx.ret ?_
          refine Sx.thenR ?_
          first
            | refine Sx.retN (.inl rfl) rfl (.cons (.cell rfl Fx.agg26 (.head _) (ck_length _)) (.cons (.tmp rfl) (.cons (.tmp rfl) .nil))) rfl (fun W s => ⟨?_, s.ext⟩)
            | refine Sx.retN (.inl rfl) rfl (.cons (.cell rfl Fx.agg26 (.tail _ (.head _)) (ck_length _)) (.cons (.tmp rfl) (.cons (.tmp rfl) .nil))) rfl (fun W s => ⟨?_, s.ext⟩)
          first
            | exact read_no (by rw [List.eq_nil_of_length_eq_zero (l := l) (by omega)]; rfl)
            | exact read_no (by rw [readO_at (by omega), if_pos (by omega)])
            | exact read_no (by rw [readO_at (by omega), if_neg (by omega), hC.2.2.2.1.none (by omega) hd]; rfl)
            | (obtain rfl : i = l[0].toNat := (by omega)
               exact read_no (by rw [readO_at (by omega), if_neg (by omega), hC.2.2.2.1.end, Option.bind_some]; dsimp only; rw [if_neg (by omega)]))
            | (obtain rfl : i = l[0].toNat := (by omega)
               exact read_yes (by rw [readO_at (by omega), if_neg (by omega), hC.2.2.2.1.end, Option.bind_some]; dsimp only; rw [if_pos (by omega), show a - 1 + 1 = a by omega]))
        · try simp only [decide_eq_false_iff_not] at h52
          refine Sx.skip ?_
          refine Sx.thenN ?_
          refine Sx.seq ?_
          refine Sx.region ?_
          refine Sx.cons ?_
          first
            | refine Sx.yl (.loadW rfl Fx.agg26 (.head _) (ck_length _)) rfl ?_
            | refine Sx.yl (.loadW rfl Fx.agg26 (.tail _ (.head _)) (ck_length _)) rfl ?_
          refine Sx.cons ?_
          refine Sx.yl (.move rfl) rfl ?_
          refine Sx.cons ?_
          first
            | refine Sx.storeW rfl rfl Fx.size26 (ckL_one _) (.head) rfl ?_
            | refine Sx.storeW rfl rfl Fx.size26 (ckL_one _) (.tail (.head)) rfl ?_
          refine Sx.cons ?_
          refine Sx.yl (.assign rfl) rfl ?_
          refine Sx.cons ?_
          refine Sx.yl (.assign rfl) rfl ?_
          refine Sx.nil ?_
          refine Sx.thenN ?_
          refine Sx.ret ?_
          first
            | refine Sx.retN (.inl rfl) rfl (.cons (.cell rfl Fx.agg26 (.head _) (ck_length _)) (.cons (.tmp rfl) (.cons (.tmp rfl) .nil))) rfl (fun W s => ⟨?_, s.ext⟩)
            | refine Sx.retN (.inl rfl) rfl (.cons (.cell rfl Fx.agg26 (.tail _ (.head _)) (ck_length _)) (.cons (.tmp rfl) (.cons (.tmp rfl) .nil))) rfl (fun W s => ⟨?_, s.ext⟩)
          first
            | exact read_no (by rw [List.eq_nil_of_length_eq_zero (l := l) (by omega)]; rfl)
            | exact read_no (by rw [readO_at (by omega), if_pos (by omega)])
            | exact read_no (by rw [readO_at (by omega), if_neg (by omega), hC.2.2.2.1.none (by omega) hd]; rfl)
            | (obtain rfl : i = l[0].toNat := (by omega)
               exact read_no (by rw [readO_at (by omega), if_neg (by omega), hC.2.2.2.1.end, Option.bind_some]; dsimp only; rw [if_neg (by omega)]))
            | (obtain rfl : i = l[0].toNat := (by omega)
               exact read_yes (by rw [readO_at (by omega), if_neg (by omega), hC.2.2.2.1.end, Option.bind_some]; dsimp only; rw [if_pos (by omega), show a - 1 + 1 = a by omega]))
end Go.Proofs.YtnmickfdflinpaaDoor
