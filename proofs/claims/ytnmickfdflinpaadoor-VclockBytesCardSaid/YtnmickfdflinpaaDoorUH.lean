/- Walk of the law Reads. -/
import Derived.Test.YtnmickfdflinpaaDoorFG
namespace Go.Proofs.YtnmickfdflinpaaDoor
open Go.RowKit Go.Par Go.Sx
theorem decU_rng : ∀ (l : List UInt8) (i v u k : Nat), i ≤ 9 → v < 128 ^ i → decU i v l = some (u, k) → u < 18446744073709551616
  | [], i, v, u, k, _, _, h => by cases h
  | b :: r, i, v, u, k, hi, hv, h => by
    unfold decU at h
    split at h
    · cases h
    · rename_i h1
      have hst := step_rng hi hv h1
      split at h
      · split at h
        · cases h
        · simp only [Option.some.injEq, Prod.mk.injEq] at h
          omega
      · rename_i h2
        have hi9 : i ≠ 9 := fun e => h1 ⟨e, by omega⟩
        exact decU_rng r (i + 1) _ u k (by omega) (hst.2 (by omega)) h
def encL (us : List Int) : List UInt8 := us.flatMap fun a => encU a.toNat
theorem readR_spec : ∀ (c : Nat) (l : List UInt8) (us : List Int) (m : Nat), readR c l = some (us, m) → us.length = c ∧ m ≤ l.length ∧ l.take m = encL us ∧ ∀ a ∈ us, 0 ≤ a ∧ a < 18446744073709551616
  | 0, l, us, m, h => by
    simp only [readR, Option.some.injEq, Prod.mk.injEq] at h
    obtain ⟨rfl, rfl⟩ := h
    simp [encL]
  | c + 1, l, us, m, h => by
    unfold readR at h
    obtain ⟨⟨u, k⟩, hd, h2⟩ := Option.bind_eq_some_iff.1 h
    obtain ⟨⟨ts, q⟩, hr, h3⟩ := Option.map_eq_some_iff.1 h2
    simp only [Prod.mk.injEq] at h3
    obtain ⟨rfl, rfl⟩ := h3
    obtain ⟨e1, e2, e3⟩ := decU_lt _ _ _ hd
    have hu := decU_rng l 0 0 u k (by omega) (by decide) hd
    obtain ⟨i1, i2, i3, i4⟩ := readR_spec c _ ts q hr
    rw [List.length_drop] at i2
    refine ⟨by simp [i1], by omega, ?_, ?_⟩
    · rw [List.take_add, e1, i3]
      simp [encL]
    · intro a ha
      rcases List.mem_cons.1 ha with rfl | ha
      · omega
      · exact i4 a ha
theorem readR_enc : ∀ (us : List Int) (r : List UInt8), (∀ a ∈ us, 0 ≤ a ∧ a < 18446744073709551616) → readR us.length (encL us ++ r) = some (us, (encL us).length)
  | [], r, _ => by simp [readR, encL]
  | a :: us, r, h => by
    have ha := h a (by simp)
    have ih := readR_enc us r (fun b hb => h b (by simp [hb]))
    have e : encL (a :: us) ++ r = encU a.toNat ++ (encL us ++ r) := by simp [encL]
    have hd := dec_enc (encL us ++ r) a.toNat 0 0 (by omega) (by omega) (.inl rfl)
    rw [Nat.zero_add, Nat.zero_add, Nat.pow_zero, Nat.mul_one] at hd
    show readR (us.length + 1) _ = _
    unfold readR
    rw [e, hd]
    simp only [Option.bind_some, List.drop_left, ih, Option.map_some]
    rw [Int.toNat_of_nonneg ha.1]
    simp [encL]
theorem encs_ent (x : Nat → Int) : encs x (lenK x 16) = encL (entL x) := by simp [encs, encL, entL, List.flatMap_map]
theorem ent_of {us : List Int} (h : lenK (ofF us) 16 = us.length) : entL (ofF us) = us := by
  apply List.ext_getElem?
  intro i
  by_cases hi : i < us.length
  · have : i < (entL (ofF us)).length := by rw [entL_length, h]; exact hi
    rw [List.getElem?_eq_getElem this, List.getElem?_eq_getElem hi]
    simp [entL, ofF, hi]
  · rw [List.getElem?_eq_none (by rw [entL_length, h]; omega), List.getElem?_eq_none (by omega)]
theorem readO_ok {l : List UInt8} {us : List Int} {m : Nat} (h : readO l = some (us, m)) : 1 ≤ m ∧ m ≤ l.length ∧ l.take m = bytesL (ofF us) ∧ U64 (ofF us) := by
  cases l with
  | nil => cases h
  | cons b r =>
    rw [readO] at h
    split at h
    · cases h
    · obtain ⟨⟨ts, q⟩, hr, h2⟩ := Option.bind_eq_some_iff.1 h
      dsimp only at h2
      split at h2
      · rename_i hl
        simp only [Option.some.injEq, Prod.mk.injEq] at h2
        obtain ⟨rfl, rfl⟩ := h2
        obtain ⟨i1, i2, i3, i4⟩ := readR_spec _ _ _ _ hr
        refine ⟨by omega, by simp; omega, ?_, of_rng i4⟩
        rw [List.take_succ_cons, i3]
        unfold bytesL
        rw [encs_ent, ent_of (by rw [hl, i1]), hl]
        simp
      · cases h2
theorem readO_enc (x : Nat → Int) (hU : U64 x) (r : List UInt8) : readO (bytesL x ++ r) = some (entL x, (bytesL x).length) := by
  have hle := lenK_le x 16
  have hb : (UInt8.ofNat (lenK x 16)).toNat = lenK x 16 := by simp; omega
  unfold bytesL
  show (if 16 < (UInt8.ofNat (lenK x 16)).toNat then none else _) = _
  rw [hb, if_neg (by omega)]
  have h := readR_enc (entL x) r (fun a ha => by
    obtain ⟨i, _, rfl⟩ := List.mem_map.1 ha
    exact hU i)
  rw [entL_length, ← encs_ent] at h
  change (readR (lenK x 16) (encs x (lenK x 16) ++ r)).bind _ = _
  rw [h, Option.bind_some]
  dsimp only
  rw [if_pos (lenK_congr 16 (ent_back x))]
  simp
theorem read_some {l : List UInt8} {us : List Int} {m : Nat} (h : readO l = some (us, m)) (H : Hp) (v0 : Value) (n : Nat) (hv : SlAt H v0 n (l.map byteV)) (w : World) (hA : Agr H w) :
    Calls Tryd.prog 30 #[v0] w fun e w' => e = .returned (.tuple #[ck (ofF us), .int .i64 (m : Nat), .int .i64 0]) ∧ Ext w w' := by
  have := read_any H v0 n l hv w hA
  unfold readV at this
  rwa [h] at this
theorem read_none {l : List UInt8} (h : readO l = none) (H : Hp) (v0 : Value) (n : Nat) (hv : SlAt H v0 n (l.map byteV)) (w : World) (hA : Agr H w) :
    Calls Tryd.prog 30 #[v0] w fun e w' => e = .returned (.tuple #[ck zeroF, .int .i64 0, .int .i64 6]) ∧ Ext w w' := by
  have := read_any H v0 n l hv w hA
  unfold readV at this
  rwa [h] at this
theorem slb_take {H : Hp} {p : Option Addr} {n c k : Nat} {l : List UInt8} (h : SlAt H (.slice p n c) n (l.map byteV)) (hk : k ≤ n) : SlAt H (.slice p k c) k ((l.take k).map byteV) := by
  obtain ⟨hn, p', c', e, hc, hcm, hs⟩ := h
  injection e with e1 e2 e3
  subst e1 e3
  rw [List.length_map] at hn
  refine ⟨by simp; omega, p, c, rfl, by omega, hcm, ?_⟩
  rcases hs with hs | ⟨b, off, arr, t, m, rfl, hb, ha⟩
  · left
    have : l = [] := by simpa using hs
    subst this; simp
  · right
    refine ⟨b, off, arr, t, m, rfl, hb, fun j u hu => ha j u ?_⟩
    have hj : j < k := by
      have := (List.getElem?_eq_some_iff.1 hu).1
      simp at this; omega
    rw [← hu, List.map_take, List.getElem?_take_of_lt hj]
theorem take_at {l : List UInt8} {arr : Array Value} {off k : Nat} (ha : ∀ (j : Nat) u, (l.map byteV)[j]? = some u → arr[off + j]? = some u) : ∀ (j : Nat) u, ((l.take k).map byteV)[j]? = some u → arr[off + j]? = some u := fun j u hu => ha j u (by
  have hj : j < k := by
    have := (List.getElem?_eq_some_iff.1 hu).1
    simp at this; omega
  rw [← hu, List.map_take, List.getElem?_take_of_lt hj])
theorem Yl.cast {P : Program} {L : Sl} {H : Hp} {w0 : World} {bs : List Res} {o : Oper} {v v' : Value} (h : Yl P L H w0 bs o v) (e : v = v') : Yl P L H w0 bs o v' := e ▸ h
set_option maxHeartbeats 4000000 in
set_option maxRecDepth 100000 in
theorem reads_short_ok (H : Hp) (v0 : Value) (n : Nat) (l : List UInt8) (hv : SlAt H v0 n (l.map byteV)) (hl : n ≤ 200) (us : List Int) (m : Nat) (hr : readO l = some (us, m)) (w : World) (hA : Agr H w) (G : Globs w) :
    Calls Tryd.prog 11 #[v0] w fun e w' => e = .returned (.bool true) ∧ Ext w w' := by
  have hv0 := hv
  obtain ⟨hn, p, c, rfl, hc, hcm, hs⟩ := hv0
  rw [List.length_map] at hn
  have hro := readO_ok hr
  have hl1 := hro.2.1
  have hl2 : l.length = n := by exact hn
  obtain ⟨b, off, arr, t, mm, rfl, hb, ha⟩ := hs.resolve_left (fun e => by have := congrArg List.length e; rw [List.length_map, List.length_nil] at this; omega)
  refine Sx.enter (H := H) Tryd.func11 rfl Tryd.ntmps11 rfl hA ?_
  refine Sx.seq ?_
  refine Sx.region ?_
  refine Sx.cons ?_
  refine Sx.yl (.assign rfl) rfl ?_
  refine Sx.nil ?_
  refine Sx.thenN ?_
  refine Sx.seq ?_
  refine Sx.seq ?_
  refine Sx.region ?_
  refine Sx.cons ?_
  refine Sx.yl (.move rfl) rfl ?_
  refine Sx.cons ?_
  refine Sx.yl (.lenSl Fx.sl62 rfl) rfl ?_
  refine Sx.cons ?_
  refine Sx.yl (.gtr rfl rfl) rfl ?_
  refine Sx.nil ?_
  refine Sx.thenN ?_
  refine Sx.cond rfl (fun h8 => ?_) (fun h8 => ?_)
  · exact absurd h8 (by simp; omega)
  · try simp only [decide_eq_false_iff_not] at h8
    refine Sx.skip ?_
    refine Sx.thenN ?_
    refine Sx.seq ?_
    refine Sx.region ?_
    refine Sx.cons ?_
    refine Sx.yl (.move rfl) rfl ?_
    refine Sx.cons ?_
    refine Sx.yl (.call Fx.call30 rfl (fun W s => read_some hr H _ _ hv W s.agr)) rfl ?_
    refine Sx.cons ?_
    refine Sx.yl (.move rfl) rfl ?_
    refine Sx.cons ?_
    refine Sx.yl (.extract rfl rfl) rfl ?_
    refine Sx.cons ?_
    refine Sx.yl (.extract rfl rfl) rfl ?_
    refine Sx.cons ?_
    refine Sx.yl (.extract rfl rfl) rfl ?_
    refine Sx.cons ?_
    refine Sx.alloc Fx.zero26 rfl (fun b3 => ?_)
    refine Sx.cons ?_
    refine Sx.storeW rfl rfl Fx.size26 (ckL_one _) (.head) rfl ?_
    refine Sx.cons ?_
    refine Sx.yl (.assign rfl) rfl ?_
    refine Sx.cons ?_
    refine Sx.yl (.assign rfl) rfl ?_
    refine Sx.nil ?_
    refine Sx.thenN ?_
    refine Sx.seq ?_
    refine Sx.seq ?_
    refine Sx.region ?_
    refine Sx.cons ?_
    refine Sx.yl (.move rfl) rfl ?_
    refine Sx.cons ?_
    refine Sx.yl (.neq rfl rfl) rfl ?_
    refine Sx.nil ?_
    refine Sx.thenN ?_
    refine Sx.condF rfl ?_
    refine Sx.skip ?_
    refine Sx.thenN ?_
    refine Sx.seq ?_
    refine Sx.anyRegion 22 #[false, false, false, false, false, false, false, false, false, false, false, false, false, false, false, false, false, false, false, false, false, false] (by kernel_rfl) rfl rfl ?_
    refine Sx.anyStep 0 [] (by kernel_rfl) ⟨?_, trivial⟩
    refine Sx.anyOp #[true, false, false, false, false, false, false, false, false, false, false, false, false, false, false, false, false, false, false, false, false, false] rfl rfl ?_
    refine Sx.yl (.call Fx.call15 rfl (fun W s => awake_any W (G.ext s.ext))) rfl ?_
    refine Sx.anyStep 1 [] (by kernel_rfl) ⟨?_, trivial⟩
    refine Sx.anyOp #[true, true, false, false, false, false, false, false, false, false, false, false, false, false, false, false, false, false, false, false, false, false] rfl rfl ?_
    refine Sx.yl (.move rfl) rfl ?_
    refine Sx.anyStep 2 [] (by kernel_rfl) ⟨?_, trivial⟩
    refine Sx.anyOp #[true, true, true, false, false, false, false, false, false, false, false, false, false, false, false, false, false, false, false, false, false, false] rfl rfl ?_
    refine Sx.guardT rfl rfl ?_
    refine Sx.yl (.move rfl) rfl ?_
    refine Sx.anyStep 3 [] (by kernel_rfl) ⟨?_, trivial⟩
    refine Sx.anyOp #[true, true, true, true, false, false, false, false, false, false, false, false, false, false, false, false, false, false, false, false, false, false] rfl rfl ?_
    refine Sx.guardT rfl rfl ?_
    refine Sx.yl (Yl.cast (.geq rfl rfl) (congrArg Value.bool (decide_eq_true (by omega)))) rfl ?_
    refine Sx.anyStep 4 [] (by kernel_rfl) ⟨?_, trivial⟩
    refine Sx.anyOp #[true, true, true, true, true, false, false, false, false, false, false, false, false, false, false, false, false, false, false, false, false, false] rfl rfl ?_
    refine Sx.yl (.pickT rfl rfl) rfl ?_
    refine Sx.anyStep 5 [] (by kernel_rfl) ⟨?_, trivial⟩
    refine Sx.anyOp #[true, true, true, true, true, true, false, false, false, false, false, false, false, false, false, false, false, false, false, false, false, false] rfl rfl ?_
    refine Sx.yl (.move rfl) rfl ?_
    refine Sx.dagIn (fun ops2 Q2 eo eq => ?_)
    have hend : ∀ (H1 : Hp) (b1 off1 c1 : Nat) (arr1 : Array Value) (t1 : TypeId) (m1 : Nat × Nat) (_ : H1 b1 = some (.cells arr1 t1 m1)) (_ : ∀ (j : Nat) u, (([] ++ bytesL (ofF us)).map byteV)[j]? = some u → arr1[off1 + j]? = some u) (_ : ∀ b o, H b = some o → H1 b = some o), Sx.At 55 [(0, .slice (some ⟨b, off, none⟩) n c), (3, .pointer (some ⟨b3, 0, none⟩)), (4, .int .i64 (m : Nat)), (39, .bool true), (40, .int .i64 (m : Nat)), (41, .slice (some ⟨b, off, none⟩) n c), (42, .int .i64 ((n : Nat) : Int)), (43, .bool true), (44, .bool true), (45, .bool true), (46, .agg (ckL (ofF us)).toArray), (47, .slice (some ⟨b1, off1, none⟩) ([] ++ bytesL (ofF us)).length c1), (48, strV ([] ++ bytesL (ofF us))), (49, .slice (some ⟨b, off, none⟩) n c), (50, .int .i64 (m : Nat)), (51, .slice (some ⟨b, off, none⟩) m c), (52, strV (l.take m)), (53, .bool (decide ((⟨([] ++ bytesL (ofF us)).toArray⟩ : ByteArray) = ⟨(l.take m).toArray⟩))), (54, .bool (decide ((⟨([] ++ bytesL (ofF us)).toArray⟩ : ByteArray) = ⟨(l.take m).toArray⟩))), (2, .bool (decide ((⟨([] ++ bytesL (ofF us)).toArray⟩ : ByteArray) = ⟨(l.take m).toArray⟩)))] H1 w [.box b3 (ckL (ofF us)) 26] (Q2 .normal) := by
      intro H1 b1 off1 c1 arr1 t1 m1 hb1 ha1 up
      subst eq
      refine Sx.thenN ?_
      refine Sx.ret ?_
      refine Sx.ret1 (.inl rfl) rfl (.tmp rfl) (fun W s => ⟨?_, s.ext⟩)
      rw [List.nil_append, hro.2.2.1]; simp
    have o6 := Sx.opAt (i := 6) eo rfl
    have o7 := Sx.opAt (i := 7) eo rfl
    have o8 := Sx.opAt (i := 8) eo rfl
    have o9 := Sx.opAt (i := 9) eo rfl
    have o10 := Sx.opAt (i := 10) eo rfl
    have o11 := Sx.opAt (i := 11) eo rfl
    have o12 := Sx.opAt (i := 12) eo rfl
    have o13 := Sx.opAt (i := 13) eo rfl
    have o14 := Sx.opAt (i := 14) eo rfl
    have o15 := Sx.opAt (i := 15) eo rfl
    have o16 := Sx.opAt (i := 16) eo rfl
    have o17 := Sx.opAt (i := 17) eo rfl
    have o18 := Sx.opAt (i := 18) eo rfl
    have o19 := Sx.opAt (i := 19) eo rfl
    have o20 := Sx.opAt (i := 20) eo rfl
    have o21 := Sx.opAt (i := 21) eo rfl
    have g5 := Sx.dstAt (i := 5) eo rfl
    have g11 := Sx.dstAt (i := 11) eo rfl
    have d1111111111111111 : ∀ (H1 : Hp) (b1 off1 c1 : Nat) (arr1 : Array Value) (t1 : TypeId) (m1 : Nat × Nat) (_ : H1 b1 = some (.cells arr1 t1 m1)) (_ : ∀ (j : Nat) u, (([] ++ bytesL (ofF us)).map byteV)[j]? = some u → arr1[off1 + j]? = some u) (_ : ∀ b o, H b = some o → H1 b = some o), Sx.At 55 [(0, .slice (some ⟨b, off, none⟩) n c), (3, .pointer (some ⟨b3, 0, none⟩)), (4, .int .i64 (m : Nat)), (39, .bool true), (40, .int .i64 (m : Nat)), (41, .slice (some ⟨b, off, none⟩) n c), (42, .int .i64 ((n : Nat) : Int)), (43, .bool true), (44, .bool true), (45, .bool true), (46, .agg (ckL (ofF us)).toArray), (47, .slice (some ⟨b1, off1, none⟩) ([] ++ bytesL (ofF us)).length c1), (48, strV ([] ++ bytesL (ofF us))), (49, .slice (some ⟨b, off, none⟩) n c), (50, .int .i64 (m : Nat)), (51, .slice (some ⟨b, off, none⟩) m c), (52, strV (l.take m)), (53, .bool (decide ((⟨([] ++ bytesL (ofF us)).toArray⟩ : ByteArray) = ⟨(l.take m).toArray⟩))), (54, .bool (decide ((⟨([] ++ bytesL (ofF us)).toArray⟩ : ByteArray) = ⟨(l.take m).toArray⟩))), (2, .bool (decide ((⟨([] ++ bytesL (ofF us)).toArray⟩ : ByteArray) = ⟨(l.take m).toArray⟩)))] H1 w [.box b3 (ckL (ofF us)) 26] (wpAny Tryd.prog .any ops2 Q2 0 #[true, true, true, true, true, true, true, true, true, true, true, true, true, true, true, true, true, true, true, true, true, true]) := by
      intro H1 b1 off1 c1 arr1 t1 m1 hb1 ha1 up
      exact Sx.anyEnd (Sx.readyAt eo (by kernel_rfl)) (hend H1 b1 off1 c1 arr1 t1 m1 hb1 ha1 up)
    have d1111111111111110 : ∀ (H1 : Hp) (b1 off1 c1 : Nat) (arr1 : Array Value) (t1 : TypeId) (m1 : Nat × Nat) (_ : H1 b1 = some (.cells arr1 t1 m1)) (_ : ∀ (j : Nat) u, (([] ++ bytesL (ofF us)).map byteV)[j]? = some u → arr1[off1 + j]? = some u) (_ : ∀ b o, H b = some o → H1 b = some o), Sx.At 55 [(0, .slice (some ⟨b, off, none⟩) n c), (3, .pointer (some ⟨b3, 0, none⟩)), (4, .int .i64 (m : Nat)), (39, .bool true), (40, .int .i64 (m : Nat)), (41, .slice (some ⟨b, off, none⟩) n c), (42, .int .i64 ((n : Nat) : Int)), (43, .bool true), (44, .bool true), (45, .bool true), (46, .agg (ckL (ofF us)).toArray), (47, .slice (some ⟨b1, off1, none⟩) ([] ++ bytesL (ofF us)).length c1), (48, strV ([] ++ bytesL (ofF us))), (49, .slice (some ⟨b, off, none⟩) n c), (50, .int .i64 (m : Nat)), (51, .slice (some ⟨b, off, none⟩) m c), (52, strV (l.take m)), (53, .bool (decide ((⟨([] ++ bytesL (ofF us)).toArray⟩ : ByteArray) = ⟨(l.take m).toArray⟩))), (54, .bool (decide ((⟨([] ++ bytesL (ofF us)).toArray⟩ : ByteArray) = ⟨(l.take m).toArray⟩)))] H1 w [.box b3 (ckL (ofF us)) 26] (wpAny Tryd.prog .any ops2 Q2 1 #[true, true, true, true, true, true, true, true, true, true, true, true, true, true, true, true, true, true, true, true, true, false]) := by
      intro H1 b1 off1 c1 arr1 t1 m1 hb1 ha1 up
      refine Sx.anyStep 21 [] (Sx.readyAt eo (by kernel_rfl)) ⟨?_, trivial⟩
      ·
        refine Sx.anyOp #[true, true, true, true, true, true, true, true, true, true, true, true, true, true, true, true, true, true, true, true, true, true] o21 rfl ?_
        refine Sx.yl (.assign rfl) rfl ?_
        exact Sx.reSl (d1111111111111111 H1 b1 off1 c1 arr1 t1 m1 hb1 ha1 up) ⟨rfl, rfl, rfl, rfl, rfl, rfl, rfl, rfl, rfl, rfl, rfl, rfl, rfl, rfl, rfl, rfl, rfl, rfl, rfl, rfl, trivial⟩
    have d1111111111111100 : ∀ (H1 : Hp) (b1 off1 c1 : Nat) (arr1 : Array Value) (t1 : TypeId) (m1 : Nat × Nat) (_ : H1 b1 = some (.cells arr1 t1 m1)) (_ : ∀ (j : Nat) u, (([] ++ bytesL (ofF us)).map byteV)[j]? = some u → arr1[off1 + j]? = some u) (_ : ∀ b o, H b = some o → H1 b = some o), Sx.At 55 [(0, .slice (some ⟨b, off, none⟩) n c), (3, .pointer (some ⟨b3, 0, none⟩)), (4, .int .i64 (m : Nat)), (39, .bool true), (40, .int .i64 (m : Nat)), (41, .slice (some ⟨b, off, none⟩) n c), (42, .int .i64 ((n : Nat) : Int)), (43, .bool true), (44, .bool true), (45, .bool true), (46, .agg (ckL (ofF us)).toArray), (47, .slice (some ⟨b1, off1, none⟩) ([] ++ bytesL (ofF us)).length c1), (48, strV ([] ++ bytesL (ofF us))), (49, .slice (some ⟨b, off, none⟩) n c), (50, .int .i64 (m : Nat)), (51, .slice (some ⟨b, off, none⟩) m c), (52, strV (l.take m)), (53, .bool (decide ((⟨([] ++ bytesL (ofF us)).toArray⟩ : ByteArray) = ⟨(l.take m).toArray⟩)))] H1 w [.box b3 (ckL (ofF us)) 26] (wpAny Tryd.prog .any ops2 Q2 2 #[true, true, true, true, true, true, true, true, true, true, true, true, true, true, true, true, true, true, true, true, false, false]) := by
      intro H1 b1 off1 c1 arr1 t1 m1 hb1 ha1 up
      refine Sx.anyStep 20 [] (Sx.readyAt eo (by kernel_rfl)) ⟨?_, trivial⟩
      ·
        refine Sx.anyOp #[true, true, true, true, true, true, true, true, true, true, true, true, true, true, true, true, true, true, true, true, true, false] o20 rfl ?_
        refine Sx.yl (.pickT rfl rfl) rfl ?_
        exact Sx.reSl (d1111111111111110 H1 b1 off1 c1 arr1 t1 m1 hb1 ha1 up) ⟨rfl, rfl, rfl, rfl, rfl, rfl, rfl, rfl, rfl, rfl, rfl, rfl, rfl, rfl, rfl, rfl, rfl, rfl, rfl, trivial⟩
    have d1111111111111000 : ∀ (H1 : Hp) (b1 off1 c1 : Nat) (arr1 : Array Value) (t1 : TypeId) (m1 : Nat × Nat) (_ : H1 b1 = some (.cells arr1 t1 m1)) (_ : ∀ (j : Nat) u, (([] ++ bytesL (ofF us)).map byteV)[j]? = some u → arr1[off1 + j]? = some u) (_ : ∀ b o, H b = some o → H1 b = some o), Sx.At 55 [(0, .slice (some ⟨b, off, none⟩) n c), (3, .pointer (some ⟨b3, 0, none⟩)), (4, .int .i64 (m : Nat)), (39, .bool true), (40, .int .i64 (m : Nat)), (41, .slice (some ⟨b, off, none⟩) n c), (42, .int .i64 ((n : Nat) : Int)), (43, .bool true), (44, .bool true), (45, .bool true), (46, .agg (ckL (ofF us)).toArray), (47, .slice (some ⟨b1, off1, none⟩) ([] ++ bytesL (ofF us)).length c1), (48, strV ([] ++ bytesL (ofF us))), (49, .slice (some ⟨b, off, none⟩) n c), (50, .int .i64 (m : Nat)), (51, .slice (some ⟨b, off, none⟩) m c), (52, strV (l.take m))] H1 w [.box b3 (ckL (ofF us)) 26] (wpAny Tryd.prog .any ops2 Q2 3 #[true, true, true, true, true, true, true, true, true, true, true, true, true, true, true, true, true, true, true, false, false, false]) := by
      intro H1 b1 off1 c1 arr1 t1 m1 hb1 ha1 up
      refine Sx.anyStep 19 [] (Sx.readyAt eo (by kernel_rfl)) ⟨?_, trivial⟩
      ·
        refine Sx.anyOp #[true, true, true, true, true, true, true, true, true, true, true, true, true, true, true, true, true, true, true, true, false, false] o19 rfl ?_
        refine Sx.guardT g11 rfl ?_
        refine Sx.yl (.eqlS rfl rfl) rfl ?_
        exact Sx.reSl (d1111111111111100 H1 b1 off1 c1 arr1 t1 m1 hb1 ha1 up) ⟨rfl, rfl, rfl, rfl, rfl, rfl, rfl, rfl, rfl, rfl, rfl, rfl, rfl, rfl, rfl, rfl, rfl, rfl, trivial⟩
    have d1111111111110000 : ∀ (H1 : Hp) (b1 off1 c1 : Nat) (arr1 : Array Value) (t1 : TypeId) (m1 : Nat × Nat) (_ : H1 b1 = some (.cells arr1 t1 m1)) (_ : ∀ (j : Nat) u, (([] ++ bytesL (ofF us)).map byteV)[j]? = some u → arr1[off1 + j]? = some u) (_ : ∀ b o, H b = some o → H1 b = some o), Sx.At 55 [(0, .slice (some ⟨b, off, none⟩) n c), (3, .pointer (some ⟨b3, 0, none⟩)), (4, .int .i64 (m : Nat)), (39, .bool true), (40, .int .i64 (m : Nat)), (41, .slice (some ⟨b, off, none⟩) n c), (42, .int .i64 ((n : Nat) : Int)), (43, .bool true), (44, .bool true), (45, .bool true), (46, .agg (ckL (ofF us)).toArray), (47, .slice (some ⟨b1, off1, none⟩) ([] ++ bytesL (ofF us)).length c1), (48, strV ([] ++ bytesL (ofF us))), (49, .slice (some ⟨b, off, none⟩) n c), (50, .int .i64 (m : Nat)), (51, .slice (some ⟨b, off, none⟩) m c)] H1 w [.box b3 (ckL (ofF us)) 26] (wpAny Tryd.prog .any ops2 Q2 4 #[true, true, true, true, true, true, true, true, true, true, true, true, true, true, true, true, true, true, false, false, false, false]) := by
      intro H1 b1 off1 c1 arr1 t1 m1 hb1 ha1 up
      refine Sx.anyStep 18 [] (Sx.readyAt eo (by kernel_rfl)) ⟨?_, trivial⟩
      ·
        refine Sx.anyOp #[true, true, true, true, true, true, true, true, true, true, true, true, true, true, true, true, true, true, true, false, false, false] o18 rfl ?_
        refine Sx.guardT g11 rfl ?_
        first
          | refine Sx.yl (.bytesStr Fx.bytes62 Fx.str9 rfl (l := l.take m) (by simp; omega) (.mem (up _ _ hb) (take_at ha))) rfl ?_
          | refine Sx.yl (.bytesStr Fx.bytes62 Fx.str9 rfl (l := l.take m) (by simp; omega) (.mem hb (take_at ha))) rfl ?_
        exact Sx.reSl (d1111111111111000 H1 b1 off1 c1 arr1 t1 m1 hb1 ha1 up) ⟨rfl, rfl, rfl, rfl, rfl, rfl, rfl, rfl, rfl, rfl, rfl, rfl, rfl, rfl, rfl, rfl, rfl, trivial⟩
    have d1111111101111000 : ∀ (H1 : Hp) (b1 off1 c1 : Nat) (arr1 : Array Value) (t1 : TypeId) (m1 : Nat × Nat) (_ : H1 b1 = some (.cells arr1 t1 m1)) (_ : ∀ (j : Nat) u, (([] ++ bytesL (ofF us)).map byteV)[j]? = some u → arr1[off1 + j]? = some u) (_ : ∀ b o, H b = some o → H1 b = some o), Sx.At 55 [(0, .slice (some ⟨b, off, none⟩) n c), (3, .pointer (some ⟨b3, 0, none⟩)), (4, .int .i64 (m : Nat)), (39, .bool true), (40, .int .i64 (m : Nat)), (41, .slice (some ⟨b, off, none⟩) n c), (42, .int .i64 ((n : Nat) : Int)), (43, .bool true), (44, .bool true), (45, .bool true), (46, .agg (ckL (ofF us)).toArray), (47, .slice (some ⟨b1, off1, none⟩) ([] ++ bytesL (ofF us)).length c1), (49, .slice (some ⟨b, off, none⟩) n c), (50, .int .i64 (m : Nat)), (51, .slice (some ⟨b, off, none⟩) m c), (52, strV (l.take m))] H1 w [.box b3 (ckL (ofF us)) 26] (wpAny Tryd.prog .any ops2 Q2 4 #[true, true, true, true, true, true, true, true, true, true, true, true, true, true, false, true, true, true, true, false, false, false]) := by
      intro H1 b1 off1 c1 arr1 t1 m1 hb1 ha1 up
      refine Sx.anyStep 14 [] (Sx.readyAt eo (by kernel_rfl)) ⟨?_, trivial⟩
      ·
        refine Sx.anyOp #[true, true, true, true, true, true, true, true, true, true, true, true, true, true, true, true, true, true, true, false, false, false] o14 rfl ?_
        refine Sx.guardT g11 rfl ?_
        refine Sx.yl (.bytesStr Fx.bytes62 Fx.str9 rfl (l := [] ++ bytesL (ofF us)) rfl (.mem hb1 ha1)) rfl ?_
        exact Sx.reSl (d1111111111111000 H1 b1 off1 c1 arr1 t1 m1 hb1 ha1 up) ⟨rfl, rfl, rfl, rfl, rfl, rfl, rfl, rfl, rfl, rfl, rfl, rfl, rfl, rfl, rfl, rfl, rfl, trivial⟩
    have d1111111111100000 : ∀ (H1 : Hp) (b1 off1 c1 : Nat) (arr1 : Array Value) (t1 : TypeId) (m1 : Nat × Nat) (_ : H1 b1 = some (.cells arr1 t1 m1)) (_ : ∀ (j : Nat) u, (([] ++ bytesL (ofF us)).map byteV)[j]? = some u → arr1[off1 + j]? = some u) (_ : ∀ b o, H b = some o → H1 b = some o), Sx.At 55 [(0, .slice (some ⟨b, off, none⟩) n c), (3, .pointer (some ⟨b3, 0, none⟩)), (4, .int .i64 (m : Nat)), (39, .bool true), (40, .int .i64 (m : Nat)), (41, .slice (some ⟨b, off, none⟩) n c), (42, .int .i64 ((n : Nat) : Int)), (43, .bool true), (44, .bool true), (45, .bool true), (46, .agg (ckL (ofF us)).toArray), (47, .slice (some ⟨b1, off1, none⟩) ([] ++ bytesL (ofF us)).length c1), (48, strV ([] ++ bytesL (ofF us))), (49, .slice (some ⟨b, off, none⟩) n c), (50, .int .i64 (m : Nat))] H1 w [.box b3 (ckL (ofF us)) 26] (wpAny Tryd.prog .any ops2 Q2 5 #[true, true, true, true, true, true, true, true, true, true, true, true, true, true, true, true, true, false, false, false, false, false]) := by
      intro H1 b1 off1 c1 arr1 t1 m1 hb1 ha1 up
      refine Sx.anyStep 17 [] (Sx.readyAt eo (by kernel_rfl)) ⟨?_, trivial⟩
      ·
        refine Sx.anyOp #[true, true, true, true, true, true, true, true, true, true, true, true, true, true, true, true, true, true, false, false, false, false] o17 rfl ?_
        refine Sx.guardT g11 rfl ?_
        refine Sx.yl (.cutHi Fx.sl62 rfl rfl rfl (h := m) (by omega) (fun q e => by rw [← Option.some.inj e])) rfl ?_
        exact Sx.reSl (d1111111111110000 H1 b1 off1 c1 arr1 t1 m1 hb1 ha1 up) ⟨rfl, rfl, rfl, rfl, rfl, rfl, rfl, rfl, rfl, rfl, rfl, rfl, rfl, rfl, rfl, rfl, trivial⟩
    have d1111111101110000 : ∀ (H1 : Hp) (b1 off1 c1 : Nat) (arr1 : Array Value) (t1 : TypeId) (m1 : Nat × Nat) (_ : H1 b1 = some (.cells arr1 t1 m1)) (_ : ∀ (j : Nat) u, (([] ++ bytesL (ofF us)).map byteV)[j]? = some u → arr1[off1 + j]? = some u) (_ : ∀ b o, H b = some o → H1 b = some o), Sx.At 55 [(0, .slice (some ⟨b, off, none⟩) n c), (3, .pointer (some ⟨b3, 0, none⟩)), (4, .int .i64 (m : Nat)), (39, .bool true), (40, .int .i64 (m : Nat)), (41, .slice (some ⟨b, off, none⟩) n c), (42, .int .i64 ((n : Nat) : Int)), (43, .bool true), (44, .bool true), (45, .bool true), (46, .agg (ckL (ofF us)).toArray), (47, .slice (some ⟨b1, off1, none⟩) ([] ++ bytesL (ofF us)).length c1), (49, .slice (some ⟨b, off, none⟩) n c), (50, .int .i64 (m : Nat)), (51, .slice (some ⟨b, off, none⟩) m c)] H1 w [.box b3 (ckL (ofF us)) 26] (wpAny Tryd.prog .any ops2 Q2 5 #[true, true, true, true, true, true, true, true, true, true, true, true, true, true, false, true, true, true, false, false, false, false]) := by
      intro H1 b1 off1 c1 arr1 t1 m1 hb1 ha1 up
      refine Sx.anyStep 14 [18] (Sx.readyAt eo (by kernel_rfl)) ⟨?_, ?_, trivial⟩
      ·
        refine Sx.anyOp #[true, true, true, true, true, true, true, true, true, true, true, true, true, true, true, true, true, true, false, false, false, false] o14 rfl ?_
        refine Sx.guardT g11 rfl ?_
        refine Sx.yl (.bytesStr Fx.bytes62 Fx.str9 rfl (l := [] ++ bytesL (ofF us)) rfl (.mem hb1 ha1)) rfl ?_
        exact Sx.reSl (d1111111111110000 H1 b1 off1 c1 arr1 t1 m1 hb1 ha1 up) ⟨rfl, rfl, rfl, rfl, rfl, rfl, rfl, rfl, rfl, rfl, rfl, rfl, rfl, rfl, rfl, rfl, trivial⟩
      ·
        refine Sx.anyOp #[true, true, true, true, true, true, true, true, true, true, true, true, true, true, false, true, true, true, true, false, false, false] o18 rfl ?_
        refine Sx.guardT g11 rfl ?_
        first
          | refine Sx.yl (.bytesStr Fx.bytes62 Fx.str9 rfl (l := l.take m) (by simp; omega) (.mem (up _ _ hb) (take_at ha))) rfl ?_
          | refine Sx.yl (.bytesStr Fx.bytes62 Fx.str9 rfl (l := l.take m) (by simp; omega) (.mem hb (take_at ha))) rfl ?_
        exact Sx.reSl (d1111111101111000 H1 b1 off1 c1 arr1 t1 m1 hb1 ha1 up) ⟨rfl, rfl, rfl, rfl, rfl, rfl, rfl, rfl, rfl, rfl, rfl, rfl, rfl, rfl, rfl, rfl, trivial⟩
    have d1111111001111000 : Sx.At 55 [(0, .slice (some ⟨b, off, none⟩) n c), (3, .pointer (some ⟨b3, 0, none⟩)), (4, .int .i64 (m : Nat)), (39, .bool true), (40, .int .i64 (m : Nat)), (41, .slice (some ⟨b, off, none⟩) n c), (42, .int .i64 ((n : Nat) : Int)), (43, .bool true), (44, .bool true), (45, .bool true), (46, .agg (ckL (ofF us)).toArray), (49, .slice (some ⟨b, off, none⟩) n c), (50, .int .i64 (m : Nat)), (51, .slice (some ⟨b, off, none⟩) m c), (52, strV (l.take m))] H w [.box b3 (ckL (ofF us)) 26] (wpAny Tryd.prog .any ops2 Q2 5 #[true, true, true, true, true, true, true, true, true, true, true, true, true, false, false, true, true, true, true, false, false, false]) := by
      refine Sx.anyStep 13 [] (Sx.readyAt eo (by kernel_rfl)) ⟨?_, trivial⟩
      ·
        refine Sx.anyOp #[true, true, true, true, true, true, true, true, true, true, true, true, true, true, false, true, true, true, true, false, false, false] o13 rfl ?_
        refine Sx.guardT g11 rfl ?_
        refine Sx.callG Fx.call31 rfl (fun W s => bytes_nil (ofF us) hro.2.2.2 _ W s.agr [] rfl) rfl (fun v H1 hv1 up => ?_)
        obtain ⟨hn1, p1, c1, rfl, hc1, hcm1, hs1⟩ := hv1
        obtain ⟨b1, off1, arr1, t1, m1, rfl, hb1, ha1⟩ := hs1.resolve_left (by simp [bytesL])
        exact Sx.reSl (d1111111101111000 H1 b1 off1 c1 arr1 t1 m1 hb1 ha1 up) ⟨rfl, rfl, rfl, rfl, rfl, rfl, rfl, rfl, rfl, rfl, rfl, rfl, rfl, rfl, rfl, rfl, trivial⟩
    have d1111111111000000 : ∀ (H1 : Hp) (b1 off1 c1 : Nat) (arr1 : Array Value) (t1 : TypeId) (m1 : Nat × Nat) (_ : H1 b1 = some (.cells arr1 t1 m1)) (_ : ∀ (j : Nat) u, (([] ++ bytesL (ofF us)).map byteV)[j]? = some u → arr1[off1 + j]? = some u) (_ : ∀ b o, H b = some o → H1 b = some o), Sx.At 55 [(0, .slice (some ⟨b, off, none⟩) n c), (3, .pointer (some ⟨b3, 0, none⟩)), (4, .int .i64 (m : Nat)), (39, .bool true), (40, .int .i64 (m : Nat)), (41, .slice (some ⟨b, off, none⟩) n c), (42, .int .i64 ((n : Nat) : Int)), (43, .bool true), (44, .bool true), (45, .bool true), (46, .agg (ckL (ofF us)).toArray), (47, .slice (some ⟨b1, off1, none⟩) ([] ++ bytesL (ofF us)).length c1), (48, strV ([] ++ bytesL (ofF us))), (49, .slice (some ⟨b, off, none⟩) n c)] H1 w [.box b3 (ckL (ofF us)) 26] (wpAny Tryd.prog .any ops2 Q2 6 #[true, true, true, true, true, true, true, true, true, true, true, true, true, true, true, true, false, false, false, false, false, false]) := by
      intro H1 b1 off1 c1 arr1 t1 m1 hb1 ha1 up
      refine Sx.anyStep 16 [] (Sx.readyAt eo (by kernel_rfl)) ⟨?_, trivial⟩
      ·
        refine Sx.anyOp #[true, true, true, true, true, true, true, true, true, true, true, true, true, true, true, true, true, false, false, false, false, false] o16 rfl ?_
        refine Sx.guardT g11 rfl ?_
        refine Sx.yl (.move rfl) rfl ?_
        exact Sx.reSl (d1111111111100000 H1 b1 off1 c1 arr1 t1 m1 hb1 ha1 up) ⟨rfl, rfl, rfl, rfl, rfl, rfl, rfl, rfl, rfl, rfl, rfl, rfl, rfl, rfl, rfl, trivial⟩
    have d1111111110100000 : ∀ (H1 : Hp) (b1 off1 c1 : Nat) (arr1 : Array Value) (t1 : TypeId) (m1 : Nat × Nat) (_ : H1 b1 = some (.cells arr1 t1 m1)) (_ : ∀ (j : Nat) u, (([] ++ bytesL (ofF us)).map byteV)[j]? = some u → arr1[off1 + j]? = some u) (_ : ∀ b o, H b = some o → H1 b = some o), Sx.At 55 [(0, .slice (some ⟨b, off, none⟩) n c), (3, .pointer (some ⟨b3, 0, none⟩)), (4, .int .i64 (m : Nat)), (39, .bool true), (40, .int .i64 (m : Nat)), (41, .slice (some ⟨b, off, none⟩) n c), (42, .int .i64 ((n : Nat) : Int)), (43, .bool true), (44, .bool true), (45, .bool true), (46, .agg (ckL (ofF us)).toArray), (47, .slice (some ⟨b1, off1, none⟩) ([] ++ bytesL (ofF us)).length c1), (48, strV ([] ++ bytesL (ofF us))), (50, .int .i64 (m : Nat))] H1 w [.box b3 (ckL (ofF us)) 26] (wpAny Tryd.prog .any ops2 Q2 6 #[true, true, true, true, true, true, true, true, true, true, true, true, true, true, true, false, true, false, false, false, false, false]) := by
      intro H1 b1 off1 c1 arr1 t1 m1 hb1 ha1 up
      refine Sx.anyStep 15 [] (Sx.readyAt eo (by kernel_rfl)) ⟨?_, trivial⟩
      ·
        refine Sx.anyOp #[true, true, true, true, true, true, true, true, true, true, true, true, true, true, true, true, true, false, false, false, false, false] o15 rfl ?_
        refine Sx.guardT g11 rfl ?_
        refine Sx.yl (.move rfl) rfl ?_
        exact Sx.reSl (d1111111111100000 H1 b1 off1 c1 arr1 t1 m1 hb1 ha1 up) ⟨rfl, rfl, rfl, rfl, rfl, rfl, rfl, rfl, rfl, rfl, rfl, rfl, rfl, rfl, rfl, trivial⟩
    have d1111111101100000 : ∀ (H1 : Hp) (b1 off1 c1 : Nat) (arr1 : Array Value) (t1 : TypeId) (m1 : Nat × Nat) (_ : H1 b1 = some (.cells arr1 t1 m1)) (_ : ∀ (j : Nat) u, (([] ++ bytesL (ofF us)).map byteV)[j]? = some u → arr1[off1 + j]? = some u) (_ : ∀ b o, H b = some o → H1 b = some o), Sx.At 55 [(0, .slice (some ⟨b, off, none⟩) n c), (3, .pointer (some ⟨b3, 0, none⟩)), (4, .int .i64 (m : Nat)), (39, .bool true), (40, .int .i64 (m : Nat)), (41, .slice (some ⟨b, off, none⟩) n c), (42, .int .i64 ((n : Nat) : Int)), (43, .bool true), (44, .bool true), (45, .bool true), (46, .agg (ckL (ofF us)).toArray), (47, .slice (some ⟨b1, off1, none⟩) ([] ++ bytesL (ofF us)).length c1), (49, .slice (some ⟨b, off, none⟩) n c), (50, .int .i64 (m : Nat))] H1 w [.box b3 (ckL (ofF us)) 26] (wpAny Tryd.prog .any ops2 Q2 6 #[true, true, true, true, true, true, true, true, true, true, true, true, true, true, false, true, true, false, false, false, false, false]) := by
      intro H1 b1 off1 c1 arr1 t1 m1 hb1 ha1 up
      refine Sx.anyStep 14 [17] (Sx.readyAt eo (by kernel_rfl)) ⟨?_, ?_, trivial⟩
      ·
        refine Sx.anyOp #[true, true, true, true, true, true, true, true, true, true, true, true, true, true, true, true, true, false, false, false, false, false] o14 rfl ?_
        refine Sx.guardT g11 rfl ?_
        refine Sx.yl (.bytesStr Fx.bytes62 Fx.str9 rfl (l := [] ++ bytesL (ofF us)) rfl (.mem hb1 ha1)) rfl ?_
        exact Sx.reSl (d1111111111100000 H1 b1 off1 c1 arr1 t1 m1 hb1 ha1 up) ⟨rfl, rfl, rfl, rfl, rfl, rfl, rfl, rfl, rfl, rfl, rfl, rfl, rfl, rfl, rfl, trivial⟩
      ·
        refine Sx.anyOp #[true, true, true, true, true, true, true, true, true, true, true, true, true, true, false, true, true, true, false, false, false, false] o17 rfl ?_
        refine Sx.guardT g11 rfl ?_
        refine Sx.yl (.cutHi Fx.sl62 rfl rfl rfl (h := m) (by omega) (fun q e => by rw [← Option.some.inj e])) rfl ?_
        exact Sx.reSl (d1111111101110000 H1 b1 off1 c1 arr1 t1 m1 hb1 ha1 up) ⟨rfl, rfl, rfl, rfl, rfl, rfl, rfl, rfl, rfl, rfl, rfl, rfl, rfl, rfl, rfl, trivial⟩
    have d1111111001110000 : Sx.At 55 [(0, .slice (some ⟨b, off, none⟩) n c), (3, .pointer (some ⟨b3, 0, none⟩)), (4, .int .i64 (m : Nat)), (39, .bool true), (40, .int .i64 (m : Nat)), (41, .slice (some ⟨b, off, none⟩) n c), (42, .int .i64 ((n : Nat) : Int)), (43, .bool true), (44, .bool true), (45, .bool true), (46, .agg (ckL (ofF us)).toArray), (49, .slice (some ⟨b, off, none⟩) n c), (50, .int .i64 (m : Nat)), (51, .slice (some ⟨b, off, none⟩) m c)] H w [.box b3 (ckL (ofF us)) 26] (wpAny Tryd.prog .any ops2 Q2 6 #[true, true, true, true, true, true, true, true, true, true, true, true, true, false, false, true, true, true, false, false, false, false]) := by
      refine Sx.anyStep 13 [18] (Sx.readyAt eo (by kernel_rfl)) ⟨?_, ?_, trivial⟩
      ·
        refine Sx.anyOp #[true, true, true, true, true, true, true, true, true, true, true, true, true, true, false, true, true, true, false, false, false, false] o13 rfl ?_
        refine Sx.guardT g11 rfl ?_
        refine Sx.callG Fx.call31 rfl (fun W s => bytes_nil (ofF us) hro.2.2.2 _ W s.agr [] rfl) rfl (fun v H1 hv1 up => ?_)
        obtain ⟨hn1, p1, c1, rfl, hc1, hcm1, hs1⟩ := hv1
        obtain ⟨b1, off1, arr1, t1, m1, rfl, hb1, ha1⟩ := hs1.resolve_left (by simp [bytesL])
        exact Sx.reSl (d1111111101110000 H1 b1 off1 c1 arr1 t1 m1 hb1 ha1 up) ⟨rfl, rfl, rfl, rfl, rfl, rfl, rfl, rfl, rfl, rfl, rfl, rfl, rfl, rfl, rfl, trivial⟩
      ·
        refine Sx.anyOp #[true, true, true, true, true, true, true, true, true, true, true, true, true, false, false, true, true, true, true, false, false, false] o18 rfl ?_
        refine Sx.guardT g11 rfl ?_
        first
          | refine Sx.yl (.bytesStr Fx.bytes62 Fx.str9 rfl (l := l.take m) (by simp; omega) (.mem (up _ _ hb) (take_at ha))) rfl ?_
          | refine Sx.yl (.bytesStr Fx.bytes62 Fx.str9 rfl (l := l.take m) (by simp; omega) (.mem hb (take_at ha))) rfl ?_
        exact Sx.reSl (d1111111001111000 ) ⟨rfl, rfl, rfl, rfl, rfl, rfl, rfl, rfl, rfl, rfl, rfl, rfl, rfl, rfl, rfl, trivial⟩
    have d1111110001111000 : Sx.At 55 [(0, .slice (some ⟨b, off, none⟩) n c), (3, .pointer (some ⟨b3, 0, none⟩)), (4, .int .i64 (m : Nat)), (39, .bool true), (40, .int .i64 (m : Nat)), (41, .slice (some ⟨b, off, none⟩) n c), (42, .int .i64 ((n : Nat) : Int)), (43, .bool true), (44, .bool true), (45, .bool true), (49, .slice (some ⟨b, off, none⟩) n c), (50, .int .i64 (m : Nat)), (51, .slice (some ⟨b, off, none⟩) m c), (52, strV (l.take m))] H w [.box b3 (ckL (ofF us)) 26] (wpAny Tryd.prog .any ops2 Q2 6 #[true, true, true, true, true, true, true, true, true, true, true, true, false, false, false, true, true, true, true, false, false, false]) := by
      refine Sx.anyStep 12 [] (Sx.readyAt eo (by kernel_rfl)) ⟨?_, trivial⟩
      ·
        refine Sx.anyOp #[true, true, true, true, true, true, true, true, true, true, true, true, true, false, false, true, true, true, true, false, false, false] o12 rfl ?_
        refine Sx.guardT g11 rfl ?_
        refine Sx.yl (.loadW rfl Fx.agg26 (.head _) (ck_length _)) rfl ?_
        exact Sx.reSl (d1111111001111000 ) ⟨rfl, rfl, rfl, rfl, rfl, rfl, rfl, rfl, rfl, rfl, rfl, rfl, rfl, rfl, rfl, trivial⟩
    have d1111111110000000 : ∀ (H1 : Hp) (b1 off1 c1 : Nat) (arr1 : Array Value) (t1 : TypeId) (m1 : Nat × Nat) (_ : H1 b1 = some (.cells arr1 t1 m1)) (_ : ∀ (j : Nat) u, (([] ++ bytesL (ofF us)).map byteV)[j]? = some u → arr1[off1 + j]? = some u) (_ : ∀ b o, H b = some o → H1 b = some o), Sx.At 55 [(0, .slice (some ⟨b, off, none⟩) n c), (3, .pointer (some ⟨b3, 0, none⟩)), (4, .int .i64 (m : Nat)), (39, .bool true), (40, .int .i64 (m : Nat)), (41, .slice (some ⟨b, off, none⟩) n c), (42, .int .i64 ((n : Nat) : Int)), (43, .bool true), (44, .bool true), (45, .bool true), (46, .agg (ckL (ofF us)).toArray), (47, .slice (some ⟨b1, off1, none⟩) ([] ++ bytesL (ofF us)).length c1), (48, strV ([] ++ bytesL (ofF us)))] H1 w [.box b3 (ckL (ofF us)) 26] (wpAny Tryd.prog .any ops2 Q2 7 #[true, true, true, true, true, true, true, true, true, true, true, true, true, true, true, false, false, false, false, false, false, false]) := by
      intro H1 b1 off1 c1 arr1 t1 m1 hb1 ha1 up
      refine Sx.anyStep 15 [16] (Sx.readyAt eo (by kernel_rfl)) ⟨?_, ?_, trivial⟩
      ·
        refine Sx.anyOp #[true, true, true, true, true, true, true, true, true, true, true, true, true, true, true, true, false, false, false, false, false, false] o15 rfl ?_
        refine Sx.guardT g11 rfl ?_
        refine Sx.yl (.move rfl) rfl ?_
        exact Sx.reSl (d1111111111000000 H1 b1 off1 c1 arr1 t1 m1 hb1 ha1 up) ⟨rfl, rfl, rfl, rfl, rfl, rfl, rfl, rfl, rfl, rfl, rfl, rfl, rfl, rfl, trivial⟩
      ·
        refine Sx.anyOp #[true, true, true, true, true, true, true, true, true, true, true, true, true, true, true, false, true, false, false, false, false, false] o16 rfl ?_
        refine Sx.guardT g11 rfl ?_
        refine Sx.yl (.move rfl) rfl ?_
        exact Sx.reSl (d1111111110100000 H1 b1 off1 c1 arr1 t1 m1 hb1 ha1 up) ⟨rfl, rfl, rfl, rfl, rfl, rfl, rfl, rfl, rfl, rfl, rfl, rfl, rfl, rfl, trivial⟩
    have d1111111101000000 : ∀ (H1 : Hp) (b1 off1 c1 : Nat) (arr1 : Array Value) (t1 : TypeId) (m1 : Nat × Nat) (_ : H1 b1 = some (.cells arr1 t1 m1)) (_ : ∀ (j : Nat) u, (([] ++ bytesL (ofF us)).map byteV)[j]? = some u → arr1[off1 + j]? = some u) (_ : ∀ b o, H b = some o → H1 b = some o), Sx.At 55 [(0, .slice (some ⟨b, off, none⟩) n c), (3, .pointer (some ⟨b3, 0, none⟩)), (4, .int .i64 (m : Nat)), (39, .bool true), (40, .int .i64 (m : Nat)), (41, .slice (some ⟨b, off, none⟩) n c), (42, .int .i64 ((n : Nat) : Int)), (43, .bool true), (44, .bool true), (45, .bool true), (46, .agg (ckL (ofF us)).toArray), (47, .slice (some ⟨b1, off1, none⟩) ([] ++ bytesL (ofF us)).length c1), (49, .slice (some ⟨b, off, none⟩) n c)] H1 w [.box b3 (ckL (ofF us)) 26] (wpAny Tryd.prog .any ops2 Q2 7 #[true, true, true, true, true, true, true, true, true, true, true, true, true, true, false, true, false, false, false, false, false, false]) := by
      intro H1 b1 off1 c1 arr1 t1 m1 hb1 ha1 up
      refine Sx.anyStep 14 [16] (Sx.readyAt eo (by kernel_rfl)) ⟨?_, ?_, trivial⟩
      ·
        refine Sx.anyOp #[true, true, true, true, true, true, true, true, true, true, true, true, true, true, true, true, false, false, false, false, false, false] o14 rfl ?_
        refine Sx.guardT g11 rfl ?_
        refine Sx.yl (.bytesStr Fx.bytes62 Fx.str9 rfl (l := [] ++ bytesL (ofF us)) rfl (.mem hb1 ha1)) rfl ?_
        exact Sx.reSl (d1111111111000000 H1 b1 off1 c1 arr1 t1 m1 hb1 ha1 up) ⟨rfl, rfl, rfl, rfl, rfl, rfl, rfl, rfl, rfl, rfl, rfl, rfl, rfl, rfl, trivial⟩
      ·
        refine Sx.anyOp #[true, true, true, true, true, true, true, true, true, true, true, true, true, true, false, true, true, false, false, false, false, false] o16 rfl ?_
        refine Sx.guardT g11 rfl ?_
        refine Sx.yl (.move rfl) rfl ?_
        exact Sx.reSl (d1111111101100000 H1 b1 off1 c1 arr1 t1 m1 hb1 ha1 up) ⟨rfl, rfl, rfl, rfl, rfl, rfl, rfl, rfl, rfl, rfl, rfl, rfl, rfl, rfl, trivial⟩
    have d1111111100100000 : ∀ (H1 : Hp) (b1 off1 c1 : Nat) (arr1 : Array Value) (t1 : TypeId) (m1 : Nat × Nat) (_ : H1 b1 = some (.cells arr1 t1 m1)) (_ : ∀ (j : Nat) u, (([] ++ bytesL (ofF us)).map byteV)[j]? = some u → arr1[off1 + j]? = some u) (_ : ∀ b o, H b = some o → H1 b = some o), Sx.At 55 [(0, .slice (some ⟨b, off, none⟩) n c), (3, .pointer (some ⟨b3, 0, none⟩)), (4, .int .i64 (m : Nat)), (39, .bool true), (40, .int .i64 (m : Nat)), (41, .slice (some ⟨b, off, none⟩) n c), (42, .int .i64 ((n : Nat) : Int)), (43, .bool true), (44, .bool true), (45, .bool true), (46, .agg (ckL (ofF us)).toArray), (47, .slice (some ⟨b1, off1, none⟩) ([] ++ bytesL (ofF us)).length c1), (50, .int .i64 (m : Nat))] H1 w [.box b3 (ckL (ofF us)) 26] (wpAny Tryd.prog .any ops2 Q2 7 #[true, true, true, true, true, true, true, true, true, true, true, true, true, true, false, false, true, false, false, false, false, false]) := by
      intro H1 b1 off1 c1 arr1 t1 m1 hb1 ha1 up
      refine Sx.anyStep 14 [15] (Sx.readyAt eo (by kernel_rfl)) ⟨?_, ?_, trivial⟩
      ·
        refine Sx.anyOp #[true, true, true, true, true, true, true, true, true, true, true, true, true, true, true, false, true, false, false, false, false, false] o14 rfl ?_
        refine Sx.guardT g11 rfl ?_
        refine Sx.yl (.bytesStr Fx.bytes62 Fx.str9 rfl (l := [] ++ bytesL (ofF us)) rfl (.mem hb1 ha1)) rfl ?_
        exact Sx.reSl (d1111111110100000 H1 b1 off1 c1 arr1 t1 m1 hb1 ha1 up) ⟨rfl, rfl, rfl, rfl, rfl, rfl, rfl, rfl, rfl, rfl, rfl, rfl, rfl, rfl, trivial⟩
      ·
        refine Sx.anyOp #[true, true, true, true, true, true, true, true, true, true, true, true, true, true, false, true, true, false, false, false, false, false] o15 rfl ?_
        refine Sx.guardT g11 rfl ?_
        refine Sx.yl (.move rfl) rfl ?_
        exact Sx.reSl (d1111111101100000 H1 b1 off1 c1 arr1 t1 m1 hb1 ha1 up) ⟨rfl, rfl, rfl, rfl, rfl, rfl, rfl, rfl, rfl, rfl, rfl, rfl, rfl, rfl, trivial⟩
    have d1111111001100000 : Sx.At 55 [(0, .slice (some ⟨b, off, none⟩) n c), (3, .pointer (some ⟨b3, 0, none⟩)), (4, .int .i64 (m : Nat)), (39, .bool true), (40, .int .i64 (m : Nat)), (41, .slice (some ⟨b, off, none⟩) n c), (42, .int .i64 ((n : Nat) : Int)), (43, .bool true), (44, .bool true), (45, .bool true), (46, .agg (ckL (ofF us)).toArray), (49, .slice (some ⟨b, off, none⟩) n c), (50, .int .i64 (m : Nat))] H w [.box b3 (ckL (ofF us)) 26] (wpAny Tryd.prog .any ops2 Q2 7 #[true, true, true, true, true, true, true, true, true, true, true, true, true, false, false, true, true, false, false, false, false, false]) := by
      refine Sx.anyStep 13 [17] (Sx.readyAt eo (by kernel_rfl)) ⟨?_, ?_, trivial⟩
      ·
        refine Sx.anyOp #[true, true, true, true, true, true, true, true, true, true, true, true, true, true, false, true, true, false, false, false, false, false] o13 rfl ?_
        refine Sx.guardT g11 rfl ?_
        refine Sx.callG Fx.call31 rfl (fun W s => bytes_nil (ofF us) hro.2.2.2 _ W s.agr [] rfl) rfl (fun v H1 hv1 up => ?_)
        obtain ⟨hn1, p1, c1, rfl, hc1, hcm1, hs1⟩ := hv1
        obtain ⟨b1, off1, arr1, t1, m1, rfl, hb1, ha1⟩ := hs1.resolve_left (by simp [bytesL])
        exact Sx.reSl (d1111111101100000 H1 b1 off1 c1 arr1 t1 m1 hb1 ha1 up) ⟨rfl, rfl, rfl, rfl, rfl, rfl, rfl, rfl, rfl, rfl, rfl, rfl, rfl, rfl, trivial⟩
      ·
        refine Sx.anyOp #[true, true, true, true, true, true, true, true, true, true, true, true, true, false, false, true, true, true, false, false, false, false] o17 rfl ?_
        refine Sx.guardT g11 rfl ?_
        refine Sx.yl (.cutHi Fx.sl62 rfl rfl rfl (h := m) (by omega) (fun q e => by rw [← Option.some.inj e])) rfl ?_
        exact Sx.reSl (d1111111001110000 ) ⟨rfl, rfl, rfl, rfl, rfl, rfl, rfl, rfl, rfl, rfl, rfl, rfl, rfl, rfl, trivial⟩
    have d1111110001110000 : Sx.At 55 [(0, .slice (some ⟨b, off, none⟩) n c), (3, .pointer (some ⟨b3, 0, none⟩)), (4, .int .i64 (m : Nat)), (39, .bool true), (40, .int .i64 (m : Nat)), (41, .slice (some ⟨b, off, none⟩) n c), (42, .int .i64 ((n : Nat) : Int)), (43, .bool true), (44, .bool true), (45, .bool true), (49, .slice (some ⟨b, off, none⟩) n c), (50, .int .i64 (m : Nat)), (51, .slice (some ⟨b, off, none⟩) m c)] H w [.box b3 (ckL (ofF us)) 26] (wpAny Tryd.prog .any ops2 Q2 7 #[true, true, true, true, true, true, true, true, true, true, true, true, false, false, false, true, true, true, false, false, false, false]) := by
      refine Sx.anyStep 12 [18] (Sx.readyAt eo (by kernel_rfl)) ⟨?_, ?_, trivial⟩
      ·
        refine Sx.anyOp #[true, true, true, true, true, true, true, true, true, true, true, true, true, false, false, true, true, true, false, false, false, false] o12 rfl ?_
        refine Sx.guardT g11 rfl ?_
        refine Sx.yl (.loadW rfl Fx.agg26 (.head _) (ck_length _)) rfl ?_
        exact Sx.reSl (d1111111001110000 ) ⟨rfl, rfl, rfl, rfl, rfl, rfl, rfl, rfl, rfl, rfl, rfl, rfl, rfl, rfl, trivial⟩
      ·
        refine Sx.anyOp #[true, true, true, true, true, true, true, true, true, true, true, true, false, false, false, true, true, true, true, false, false, false] o18 rfl ?_
        refine Sx.guardT g11 rfl ?_
        first
          | refine Sx.yl (.bytesStr Fx.bytes62 Fx.str9 rfl (l := l.take m) (by simp; omega) (.mem (up _ _ hb) (take_at ha))) rfl ?_
          | refine Sx.yl (.bytesStr Fx.bytes62 Fx.str9 rfl (l := l.take m) (by simp; omega) (.mem hb (take_at ha))) rfl ?_
        exact Sx.reSl (d1111110001111000 ) ⟨rfl, rfl, rfl, rfl, rfl, rfl, rfl, rfl, rfl, rfl, rfl, rfl, rfl, rfl, trivial⟩
    have d1111111100000000 : ∀ (H1 : Hp) (b1 off1 c1 : Nat) (arr1 : Array Value) (t1 : TypeId) (m1 : Nat × Nat) (_ : H1 b1 = some (.cells arr1 t1 m1)) (_ : ∀ (j : Nat) u, (([] ++ bytesL (ofF us)).map byteV)[j]? = some u → arr1[off1 + j]? = some u) (_ : ∀ b o, H b = some o → H1 b = some o), Sx.At 55 [(0, .slice (some ⟨b, off, none⟩) n c), (3, .pointer (some ⟨b3, 0, none⟩)), (4, .int .i64 (m : Nat)), (39, .bool true), (40, .int .i64 (m : Nat)), (41, .slice (some ⟨b, off, none⟩) n c), (42, .int .i64 ((n : Nat) : Int)), (43, .bool true), (44, .bool true), (45, .bool true), (46, .agg (ckL (ofF us)).toArray), (47, .slice (some ⟨b1, off1, none⟩) ([] ++ bytesL (ofF us)).length c1)] H1 w [.box b3 (ckL (ofF us)) 26] (wpAny Tryd.prog .any ops2 Q2 8 #[true, true, true, true, true, true, true, true, true, true, true, true, true, true, false, false, false, false, false, false, false, false]) := by
      intro H1 b1 off1 c1 arr1 t1 m1 hb1 ha1 up
      refine Sx.anyStep 14 [15, 16] (Sx.readyAt eo (by kernel_rfl)) ⟨?_, ?_, ?_, trivial⟩
      ·
        refine Sx.anyOp #[true, true, true, true, true, true, true, true, true, true, true, true, true, true, true, false, false, false, false, false, false, false] o14 rfl ?_
        refine Sx.guardT g11 rfl ?_
        refine Sx.yl (.bytesStr Fx.bytes62 Fx.str9 rfl (l := [] ++ bytesL (ofF us)) rfl (.mem hb1 ha1)) rfl ?_
        exact Sx.reSl (d1111111110000000 H1 b1 off1 c1 arr1 t1 m1 hb1 ha1 up) ⟨rfl, rfl, rfl, rfl, rfl, rfl, rfl, rfl, rfl, rfl, rfl, rfl, rfl, trivial⟩
      ·
        refine Sx.anyOp #[true, true, true, true, true, true, true, true, true, true, true, true, true, true, false, true, false, false, false, false, false, false] o15 rfl ?_
        refine Sx.guardT g11 rfl ?_
        refine Sx.yl (.move rfl) rfl ?_
        exact Sx.reSl (d1111111101000000 H1 b1 off1 c1 arr1 t1 m1 hb1 ha1 up) ⟨rfl, rfl, rfl, rfl, rfl, rfl, rfl, rfl, rfl, rfl, rfl, rfl, rfl, trivial⟩
      ·
        refine Sx.anyOp #[true, true, true, true, true, true, true, true, true, true, true, true, true, true, false, false, true, false, false, false, false, false] o16 rfl ?_
        refine Sx.guardT g11 rfl ?_
        refine Sx.yl (.move rfl) rfl ?_
        exact Sx.reSl (d1111111100100000 H1 b1 off1 c1 arr1 t1 m1 hb1 ha1 up) ⟨rfl, rfl, rfl, rfl, rfl, rfl, rfl, rfl, rfl, rfl, rfl, rfl, rfl, trivial⟩
    have d1111111001000000 : Sx.At 55 [(0, .slice (some ⟨b, off, none⟩) n c), (3, .pointer (some ⟨b3, 0, none⟩)), (4, .int .i64 (m : Nat)), (39, .bool true), (40, .int .i64 (m : Nat)), (41, .slice (some ⟨b, off, none⟩) n c), (42, .int .i64 ((n : Nat) : Int)), (43, .bool true), (44, .bool true), (45, .bool true), (46, .agg (ckL (ofF us)).toArray), (49, .slice (some ⟨b, off, none⟩) n c)] H w [.box b3 (ckL (ofF us)) 26] (wpAny Tryd.prog .any ops2 Q2 8 #[true, true, true, true, true, true, true, true, true, true, true, true, true, false, false, true, false, false, false, false, false, false]) := by
      refine Sx.anyStep 13 [16] (Sx.readyAt eo (by kernel_rfl)) ⟨?_, ?_, trivial⟩
      ·
        refine Sx.anyOp #[true, true, true, true, true, true, true, true, true, true, true, true, true, true, false, true, false, false, false, false, false, false] o13 rfl ?_
        refine Sx.guardT g11 rfl ?_
        refine Sx.callG Fx.call31 rfl (fun W s => bytes_nil (ofF us) hro.2.2.2 _ W s.agr [] rfl) rfl (fun v H1 hv1 up => ?_)
        obtain ⟨hn1, p1, c1, rfl, hc1, hcm1, hs1⟩ := hv1
        obtain ⟨b1, off1, arr1, t1, m1, rfl, hb1, ha1⟩ := hs1.resolve_left (by simp [bytesL])
        exact Sx.reSl (d1111111101000000 H1 b1 off1 c1 arr1 t1 m1 hb1 ha1 up) ⟨rfl, rfl, rfl, rfl, rfl, rfl, rfl, rfl, rfl, rfl, rfl, rfl, rfl, trivial⟩
      ·
        refine Sx.anyOp #[true, true, true, true, true, true, true, true, true, true, true, true, true, false, false, true, true, false, false, false, false, false] o16 rfl ?_
        refine Sx.guardT g11 rfl ?_
        refine Sx.yl (.move rfl) rfl ?_
        exact Sx.reSl (d1111111001100000 ) ⟨rfl, rfl, rfl, rfl, rfl, rfl, rfl, rfl, rfl, rfl, rfl, rfl, rfl, trivial⟩
    have d1111111000100000 : Sx.At 55 [(0, .slice (some ⟨b, off, none⟩) n c), (3, .pointer (some ⟨b3, 0, none⟩)), (4, .int .i64 (m : Nat)), (39, .bool true), (40, .int .i64 (m : Nat)), (41, .slice (some ⟨b, off, none⟩) n c), (42, .int .i64 ((n : Nat) : Int)), (43, .bool true), (44, .bool true), (45, .bool true), (46, .agg (ckL (ofF us)).toArray), (50, .int .i64 (m : Nat))] H w [.box b3 (ckL (ofF us)) 26] (wpAny Tryd.prog .any ops2 Q2 8 #[true, true, true, true, true, true, true, true, true, true, true, true, true, false, false, false, true, false, false, false, false, false]) := by
      refine Sx.anyStep 13 [15] (Sx.readyAt eo (by kernel_rfl)) ⟨?_, ?_, trivial⟩
      ·
        refine Sx.anyOp #[true, true, true, true, true, true, true, true, true, true, true, true, true, true, false, false, true, false, false, false, false, false] o13 rfl ?_
        refine Sx.guardT g11 rfl ?_
        refine Sx.callG Fx.call31 rfl (fun W s => bytes_nil (ofF us) hro.2.2.2 _ W s.agr [] rfl) rfl (fun v H1 hv1 up => ?_)
        obtain ⟨hn1, p1, c1, rfl, hc1, hcm1, hs1⟩ := hv1
        obtain ⟨b1, off1, arr1, t1, m1, rfl, hb1, ha1⟩ := hs1.resolve_left (by simp [bytesL])
        exact Sx.reSl (d1111111100100000 H1 b1 off1 c1 arr1 t1 m1 hb1 ha1 up) ⟨rfl, rfl, rfl, rfl, rfl, rfl, rfl, rfl, rfl, rfl, rfl, rfl, rfl, trivial⟩
      ·
        refine Sx.anyOp #[true, true, true, true, true, true, true, true, true, true, true, true, true, false, false, true, true, false, false, false, false, false] o15 rfl ?_
        refine Sx.guardT g11 rfl ?_
        refine Sx.yl (.move rfl) rfl ?_
        exact Sx.reSl (d1111111001100000 ) ⟨rfl, rfl, rfl, rfl, rfl, rfl, rfl, rfl, rfl, rfl, rfl, rfl, rfl, trivial⟩
    have d1111110001100000 : Sx.At 55 [(0, .slice (some ⟨b, off, none⟩) n c), (3, .pointer (some ⟨b3, 0, none⟩)), (4, .int .i64 (m : Nat)), (39, .bool true), (40, .int .i64 (m : Nat)), (41, .slice (some ⟨b, off, none⟩) n c), (42, .int .i64 ((n : Nat) : Int)), (43, .bool true), (44, .bool true), (45, .bool true), (49, .slice (some ⟨b, off, none⟩) n c), (50, .int .i64 (m : Nat))] H w [.box b3 (ckL (ofF us)) 26] (wpAny Tryd.prog .any ops2 Q2 8 #[true, true, true, true, true, true, true, true, true, true, true, true, false, false, false, true, true, false, false, false, false, false]) := by
      refine Sx.anyStep 12 [17] (Sx.readyAt eo (by kernel_rfl)) ⟨?_, ?_, trivial⟩
      ·
        refine Sx.anyOp #[true, true, true, true, true, true, true, true, true, true, true, true, true, false, false, true, true, false, false, false, false, false] o12 rfl ?_
        refine Sx.guardT g11 rfl ?_
        refine Sx.yl (.loadW rfl Fx.agg26 (.head _) (ck_length _)) rfl ?_
        exact Sx.reSl (d1111111001100000 ) ⟨rfl, rfl, rfl, rfl, rfl, rfl, rfl, rfl, rfl, rfl, rfl, rfl, rfl, trivial⟩
      ·
        refine Sx.anyOp #[true, true, true, true, true, true, true, true, true, true, true, true, false, false, false, true, true, true, false, false, false, false] o17 rfl ?_
        refine Sx.guardT g11 rfl ?_
        refine Sx.yl (.cutHi Fx.sl62 rfl rfl rfl (h := m) (by omega) (fun q e => by rw [← Option.some.inj e])) rfl ?_
        exact Sx.reSl (d1111110001110000 ) ⟨rfl, rfl, rfl, rfl, rfl, rfl, rfl, rfl, rfl, rfl, rfl, rfl, rfl, trivial⟩
    have d1111111000000000 : Sx.At 55 [(0, .slice (some ⟨b, off, none⟩) n c), (3, .pointer (some ⟨b3, 0, none⟩)), (4, .int .i64 (m : Nat)), (39, .bool true), (40, .int .i64 (m : Nat)), (41, .slice (some ⟨b, off, none⟩) n c), (42, .int .i64 ((n : Nat) : Int)), (43, .bool true), (44, .bool true), (45, .bool true), (46, .agg (ckL (ofF us)).toArray)] H w [.box b3 (ckL (ofF us)) 26] (wpAny Tryd.prog .any ops2 Q2 9 #[true, true, true, true, true, true, true, true, true, true, true, true, true, false, false, false, false, false, false, false, false, false]) := by
      refine Sx.anyStep 13 [15, 16] (Sx.readyAt eo (by kernel_rfl)) ⟨?_, ?_, ?_, trivial⟩
      ·
        refine Sx.anyOp #[true, true, true, true, true, true, true, true, true, true, true, true, true, true, false, false, false, false, false, false, false, false] o13 rfl ?_
        refine Sx.guardT g11 rfl ?_
        refine Sx.callG Fx.call31 rfl (fun W s => bytes_nil (ofF us) hro.2.2.2 _ W s.agr [] rfl) rfl (fun v H1 hv1 up => ?_)
        obtain ⟨hn1, p1, c1, rfl, hc1, hcm1, hs1⟩ := hv1
        obtain ⟨b1, off1, arr1, t1, m1, rfl, hb1, ha1⟩ := hs1.resolve_left (by simp [bytesL])
        exact Sx.reSl (d1111111100000000 H1 b1 off1 c1 arr1 t1 m1 hb1 ha1 up) ⟨rfl, rfl, rfl, rfl, rfl, rfl, rfl, rfl, rfl, rfl, rfl, rfl, trivial⟩
      ·
        refine Sx.anyOp #[true, true, true, true, true, true, true, true, true, true, true, true, true, false, false, true, false, false, false, false, false, false] o15 rfl ?_
        refine Sx.guardT g11 rfl ?_
        refine Sx.yl (.move rfl) rfl ?_
        exact Sx.reSl (d1111111001000000 ) ⟨rfl, rfl, rfl, rfl, rfl, rfl, rfl, rfl, rfl, rfl, rfl, rfl, trivial⟩
      ·
        refine Sx.anyOp #[true, true, true, true, true, true, true, true, true, true, true, true, true, false, false, false, true, false, false, false, false, false] o16 rfl ?_
        refine Sx.guardT g11 rfl ?_
        refine Sx.yl (.move rfl) rfl ?_
        exact Sx.reSl (d1111111000100000 ) ⟨rfl, rfl, rfl, rfl, rfl, rfl, rfl, rfl, rfl, rfl, rfl, rfl, trivial⟩
    have d1111110001000000 : Sx.At 55 [(0, .slice (some ⟨b, off, none⟩) n c), (3, .pointer (some ⟨b3, 0, none⟩)), (4, .int .i64 (m : Nat)), (39, .bool true), (40, .int .i64 (m : Nat)), (41, .slice (some ⟨b, off, none⟩) n c), (42, .int .i64 ((n : Nat) : Int)), (43, .bool true), (44, .bool true), (45, .bool true), (49, .slice (some ⟨b, off, none⟩) n c)] H w [.box b3 (ckL (ofF us)) 26] (wpAny Tryd.prog .any ops2 Q2 9 #[true, true, true, true, true, true, true, true, true, true, true, true, false, false, false, true, false, false, false, false, false, false]) := by
      refine Sx.anyStep 12 [16] (Sx.readyAt eo (by kernel_rfl)) ⟨?_, ?_, trivial⟩
      ·
        refine Sx.anyOp #[true, true, true, true, true, true, true, true, true, true, true, true, true, false, false, true, false, false, false, false, false, false] o12 rfl ?_
        refine Sx.guardT g11 rfl ?_
        refine Sx.yl (.loadW rfl Fx.agg26 (.head _) (ck_length _)) rfl ?_
        exact Sx.reSl (d1111111001000000 ) ⟨rfl, rfl, rfl, rfl, rfl, rfl, rfl, rfl, rfl, rfl, rfl, rfl, trivial⟩
      ·
        refine Sx.anyOp #[true, true, true, true, true, true, true, true, true, true, true, true, false, false, false, true, true, false, false, false, false, false] o16 rfl ?_
        refine Sx.guardT g11 rfl ?_
        refine Sx.yl (.move rfl) rfl ?_
        exact Sx.reSl (d1111110001100000 ) ⟨rfl, rfl, rfl, rfl, rfl, rfl, rfl, rfl, rfl, rfl, rfl, rfl, trivial⟩
    have d1111110000100000 : Sx.At 55 [(0, .slice (some ⟨b, off, none⟩) n c), (3, .pointer (some ⟨b3, 0, none⟩)), (4, .int .i64 (m : Nat)), (39, .bool true), (40, .int .i64 (m : Nat)), (41, .slice (some ⟨b, off, none⟩) n c), (42, .int .i64 ((n : Nat) : Int)), (43, .bool true), (44, .bool true), (45, .bool true), (50, .int .i64 (m : Nat))] H w [.box b3 (ckL (ofF us)) 26] (wpAny Tryd.prog .any ops2 Q2 9 #[true, true, true, true, true, true, true, true, true, true, true, true, false, false, false, false, true, false, false, false, false, false]) := by
      refine Sx.anyStep 12 [15] (Sx.readyAt eo (by kernel_rfl)) ⟨?_, ?_, trivial⟩
      ·
        refine Sx.anyOp #[true, true, true, true, true, true, true, true, true, true, true, true, true, false, false, false, true, false, false, false, false, false] o12 rfl ?_
        refine Sx.guardT g11 rfl ?_
        refine Sx.yl (.loadW rfl Fx.agg26 (.head _) (ck_length _)) rfl ?_
        exact Sx.reSl (d1111111000100000 ) ⟨rfl, rfl, rfl, rfl, rfl, rfl, rfl, rfl, rfl, rfl, rfl, rfl, trivial⟩
      ·
        refine Sx.anyOp #[true, true, true, true, true, true, true, true, true, true, true, true, false, false, false, true, true, false, false, false, false, false] o15 rfl ?_
        refine Sx.guardT g11 rfl ?_
        refine Sx.yl (.move rfl) rfl ?_
        exact Sx.reSl (d1111110001100000 ) ⟨rfl, rfl, rfl, rfl, rfl, rfl, rfl, rfl, rfl, rfl, rfl, rfl, trivial⟩
    have d1111110000000000 : Sx.At 55 [(0, .slice (some ⟨b, off, none⟩) n c), (3, .pointer (some ⟨b3, 0, none⟩)), (4, .int .i64 (m : Nat)), (39, .bool true), (40, .int .i64 (m : Nat)), (41, .slice (some ⟨b, off, none⟩) n c), (42, .int .i64 ((n : Nat) : Int)), (43, .bool true), (44, .bool true), (45, .bool true)] H w [.box b3 (ckL (ofF us)) 26] (wpAny Tryd.prog .any ops2 Q2 10 #[true, true, true, true, true, true, true, true, true, true, true, true, false, false, false, false, false, false, false, false, false, false]) := by
      refine Sx.anyStep 12 [15, 16] (Sx.readyAt eo (by kernel_rfl)) ⟨?_, ?_, ?_, trivial⟩
      ·
        refine Sx.anyOp #[true, true, true, true, true, true, true, true, true, true, true, true, true, false, false, false, false, false, false, false, false, false] o12 rfl ?_
        refine Sx.guardT g11 rfl ?_
        refine Sx.yl (.loadW rfl Fx.agg26 (.head _) (ck_length _)) rfl ?_
        exact Sx.reSl (d1111111000000000 ) ⟨rfl, rfl, rfl, rfl, rfl, rfl, rfl, rfl, rfl, rfl, rfl, trivial⟩
      ·
        refine Sx.anyOp #[true, true, true, true, true, true, true, true, true, true, true, true, false, false, false, true, false, false, false, false, false, false] o15 rfl ?_
        refine Sx.guardT g11 rfl ?_
        refine Sx.yl (.move rfl) rfl ?_
        exact Sx.reSl (d1111110001000000 ) ⟨rfl, rfl, rfl, rfl, rfl, rfl, rfl, rfl, rfl, rfl, rfl, trivial⟩
      ·
        refine Sx.anyOp #[true, true, true, true, true, true, true, true, true, true, true, true, false, false, false, false, true, false, false, false, false, false] o16 rfl ?_
        refine Sx.guardT g11 rfl ?_
        refine Sx.yl (.move rfl) rfl ?_
        exact Sx.reSl (d1111110000100000 ) ⟨rfl, rfl, rfl, rfl, rfl, rfl, rfl, rfl, rfl, rfl, rfl, trivial⟩
    have d1111100000000000 : Sx.At 55 [(0, .slice (some ⟨b, off, none⟩) n c), (3, .pointer (some ⟨b3, 0, none⟩)), (4, .int .i64 (m : Nat)), (39, .bool true), (40, .int .i64 (m : Nat)), (41, .slice (some ⟨b, off, none⟩) n c), (42, .int .i64 ((n : Nat) : Int)), (43, .bool true), (44, .bool true)] H w [.box b3 (ckL (ofF us)) 26] (wpAny Tryd.prog .any ops2 Q2 11 #[true, true, true, true, true, true, true, true, true, true, true, false, false, false, false, false, false, false, false, false, false, false]) := by
      refine Sx.anyStep 11 [] (Sx.readyAt eo (by kernel_rfl)) ⟨?_, trivial⟩
      ·
        refine Sx.anyOp #[true, true, true, true, true, true, true, true, true, true, true, true, false, false, false, false, false, false, false, false, false, false] o11 rfl ?_
        refine Sx.yl (.move rfl) rfl ?_
        exact Sx.reSl (d1111110000000000 ) ⟨rfl, rfl, rfl, rfl, rfl, rfl, rfl, rfl, rfl, rfl, trivial⟩
    have d1111000000000000 : Sx.At 55 [(0, .slice (some ⟨b, off, none⟩) n c), (3, .pointer (some ⟨b3, 0, none⟩)), (4, .int .i64 (m : Nat)), (39, .bool true), (40, .int .i64 (m : Nat)), (41, .slice (some ⟨b, off, none⟩) n c), (42, .int .i64 ((n : Nat) : Int)), (43, .bool true)] H w [.box b3 (ckL (ofF us)) 26] (wpAny Tryd.prog .any ops2 Q2 12 #[true, true, true, true, true, true, true, true, true, true, false, false, false, false, false, false, false, false, false, false, false, false]) := by
      refine Sx.anyStep 10 [] (Sx.readyAt eo (by kernel_rfl)) ⟨?_, trivial⟩
      ·
        refine Sx.anyOp #[true, true, true, true, true, true, true, true, true, true, true, false, false, false, false, false, false, false, false, false, false, false] o10 rfl ?_
        refine Sx.yl (.pickT rfl rfl) rfl ?_
        exact Sx.reSl (d1111100000000000 ) ⟨rfl, rfl, rfl, rfl, rfl, rfl, rfl, rfl, rfl, trivial⟩
    have d1110000000000000 : Sx.At 55 [(0, .slice (some ⟨b, off, none⟩) n c), (3, .pointer (some ⟨b3, 0, none⟩)), (4, .int .i64 (m : Nat)), (39, .bool true), (40, .int .i64 (m : Nat)), (41, .slice (some ⟨b, off, none⟩) n c), (42, .int .i64 ((n : Nat) : Int))] H w [.box b3 (ckL (ofF us)) 26] (wpAny Tryd.prog .any ops2 Q2 13 #[true, true, true, true, true, true, true, true, true, false, false, false, false, false, false, false, false, false, false, false, false, false]) := by
      refine Sx.anyStep 9 [] (Sx.readyAt eo (by kernel_rfl)) ⟨?_, trivial⟩
      ·
        refine Sx.anyOp #[true, true, true, true, true, true, true, true, true, true, false, false, false, false, false, false, false, false, false, false, false, false] o9 rfl ?_
        refine Sx.guardT g5 rfl ?_
        refine Sx.yl (Yl.cast (.leq rfl rfl) (congrArg Value.bool (decide_eq_true (by omega)))) rfl ?_
        exact Sx.reSl (d1111000000000000 ) ⟨rfl, rfl, rfl, rfl, rfl, rfl, rfl, rfl, trivial⟩
    have d1100000000000000 : Sx.At 55 [(0, .slice (some ⟨b, off, none⟩) n c), (3, .pointer (some ⟨b3, 0, none⟩)), (4, .int .i64 (m : Nat)), (39, .bool true), (40, .int .i64 (m : Nat)), (41, .slice (some ⟨b, off, none⟩) n c)] H w [.box b3 (ckL (ofF us)) 26] (wpAny Tryd.prog .any ops2 Q2 14 #[true, true, true, true, true, true, true, true, false, false, false, false, false, false, false, false, false, false, false, false, false, false]) := by
      refine Sx.anyStep 8 [] (Sx.readyAt eo (by kernel_rfl)) ⟨?_, trivial⟩
      ·
        refine Sx.anyOp #[true, true, true, true, true, true, true, true, true, false, false, false, false, false, false, false, false, false, false, false, false, false] o8 rfl ?_
        refine Sx.guardT g5 rfl ?_
        refine Sx.yl (.lenSl Fx.sl62 rfl) rfl ?_
        exact Sx.reSl (d1110000000000000 ) ⟨rfl, rfl, rfl, rfl, rfl, rfl, rfl, trivial⟩
    have d0110000000000000 : Sx.At 55 [(0, .slice (some ⟨b, off, none⟩) n c), (3, .pointer (some ⟨b3, 0, none⟩)), (4, .int .i64 (m : Nat)), (39, .bool true), (41, .slice (some ⟨b, off, none⟩) n c), (42, .int .i64 ((n : Nat) : Int))] H w [.box b3 (ckL (ofF us)) 26] (wpAny Tryd.prog .any ops2 Q2 14 #[true, true, true, true, true, true, false, true, true, false, false, false, false, false, false, false, false, false, false, false, false, false]) := by
      refine Sx.anyStep 6 [] (Sx.readyAt eo (by kernel_rfl)) ⟨?_, trivial⟩
      ·
        refine Sx.anyOp #[true, true, true, true, true, true, true, true, true, false, false, false, false, false, false, false, false, false, false, false, false, false] o6 rfl ?_
        refine Sx.guardT g5 rfl ?_
        refine Sx.yl (.move rfl) rfl ?_
        exact Sx.reSl (d1110000000000000 ) ⟨rfl, rfl, rfl, rfl, rfl, rfl, rfl, trivial⟩
    have d1000000000000000 : Sx.At 55 [(0, .slice (some ⟨b, off, none⟩) n c), (3, .pointer (some ⟨b3, 0, none⟩)), (4, .int .i64 (m : Nat)), (39, .bool true), (40, .int .i64 (m : Nat))] H w [.box b3 (ckL (ofF us)) 26] (wpAny Tryd.prog .any ops2 Q2 15 #[true, true, true, true, true, true, true, false, false, false, false, false, false, false, false, false, false, false, false, false, false, false]) := by
      refine Sx.anyStep 7 [] (Sx.readyAt eo (by kernel_rfl)) ⟨?_, trivial⟩
      ·
        refine Sx.anyOp #[true, true, true, true, true, true, true, true, false, false, false, false, false, false, false, false, false, false, false, false, false, false] o7 rfl ?_
        refine Sx.guardT g5 rfl ?_
        refine Sx.yl (.move rfl) rfl ?_
        exact Sx.reSl (d1100000000000000 ) ⟨rfl, rfl, rfl, rfl, rfl, rfl, trivial⟩
    have d0100000000000000 : Sx.At 55 [(0, .slice (some ⟨b, off, none⟩) n c), (3, .pointer (some ⟨b3, 0, none⟩)), (4, .int .i64 (m : Nat)), (39, .bool true), (41, .slice (some ⟨b, off, none⟩) n c)] H w [.box b3 (ckL (ofF us)) 26] (wpAny Tryd.prog .any ops2 Q2 15 #[true, true, true, true, true, true, false, true, false, false, false, false, false, false, false, false, false, false, false, false, false, false]) := by
      refine Sx.anyStep 6 [8] (Sx.readyAt eo (by kernel_rfl)) ⟨?_, ?_, trivial⟩
      ·
        refine Sx.anyOp #[true, true, true, true, true, true, true, true, false, false, false, false, false, false, false, false, false, false, false, false, false, false] o6 rfl ?_
        refine Sx.guardT g5 rfl ?_
        refine Sx.yl (.move rfl) rfl ?_
        exact Sx.reSl (d1100000000000000 ) ⟨rfl, rfl, rfl, rfl, rfl, rfl, trivial⟩
      ·
        refine Sx.anyOp #[true, true, true, true, true, true, false, true, true, false, false, false, false, false, false, false, false, false, false, false, false, false] o8 rfl ?_
        refine Sx.guardT g5 rfl ?_
        refine Sx.yl (.lenSl Fx.sl62 rfl) rfl ?_
        exact Sx.reSl (d0110000000000000 ) ⟨rfl, rfl, rfl, rfl, rfl, rfl, trivial⟩
    have d0000000000000000 : Sx.At 55 [(0, .slice (some ⟨b, off, none⟩) n c), (3, .pointer (some ⟨b3, 0, none⟩)), (4, .int .i64 (m : Nat)), (39, .bool true)] H w [.box b3 (ckL (ofF us)) 26] (wpAny Tryd.prog .any ops2 Q2 16 #[true, true, true, true, true, true, false, false, false, false, false, false, false, false, false, false, false, false, false, false, false, false]) := by
      refine Sx.anyStep 6 [7] (Sx.readyAt eo (by kernel_rfl)) ⟨?_, ?_, trivial⟩
      ·
        refine Sx.anyOp #[true, true, true, true, true, true, true, false, false, false, false, false, false, false, false, false, false, false, false, false, false, false] o6 rfl ?_
        refine Sx.guardT g5 rfl ?_
        refine Sx.yl (.move rfl) rfl ?_
        exact Sx.reSl (d1000000000000000 ) ⟨rfl, rfl, rfl, rfl, rfl, trivial⟩
      ·
        refine Sx.anyOp #[true, true, true, true, true, true, false, true, false, false, false, false, false, false, false, false, false, false, false, false, false, false] o7 rfl ?_
        refine Sx.guardT g5 rfl ?_
        refine Sx.yl (.move rfl) rfl ?_
        exact Sx.reSl (d0100000000000000 ) ⟨rfl, rfl, rfl, rfl, rfl, trivial⟩
    exact Sx.reSl d0000000000000000 ⟨rfl, rfl, rfl, rfl, trivial⟩
set_option maxHeartbeats 4000000 in
set_option maxRecDepth 100000 in
theorem reads_short_no (H : Hp) (v0 : Value) (n : Nat) (l : List UInt8) (hv : SlAt H v0 n (l.map byteV)) (hl : n ≤ 200) (hr : readO l = none) (w : World) (hA : Agr H w) (G : Globs w) :
    Calls Tryd.prog 11 #[v0] w fun e w' => e = .returned (.bool true) ∧ Ext w w' := by
  have hv0 := hv
  obtain ⟨hn, p, c, rfl, hc, hcm, hs⟩ := hv0
  rw [List.length_map] at hn
  refine Sx.enter (H := H) Tryd.func11 rfl Tryd.ntmps11 rfl hA ?_
  refine Sx.seq ?_
  refine Sx.region ?_
  refine Sx.cons ?_
  refine Sx.yl (.assign rfl) rfl ?_
  refine Sx.nil ?_
  refine Sx.thenN ?_
  refine Sx.seq ?_
  refine Sx.seq ?_
  refine Sx.region ?_
  refine Sx.cons ?_
  refine Sx.yl (.move rfl) rfl ?_
  refine Sx.cons ?_
  refine Sx.yl (.lenSl Fx.sl62 rfl) rfl ?_
  refine Sx.cons ?_
  refine Sx.yl (.gtr rfl rfl) rfl ?_
  refine Sx.nil ?_
  refine Sx.thenN ?_
  refine Sx.cond rfl (fun h8 => ?_) (fun h8 => ?_)
  · exact absurd h8 (by simp; omega)
  · try simp only [decide_eq_false_iff_not] at h8
    refine Sx.skip ?_
    refine Sx.thenN ?_
    refine Sx.seq ?_
    refine Sx.region ?_
    refine Sx.cons ?_
    refine Sx.yl (.move rfl) rfl ?_
    refine Sx.cons ?_
    refine Sx.yl (.call Fx.call30 rfl (fun W s => read_none hr H _ _ hv W s.agr)) rfl ?_
    refine Sx.cons ?_
    refine Sx.yl (.move rfl) rfl ?_
    refine Sx.cons ?_
    refine Sx.yl (.extract rfl rfl) rfl ?_
    refine Sx.cons ?_
    refine Sx.yl (.extract rfl rfl) rfl ?_
    refine Sx.cons ?_
    refine Sx.yl (.extract rfl rfl) rfl ?_
    refine Sx.cons ?_
    refine Sx.alloc Fx.zero26 rfl (fun b3 => ?_)
    refine Sx.cons ?_
    refine Sx.storeW rfl rfl Fx.size26 (ckL_one _) (.head) rfl ?_
    refine Sx.cons ?_
    refine Sx.yl (.assign rfl) rfl ?_
    refine Sx.cons ?_
    refine Sx.yl (.assign rfl) rfl ?_
    refine Sx.nil ?_
    refine Sx.thenN ?_
    refine Sx.seq ?_
    refine Sx.seq ?_
    refine Sx.region ?_
    refine Sx.cons ?_
    refine Sx.yl (.move rfl) rfl ?_
    refine Sx.cons ?_
    refine Sx.yl (.neq rfl rfl) rfl ?_
    refine Sx.nil ?_
    refine Sx.thenN ?_
    refine Sx.condT rfl ?_
    refine Sx.seq ?_
    refine Sx.region ?_
    refine Sx.cons ?_
    refine Sx.yl (.call Fx.call15 rfl (fun W s => awake_any W (G.ext s.ext))) rfl ?_
    refine Sx.cons ?_
    refine Sx.yl (.move rfl) rfl ?_
    refine Sx.cons ?_
    refine Sx.guardT rfl rfl ?_
    refine Sx.yl (.move rfl) rfl ?_
    refine Sx.cons ?_
    refine Sx.guardT rfl rfl ?_
    refine Sx.yl (.eql rfl rfl) rfl ?_
    refine Sx.cons ?_
    refine Sx.yl (.pickT rfl rfl) rfl ?_
    refine Sx.cons ?_
    refine Sx.yl (.move rfl) rfl ?_
    refine Sx.cons ?_
    refine Sx.guardT rfl rfl ?_
    refine Sx.yl (.move rfl) rfl ?_
    refine Sx.cons ?_
    refine Sx.guardT rfl rfl ?_
    refine Sx.yl (.eql rfl rfl) rfl ?_
    refine Sx.cons ?_
    refine Sx.yl (.pickT rfl rfl) rfl ?_
    refine Sx.cons ?_
    refine Sx.yl (.move rfl) rfl ?_
    refine Sx.cons ?_
    refine Sx.guardT rfl rfl ?_
    refine Sx.yl (.loadW rfl Fx.agg26 (.head _) (ck_length _)) rfl ?_
    refine Sx.cons ?_
    refine Sx.guardT rfl rfl ?_
    refine Sx.callG Fx.call22 rfl (fun W s => entries_any zeroF _ W s.agr) rfl (fun v H1 hv1 up => ?_)
    obtain ⟨hn1, p1, c1, rfl, hc1, hcm1, hs1⟩ := hv1
    refine Sx.cons ?_
    refine Sx.guardT rfl rfl ?_
    refine Sx.yl (.lenSl Fx.sl22 rfl) rfl ?_
    refine Sx.cons ?_
    refine Sx.guardT rfl rfl ?_
    refine Sx.yl (.eql rfl rfl) rfl ?_
    refine Sx.cons ?_
    refine Sx.yl (.pickT rfl rfl) rfl ?_
    refine Sx.cons ?_
    refine Sx.yl (.assign rfl) rfl ?_
    refine Sx.nil ?_
    refine Sx.thenN ?_
    refine Sx.ret ?_
    refine Sx.thenR ?_
    refine Sx.ret1 (.inl rfl) rfl (.tmp rfl) (fun W s => ⟨?_, s.ext⟩)
    rw [ent_zero]; rfl
set_option maxHeartbeats 4000000 in
set_option maxRecDepth 100000 in
theorem reads_long_ok (H : Hp) (v0 : Value) (n : Nat) (l : List UInt8) (hv : SlAt H v0 n (l.map byteV)) (hl : 200 < n) (us : List Int) (m : Nat) (hr : readO (l.take 200) = some (us, m)) (w : World) (hA : Agr H w) (G : Globs w) :
    Calls Tryd.prog 11 #[v0] w fun e w' => e = .returned (.bool true) ∧ Ext w w' := by
  have hv0 := hv
  obtain ⟨hn, p, c, rfl, hc, hcm, hs⟩ := hv0
  rw [List.length_map] at hn
  have hro := readO_ok hr
  have hl1 := hro.2.1
  have hl2 : (l.take 200).length = 200 := by rw [List.length_take]; omega
  obtain ⟨b, off, arr, t, mm, rfl, hb, ha⟩ := hs.resolve_left (fun e => by have := congrArg List.length e; rw [List.length_map, List.length_nil] at this; omega)
  have hsp : ∀ q, (some (⟨b, off, none⟩ : Addr)) = some q → q.spot = none := fun q e => by rw [← Option.some.inj e]
  have ha := take_at (k := 200) ha
  refine Sx.enter (H := H) Tryd.func11 rfl Tryd.ntmps11 rfl hA ?_
  refine Sx.seq ?_
  refine Sx.region ?_
  refine Sx.cons ?_
  refine Sx.yl (.assign rfl) rfl ?_
  refine Sx.nil ?_
  refine Sx.thenN ?_
  refine Sx.seq ?_
  refine Sx.seq ?_
  refine Sx.region ?_
  refine Sx.cons ?_
  refine Sx.yl (.move rfl) rfl ?_
  refine Sx.cons ?_
  refine Sx.yl (.lenSl Fx.sl62 rfl) rfl ?_
  refine Sx.cons ?_
  refine Sx.yl (.gtr rfl rfl) rfl ?_
  refine Sx.nil ?_
  refine Sx.thenN ?_
  refine Sx.cond rfl (fun h8 => ?_) (fun h8 => ?_)
  · try simp only [decide_eq_true_eq] at h8
    refine Sx.region ?_
    refine Sx.cons ?_
    refine Sx.yl (.move rfl) rfl ?_
    refine Sx.cons ?_
    refine Sx.yl (.cutHi Fx.sl62 rfl rfl rfl (h := 200) (by omega) hsp) rfl ?_
    refine Sx.cons ?_
    refine Sx.yl (.assign rfl) rfl ?_
    refine Sx.nil ?_
    refine Sx.thenN ?_
    refine Sx.seq ?_
    refine Sx.region ?_
    refine Sx.cons ?_
    refine Sx.yl (.move rfl) rfl ?_
    refine Sx.cons ?_
    refine Sx.yl (.call Fx.call30 rfl (fun W s => read_some hr H _ _ (slb_take hv (by omega)) W s.agr)) rfl ?_
    refine Sx.cons ?_
    refine Sx.yl (.move rfl) rfl ?_
    refine Sx.cons ?_
    refine Sx.yl (.extract rfl rfl) rfl ?_
    refine Sx.cons ?_
    refine Sx.yl (.extract rfl rfl) rfl ?_
    refine Sx.cons ?_
    refine Sx.yl (.extract rfl rfl) rfl ?_
    refine Sx.cons ?_
    refine Sx.alloc Fx.zero26 rfl (fun b3 => ?_)
    refine Sx.cons ?_
    refine Sx.storeW rfl rfl Fx.size26 (ckL_one _) (.head) rfl ?_
    refine Sx.cons ?_
    refine Sx.yl (.assign rfl) rfl ?_
    refine Sx.cons ?_
    refine Sx.yl (.assign rfl) rfl ?_
    refine Sx.nil ?_
    refine Sx.thenN ?_
    refine Sx.seq ?_
    refine Sx.seq ?_
    refine Sx.region ?_
    refine Sx.cons ?_
    refine Sx.yl (.move rfl) rfl ?_
    refine Sx.cons ?_
    refine Sx.yl (.neq rfl rfl) rfl ?_
    refine Sx.nil ?_
    refine Sx.thenN ?_
    refine Sx.condF rfl ?_
    refine Sx.skip ?_
    refine Sx.thenN ?_
    refine Sx.seq ?_
    refine Sx.anyRegion 22 #[false, false, false, false, false, false, false, false, false, false, false, false, false, false, false, false, false, false, false, false, false, false] (by kernel_rfl) rfl rfl ?_
    refine Sx.anyStep 0 [] (by kernel_rfl) ⟨?_, trivial⟩
    refine Sx.anyOp #[true, false, false, false, false, false, false, false, false, false, false, false, false, false, false, false, false, false, false, false, false, false] rfl rfl ?_
    refine Sx.yl (.call Fx.call15 rfl (fun W s => awake_any W (G.ext s.ext))) rfl ?_
    refine Sx.anyStep 1 [] (by kernel_rfl) ⟨?_, trivial⟩
    refine Sx.anyOp #[true, true, false, false, false, false, false, false, false, false, false, false, false, false, false, false, false, false, false, false, false, false] rfl rfl ?_
    refine Sx.yl (.move rfl) rfl ?_
    refine Sx.anyStep 2 [] (by kernel_rfl) ⟨?_, trivial⟩
    refine Sx.anyOp #[true, true, true, false, false, false, false, false, false, false, false, false, false, false, false, false, false, false, false, false, false, false] rfl rfl ?_
    refine Sx.guardT rfl rfl ?_
    refine Sx.yl (.move rfl) rfl ?_
    refine Sx.anyStep 3 [] (by kernel_rfl) ⟨?_, trivial⟩
    refine Sx.anyOp #[true, true, true, true, false, false, false, false, false, false, false, false, false, false, false, false, false, false, false, false, false, false] rfl rfl ?_
    refine Sx.guardT rfl rfl ?_
    refine Sx.yl (Yl.cast (.geq rfl rfl) (congrArg Value.bool (decide_eq_true (by omega)))) rfl ?_
    refine Sx.anyStep 4 [] (by kernel_rfl) ⟨?_, trivial⟩
    refine Sx.anyOp #[true, true, true, true, true, false, false, false, false, false, false, false, false, false, false, false, false, false, false, false, false, false] rfl rfl ?_
    refine Sx.yl (.pickT rfl rfl) rfl ?_
    refine Sx.anyStep 5 [] (by kernel_rfl) ⟨?_, trivial⟩
    refine Sx.anyOp #[true, true, true, true, true, true, false, false, false, false, false, false, false, false, false, false, false, false, false, false, false, false] rfl rfl ?_
    refine Sx.yl (.move rfl) rfl ?_
    refine Sx.dagIn (fun ops2 Q2 eo eq => ?_)
    have hend : ∀ (H1 : Hp) (b1 off1 c1 : Nat) (arr1 : Array Value) (t1 : TypeId) (m1 : Nat × Nat) (_ : H1 b1 = some (.cells arr1 t1 m1)) (_ : ∀ (j : Nat) u, (([] ++ bytesL (ofF us)).map byteV)[j]? = some u → arr1[off1 + j]? = some u) (_ : ∀ b o, H b = some o → H1 b = some o), Sx.At 55 [(0, .slice (some ⟨b, off, none⟩) 200 c), (3, .pointer (some ⟨b3, 0, none⟩)), (4, .int .i64 (m : Nat)), (39, .bool true), (40, .int .i64 (m : Nat)), (41, .slice (some ⟨b, off, none⟩) 200 c), (42, .int .i64 ((200 : Nat) : Int)), (43, .bool true), (44, .bool true), (45, .bool true), (46, .agg (ckL (ofF us)).toArray), (47, .slice (some ⟨b1, off1, none⟩) ([] ++ bytesL (ofF us)).length c1), (48, strV ([] ++ bytesL (ofF us))), (49, .slice (some ⟨b, off, none⟩) 200 c), (50, .int .i64 (m : Nat)), (51, .slice (some ⟨b, off, none⟩) m c), (52, strV ((l.take 200).take m)), (53, .bool (decide ((⟨([] ++ bytesL (ofF us)).toArray⟩ : ByteArray) = ⟨((l.take 200).take m).toArray⟩))), (54, .bool (decide ((⟨([] ++ bytesL (ofF us)).toArray⟩ : ByteArray) = ⟨((l.take 200).take m).toArray⟩))), (2, .bool (decide ((⟨([] ++ bytesL (ofF us)).toArray⟩ : ByteArray) = ⟨((l.take 200).take m).toArray⟩)))] H1 w [.box b3 (ckL (ofF us)) 26] (Q2 .normal) := by
      intro H1 b1 off1 c1 arr1 t1 m1 hb1 ha1 up
      subst eq
      refine Sx.thenN ?_
      refine Sx.ret ?_
      refine Sx.ret1 (.inl rfl) rfl (.tmp rfl) (fun W s => ⟨?_, s.ext⟩)
      rw [List.nil_append, hro.2.2.1]; simp
    have o6 := Sx.opAt (i := 6) eo rfl
    have o7 := Sx.opAt (i := 7) eo rfl
    have o8 := Sx.opAt (i := 8) eo rfl
    have o9 := Sx.opAt (i := 9) eo rfl
    have o10 := Sx.opAt (i := 10) eo rfl
    have o11 := Sx.opAt (i := 11) eo rfl
    have o12 := Sx.opAt (i := 12) eo rfl
    have o13 := Sx.opAt (i := 13) eo rfl
    have o14 := Sx.opAt (i := 14) eo rfl
    have o15 := Sx.opAt (i := 15) eo rfl
    have o16 := Sx.opAt (i := 16) eo rfl
    have o17 := Sx.opAt (i := 17) eo rfl
    have o18 := Sx.opAt (i := 18) eo rfl
    have o19 := Sx.opAt (i := 19) eo rfl
    have o20 := Sx.opAt (i := 20) eo rfl
    have o21 := Sx.opAt (i := 21) eo rfl
    have g5 := Sx.dstAt (i := 5) eo rfl
    have g11 := Sx.dstAt (i := 11) eo rfl
    have d1111111111111111 : ∀ (H1 : Hp) (b1 off1 c1 : Nat) (arr1 : Array Value) (t1 : TypeId) (m1 : Nat × Nat) (_ : H1 b1 = some (.cells arr1 t1 m1)) (_ : ∀ (j : Nat) u, (([] ++ bytesL (ofF us)).map byteV)[j]? = some u → arr1[off1 + j]? = some u) (_ : ∀ b o, H b = some o → H1 b = some o), Sx.At 55 [(0, .slice (some ⟨b, off, none⟩) 200 c), (3, .pointer (some ⟨b3, 0, none⟩)), (4, .int .i64 (m : Nat)), (39, .bool true), (40, .int .i64 (m : Nat)), (41, .slice (some ⟨b, off, none⟩) 200 c), (42, .int .i64 ((200 : Nat) : Int)), (43, .bool true), (44, .bool true), (45, .bool true), (46, .agg (ckL (ofF us)).toArray), (47, .slice (some ⟨b1, off1, none⟩) ([] ++ bytesL (ofF us)).length c1), (48, strV ([] ++ bytesL (ofF us))), (49, .slice (some ⟨b, off, none⟩) 200 c), (50, .int .i64 (m : Nat)), (51, .slice (some ⟨b, off, none⟩) m c), (52, strV ((l.take 200).take m)), (53, .bool (decide ((⟨([] ++ bytesL (ofF us)).toArray⟩ : ByteArray) = ⟨((l.take 200).take m).toArray⟩))), (54, .bool (decide ((⟨([] ++ bytesL (ofF us)).toArray⟩ : ByteArray) = ⟨((l.take 200).take m).toArray⟩))), (2, .bool (decide ((⟨([] ++ bytesL (ofF us)).toArray⟩ : ByteArray) = ⟨((l.take 200).take m).toArray⟩)))] H1 w [.box b3 (ckL (ofF us)) 26] (wpAny Tryd.prog .any ops2 Q2 0 #[true, true, true, true, true, true, true, true, true, true, true, true, true, true, true, true, true, true, true, true, true, true]) := by
      intro H1 b1 off1 c1 arr1 t1 m1 hb1 ha1 up
      exact Sx.anyEnd (Sx.readyAt eo (by kernel_rfl)) (hend H1 b1 off1 c1 arr1 t1 m1 hb1 ha1 up)
    have d1111111111111110 : ∀ (H1 : Hp) (b1 off1 c1 : Nat) (arr1 : Array Value) (t1 : TypeId) (m1 : Nat × Nat) (_ : H1 b1 = some (.cells arr1 t1 m1)) (_ : ∀ (j : Nat) u, (([] ++ bytesL (ofF us)).map byteV)[j]? = some u → arr1[off1 + j]? = some u) (_ : ∀ b o, H b = some o → H1 b = some o), Sx.At 55 [(0, .slice (some ⟨b, off, none⟩) 200 c), (3, .pointer (some ⟨b3, 0, none⟩)), (4, .int .i64 (m : Nat)), (39, .bool true), (40, .int .i64 (m : Nat)), (41, .slice (some ⟨b, off, none⟩) 200 c), (42, .int .i64 ((200 : Nat) : Int)), (43, .bool true), (44, .bool true), (45, .bool true), (46, .agg (ckL (ofF us)).toArray), (47, .slice (some ⟨b1, off1, none⟩) ([] ++ bytesL (ofF us)).length c1), (48, strV ([] ++ bytesL (ofF us))), (49, .slice (some ⟨b, off, none⟩) 200 c), (50, .int .i64 (m : Nat)), (51, .slice (some ⟨b, off, none⟩) m c), (52, strV ((l.take 200).take m)), (53, .bool (decide ((⟨([] ++ bytesL (ofF us)).toArray⟩ : ByteArray) = ⟨((l.take 200).take m).toArray⟩))), (54, .bool (decide ((⟨([] ++ bytesL (ofF us)).toArray⟩ : ByteArray) = ⟨((l.take 200).take m).toArray⟩)))] H1 w [.box b3 (ckL (ofF us)) 26] (wpAny Tryd.prog .any ops2 Q2 1 #[true, true, true, true, true, true, true, true, true, true, true, true, true, true, true, true, true, true, true, true, true, false]) := by
      intro H1 b1 off1 c1 arr1 t1 m1 hb1 ha1 up
      refine Sx.anyStep 21 [] (Sx.readyAt eo (by kernel_rfl)) ⟨?_, trivial⟩
      ·
        refine Sx.anyOp #[true, true, true, true, true, true, true, true, true, true, true, true, true, true, true, true, true, true, true, true, true, true] o21 rfl ?_
        refine Sx.yl (.assign rfl) rfl ?_
        exact Sx.reSl (d1111111111111111 H1 b1 off1 c1 arr1 t1 m1 hb1 ha1 up) ⟨rfl, rfl, rfl, rfl, rfl, rfl, rfl, rfl, rfl, rfl, rfl, rfl, rfl, rfl, rfl, rfl, rfl, rfl, rfl, rfl, trivial⟩
    have d1111111111111100 : ∀ (H1 : Hp) (b1 off1 c1 : Nat) (arr1 : Array Value) (t1 : TypeId) (m1 : Nat × Nat) (_ : H1 b1 = some (.cells arr1 t1 m1)) (_ : ∀ (j : Nat) u, (([] ++ bytesL (ofF us)).map byteV)[j]? = some u → arr1[off1 + j]? = some u) (_ : ∀ b o, H b = some o → H1 b = some o), Sx.At 55 [(0, .slice (some ⟨b, off, none⟩) 200 c), (3, .pointer (some ⟨b3, 0, none⟩)), (4, .int .i64 (m : Nat)), (39, .bool true), (40, .int .i64 (m : Nat)), (41, .slice (some ⟨b, off, none⟩) 200 c), (42, .int .i64 ((200 : Nat) : Int)), (43, .bool true), (44, .bool true), (45, .bool true), (46, .agg (ckL (ofF us)).toArray), (47, .slice (some ⟨b1, off1, none⟩) ([] ++ bytesL (ofF us)).length c1), (48, strV ([] ++ bytesL (ofF us))), (49, .slice (some ⟨b, off, none⟩) 200 c), (50, .int .i64 (m : Nat)), (51, .slice (some ⟨b, off, none⟩) m c), (52, strV ((l.take 200).take m)), (53, .bool (decide ((⟨([] ++ bytesL (ofF us)).toArray⟩ : ByteArray) = ⟨((l.take 200).take m).toArray⟩)))] H1 w [.box b3 (ckL (ofF us)) 26] (wpAny Tryd.prog .any ops2 Q2 2 #[true, true, true, true, true, true, true, true, true, true, true, true, true, true, true, true, true, true, true, true, false, false]) := by
      intro H1 b1 off1 c1 arr1 t1 m1 hb1 ha1 up
      refine Sx.anyStep 20 [] (Sx.readyAt eo (by kernel_rfl)) ⟨?_, trivial⟩
      ·
        refine Sx.anyOp #[true, true, true, true, true, true, true, true, true, true, true, true, true, true, true, true, true, true, true, true, true, false] o20 rfl ?_
        refine Sx.yl (.pickT rfl rfl) rfl ?_
        exact Sx.reSl (d1111111111111110 H1 b1 off1 c1 arr1 t1 m1 hb1 ha1 up) ⟨rfl, rfl, rfl, rfl, rfl, rfl, rfl, rfl, rfl, rfl, rfl, rfl, rfl, rfl, rfl, rfl, rfl, rfl, rfl, trivial⟩
    have d1111111111111000 : ∀ (H1 : Hp) (b1 off1 c1 : Nat) (arr1 : Array Value) (t1 : TypeId) (m1 : Nat × Nat) (_ : H1 b1 = some (.cells arr1 t1 m1)) (_ : ∀ (j : Nat) u, (([] ++ bytesL (ofF us)).map byteV)[j]? = some u → arr1[off1 + j]? = some u) (_ : ∀ b o, H b = some o → H1 b = some o), Sx.At 55 [(0, .slice (some ⟨b, off, none⟩) 200 c), (3, .pointer (some ⟨b3, 0, none⟩)), (4, .int .i64 (m : Nat)), (39, .bool true), (40, .int .i64 (m : Nat)), (41, .slice (some ⟨b, off, none⟩) 200 c), (42, .int .i64 ((200 : Nat) : Int)), (43, .bool true), (44, .bool true), (45, .bool true), (46, .agg (ckL (ofF us)).toArray), (47, .slice (some ⟨b1, off1, none⟩) ([] ++ bytesL (ofF us)).length c1), (48, strV ([] ++ bytesL (ofF us))), (49, .slice (some ⟨b, off, none⟩) 200 c), (50, .int .i64 (m : Nat)), (51, .slice (some ⟨b, off, none⟩) m c), (52, strV ((l.take 200).take m))] H1 w [.box b3 (ckL (ofF us)) 26] (wpAny Tryd.prog .any ops2 Q2 3 #[true, true, true, true, true, true, true, true, true, true, true, true, true, true, true, true, true, true, true, false, false, false]) := by
      intro H1 b1 off1 c1 arr1 t1 m1 hb1 ha1 up
      refine Sx.anyStep 19 [] (Sx.readyAt eo (by kernel_rfl)) ⟨?_, trivial⟩
      ·
        refine Sx.anyOp #[true, true, true, true, true, true, true, true, true, true, true, true, true, true, true, true, true, true, true, true, false, false] o19 rfl ?_
        refine Sx.guardT g11 rfl ?_
        refine Sx.yl (.eqlS rfl rfl) rfl ?_
        exact Sx.reSl (d1111111111111100 H1 b1 off1 c1 arr1 t1 m1 hb1 ha1 up) ⟨rfl, rfl, rfl, rfl, rfl, rfl, rfl, rfl, rfl, rfl, rfl, rfl, rfl, rfl, rfl, rfl, rfl, rfl, trivial⟩
    have d1111111111110000 : ∀ (H1 : Hp) (b1 off1 c1 : Nat) (arr1 : Array Value) (t1 : TypeId) (m1 : Nat × Nat) (_ : H1 b1 = some (.cells arr1 t1 m1)) (_ : ∀ (j : Nat) u, (([] ++ bytesL (ofF us)).map byteV)[j]? = some u → arr1[off1 + j]? = some u) (_ : ∀ b o, H b = some o → H1 b = some o), Sx.At 55 [(0, .slice (some ⟨b, off, none⟩) 200 c), (3, .pointer (some ⟨b3, 0, none⟩)), (4, .int .i64 (m : Nat)), (39, .bool true), (40, .int .i64 (m : Nat)), (41, .slice (some ⟨b, off, none⟩) 200 c), (42, .int .i64 ((200 : Nat) : Int)), (43, .bool true), (44, .bool true), (45, .bool true), (46, .agg (ckL (ofF us)).toArray), (47, .slice (some ⟨b1, off1, none⟩) ([] ++ bytesL (ofF us)).length c1), (48, strV ([] ++ bytesL (ofF us))), (49, .slice (some ⟨b, off, none⟩) 200 c), (50, .int .i64 (m : Nat)), (51, .slice (some ⟨b, off, none⟩) m c)] H1 w [.box b3 (ckL (ofF us)) 26] (wpAny Tryd.prog .any ops2 Q2 4 #[true, true, true, true, true, true, true, true, true, true, true, true, true, true, true, true, true, true, false, false, false, false]) := by
      intro H1 b1 off1 c1 arr1 t1 m1 hb1 ha1 up
      refine Sx.anyStep 18 [] (Sx.readyAt eo (by kernel_rfl)) ⟨?_, trivial⟩
      ·
        refine Sx.anyOp #[true, true, true, true, true, true, true, true, true, true, true, true, true, true, true, true, true, true, true, false, false, false] o18 rfl ?_
        refine Sx.guardT g11 rfl ?_
        first
          | refine Sx.yl (.bytesStr Fx.bytes62 Fx.str9 rfl (l := (l.take 200).take m) (by simp; omega) (.mem (up _ _ hb) (take_at ha))) rfl ?_
          | refine Sx.yl (.bytesStr Fx.bytes62 Fx.str9 rfl (l := (l.take 200).take m) (by simp; omega) (.mem hb (take_at ha))) rfl ?_
        exact Sx.reSl (d1111111111111000 H1 b1 off1 c1 arr1 t1 m1 hb1 ha1 up) ⟨rfl, rfl, rfl, rfl, rfl, rfl, rfl, rfl, rfl, rfl, rfl, rfl, rfl, rfl, rfl, rfl, rfl, trivial⟩
    have d1111111101111000 : ∀ (H1 : Hp) (b1 off1 c1 : Nat) (arr1 : Array Value) (t1 : TypeId) (m1 : Nat × Nat) (_ : H1 b1 = some (.cells arr1 t1 m1)) (_ : ∀ (j : Nat) u, (([] ++ bytesL (ofF us)).map byteV)[j]? = some u → arr1[off1 + j]? = some u) (_ : ∀ b o, H b = some o → H1 b = some o), Sx.At 55 [(0, .slice (some ⟨b, off, none⟩) 200 c), (3, .pointer (some ⟨b3, 0, none⟩)), (4, .int .i64 (m : Nat)), (39, .bool true), (40, .int .i64 (m : Nat)), (41, .slice (some ⟨b, off, none⟩) 200 c), (42, .int .i64 ((200 : Nat) : Int)), (43, .bool true), (44, .bool true), (45, .bool true), (46, .agg (ckL (ofF us)).toArray), (47, .slice (some ⟨b1, off1, none⟩) ([] ++ bytesL (ofF us)).length c1), (49, .slice (some ⟨b, off, none⟩) 200 c), (50, .int .i64 (m : Nat)), (51, .slice (some ⟨b, off, none⟩) m c), (52, strV ((l.take 200).take m))] H1 w [.box b3 (ckL (ofF us)) 26] (wpAny Tryd.prog .any ops2 Q2 4 #[true, true, true, true, true, true, true, true, true, true, true, true, true, true, false, true, true, true, true, false, false, false]) := by
      intro H1 b1 off1 c1 arr1 t1 m1 hb1 ha1 up
      refine Sx.anyStep 14 [] (Sx.readyAt eo (by kernel_rfl)) ⟨?_, trivial⟩
      ·
        refine Sx.anyOp #[true, true, true, true, true, true, true, true, true, true, true, true, true, true, true, true, true, true, true, false, false, false] o14 rfl ?_
        refine Sx.guardT g11 rfl ?_
        refine Sx.yl (.bytesStr Fx.bytes62 Fx.str9 rfl (l := [] ++ bytesL (ofF us)) rfl (.mem hb1 ha1)) rfl ?_
        exact Sx.reSl (d1111111111111000 H1 b1 off1 c1 arr1 t1 m1 hb1 ha1 up) ⟨rfl, rfl, rfl, rfl, rfl, rfl, rfl, rfl, rfl, rfl, rfl, rfl, rfl, rfl, rfl, rfl, rfl, trivial⟩
    have d1111111111100000 : ∀ (H1 : Hp) (b1 off1 c1 : Nat) (arr1 : Array Value) (t1 : TypeId) (m1 : Nat × Nat) (_ : H1 b1 = some (.cells arr1 t1 m1)) (_ : ∀ (j : Nat) u, (([] ++ bytesL (ofF us)).map byteV)[j]? = some u → arr1[off1 + j]? = some u) (_ : ∀ b o, H b = some o → H1 b = some o), Sx.At 55 [(0, .slice (some ⟨b, off, none⟩) 200 c), (3, .pointer (some ⟨b3, 0, none⟩)), (4, .int .i64 (m : Nat)), (39, .bool true), (40, .int .i64 (m : Nat)), (41, .slice (some ⟨b, off, none⟩) 200 c), (42, .int .i64 ((200 : Nat) : Int)), (43, .bool true), (44, .bool true), (45, .bool true), (46, .agg (ckL (ofF us)).toArray), (47, .slice (some ⟨b1, off1, none⟩) ([] ++ bytesL (ofF us)).length c1), (48, strV ([] ++ bytesL (ofF us))), (49, .slice (some ⟨b, off, none⟩) 200 c), (50, .int .i64 (m : Nat))] H1 w [.box b3 (ckL (ofF us)) 26] (wpAny Tryd.prog .any ops2 Q2 5 #[true, true, true, true, true, true, true, true, true, true, true, true, true, true, true, true, true, false, false, false, false, false]) := by
      intro H1 b1 off1 c1 arr1 t1 m1 hb1 ha1 up
      refine Sx.anyStep 17 [] (Sx.readyAt eo (by kernel_rfl)) ⟨?_, trivial⟩
      ·
        refine Sx.anyOp #[true, true, true, true, true, true, true, true, true, true, true, true, true, true, true, true, true, true, false, false, false, false] o17 rfl ?_
        refine Sx.guardT g11 rfl ?_
        refine Sx.yl (.cutHi Fx.sl62 rfl rfl rfl (h := m) (by omega) (fun q e => by rw [← Option.some.inj e])) rfl ?_
        exact Sx.reSl (d1111111111110000 H1 b1 off1 c1 arr1 t1 m1 hb1 ha1 up) ⟨rfl, rfl, rfl, rfl, rfl, rfl, rfl, rfl, rfl, rfl, rfl, rfl, rfl, rfl, rfl, rfl, trivial⟩
    have d1111111101110000 : ∀ (H1 : Hp) (b1 off1 c1 : Nat) (arr1 : Array Value) (t1 : TypeId) (m1 : Nat × Nat) (_ : H1 b1 = some (.cells arr1 t1 m1)) (_ : ∀ (j : Nat) u, (([] ++ bytesL (ofF us)).map byteV)[j]? = some u → arr1[off1 + j]? = some u) (_ : ∀ b o, H b = some o → H1 b = some o), Sx.At 55 [(0, .slice (some ⟨b, off, none⟩) 200 c), (3, .pointer (some ⟨b3, 0, none⟩)), (4, .int .i64 (m : Nat)), (39, .bool true), (40, .int .i64 (m : Nat)), (41, .slice (some ⟨b, off, none⟩) 200 c), (42, .int .i64 ((200 : Nat) : Int)), (43, .bool true), (44, .bool true), (45, .bool true), (46, .agg (ckL (ofF us)).toArray), (47, .slice (some ⟨b1, off1, none⟩) ([] ++ bytesL (ofF us)).length c1), (49, .slice (some ⟨b, off, none⟩) 200 c), (50, .int .i64 (m : Nat)), (51, .slice (some ⟨b, off, none⟩) m c)] H1 w [.box b3 (ckL (ofF us)) 26] (wpAny Tryd.prog .any ops2 Q2 5 #[true, true, true, true, true, true, true, true, true, true, true, true, true, true, false, true, true, true, false, false, false, false]) := by
      intro H1 b1 off1 c1 arr1 t1 m1 hb1 ha1 up
      refine Sx.anyStep 14 [18] (Sx.readyAt eo (by kernel_rfl)) ⟨?_, ?_, trivial⟩
      ·
        refine Sx.anyOp #[true, true, true, true, true, true, true, true, true, true, true, true, true, true, true, true, true, true, false, false, false, false] o14 rfl ?_
        refine Sx.guardT g11 rfl ?_
        refine Sx.yl (.bytesStr Fx.bytes62 Fx.str9 rfl (l := [] ++ bytesL (ofF us)) rfl (.mem hb1 ha1)) rfl ?_
        exact Sx.reSl (d1111111111110000 H1 b1 off1 c1 arr1 t1 m1 hb1 ha1 up) ⟨rfl, rfl, rfl, rfl, rfl, rfl, rfl, rfl, rfl, rfl, rfl, rfl, rfl, rfl, rfl, rfl, trivial⟩
      ·
        refine Sx.anyOp #[true, true, true, true, true, true, true, true, true, true, true, true, true, true, false, true, true, true, true, false, false, false] o18 rfl ?_
        refine Sx.guardT g11 rfl ?_
        first
          | refine Sx.yl (.bytesStr Fx.bytes62 Fx.str9 rfl (l := (l.take 200).take m) (by simp; omega) (.mem (up _ _ hb) (take_at ha))) rfl ?_
          | refine Sx.yl (.bytesStr Fx.bytes62 Fx.str9 rfl (l := (l.take 200).take m) (by simp; omega) (.mem hb (take_at ha))) rfl ?_
        exact Sx.reSl (d1111111101111000 H1 b1 off1 c1 arr1 t1 m1 hb1 ha1 up) ⟨rfl, rfl, rfl, rfl, rfl, rfl, rfl, rfl, rfl, rfl, rfl, rfl, rfl, rfl, rfl, rfl, trivial⟩
    have d1111111001111000 : Sx.At 55 [(0, .slice (some ⟨b, off, none⟩) 200 c), (3, .pointer (some ⟨b3, 0, none⟩)), (4, .int .i64 (m : Nat)), (39, .bool true), (40, .int .i64 (m : Nat)), (41, .slice (some ⟨b, off, none⟩) 200 c), (42, .int .i64 ((200 : Nat) : Int)), (43, .bool true), (44, .bool true), (45, .bool true), (46, .agg (ckL (ofF us)).toArray), (49, .slice (some ⟨b, off, none⟩) 200 c), (50, .int .i64 (m : Nat)), (51, .slice (some ⟨b, off, none⟩) m c), (52, strV ((l.take 200).take m))] H w [.box b3 (ckL (ofF us)) 26] (wpAny Tryd.prog .any ops2 Q2 5 #[true, true, true, true, true, true, true, true, true, true, true, true, true, false, false, true, true, true, true, false, false, false]) := by
      refine Sx.anyStep 13 [] (Sx.readyAt eo (by kernel_rfl)) ⟨?_, trivial⟩
      ·
        refine Sx.anyOp #[true, true, true, true, true, true, true, true, true, true, true, true, true, true, false, true, true, true, true, false, false, false] o13 rfl ?_
        refine Sx.guardT g11 rfl ?_
        refine Sx.callG Fx.call31 rfl (fun W s => bytes_nil (ofF us) hro.2.2.2 _ W s.agr [] rfl) rfl (fun v H1 hv1 up => ?_)
        obtain ⟨hn1, p1, c1, rfl, hc1, hcm1, hs1⟩ := hv1
        obtain ⟨b1, off1, arr1, t1, m1, rfl, hb1, ha1⟩ := hs1.resolve_left (by simp [bytesL])
        exact Sx.reSl (d1111111101111000 H1 b1 off1 c1 arr1 t1 m1 hb1 ha1 up) ⟨rfl, rfl, rfl, rfl, rfl, rfl, rfl, rfl, rfl, rfl, rfl, rfl, rfl, rfl, rfl, rfl, trivial⟩
    have d1111111111000000 : ∀ (H1 : Hp) (b1 off1 c1 : Nat) (arr1 : Array Value) (t1 : TypeId) (m1 : Nat × Nat) (_ : H1 b1 = some (.cells arr1 t1 m1)) (_ : ∀ (j : Nat) u, (([] ++ bytesL (ofF us)).map byteV)[j]? = some u → arr1[off1 + j]? = some u) (_ : ∀ b o, H b = some o → H1 b = some o), Sx.At 55 [(0, .slice (some ⟨b, off, none⟩) 200 c), (3, .pointer (some ⟨b3, 0, none⟩)), (4, .int .i64 (m : Nat)), (39, .bool true), (40, .int .i64 (m : Nat)), (41, .slice (some ⟨b, off, none⟩) 200 c), (42, .int .i64 ((200 : Nat) : Int)), (43, .bool true), (44, .bool true), (45, .bool true), (46, .agg (ckL (ofF us)).toArray), (47, .slice (some ⟨b1, off1, none⟩) ([] ++ bytesL (ofF us)).length c1), (48, strV ([] ++ bytesL (ofF us))), (49, .slice (some ⟨b, off, none⟩) 200 c)] H1 w [.box b3 (ckL (ofF us)) 26] (wpAny Tryd.prog .any ops2 Q2 6 #[true, true, true, true, true, true, true, true, true, true, true, true, true, true, true, true, false, false, false, false, false, false]) := by
      intro H1 b1 off1 c1 arr1 t1 m1 hb1 ha1 up
      refine Sx.anyStep 16 [] (Sx.readyAt eo (by kernel_rfl)) ⟨?_, trivial⟩
      ·
        refine Sx.anyOp #[true, true, true, true, true, true, true, true, true, true, true, true, true, true, true, true, true, false, false, false, false, false] o16 rfl ?_
        refine Sx.guardT g11 rfl ?_
        refine Sx.yl (.move rfl) rfl ?_
        exact Sx.reSl (d1111111111100000 H1 b1 off1 c1 arr1 t1 m1 hb1 ha1 up) ⟨rfl, rfl, rfl, rfl, rfl, rfl, rfl, rfl, rfl, rfl, rfl, rfl, rfl, rfl, rfl, trivial⟩
    have d1111111110100000 : ∀ (H1 : Hp) (b1 off1 c1 : Nat) (arr1 : Array Value) (t1 : TypeId) (m1 : Nat × Nat) (_ : H1 b1 = some (.cells arr1 t1 m1)) (_ : ∀ (j : Nat) u, (([] ++ bytesL (ofF us)).map byteV)[j]? = some u → arr1[off1 + j]? = some u) (_ : ∀ b o, H b = some o → H1 b = some o), Sx.At 55 [(0, .slice (some ⟨b, off, none⟩) 200 c), (3, .pointer (some ⟨b3, 0, none⟩)), (4, .int .i64 (m : Nat)), (39, .bool true), (40, .int .i64 (m : Nat)), (41, .slice (some ⟨b, off, none⟩) 200 c), (42, .int .i64 ((200 : Nat) : Int)), (43, .bool true), (44, .bool true), (45, .bool true), (46, .agg (ckL (ofF us)).toArray), (47, .slice (some ⟨b1, off1, none⟩) ([] ++ bytesL (ofF us)).length c1), (48, strV ([] ++ bytesL (ofF us))), (50, .int .i64 (m : Nat))] H1 w [.box b3 (ckL (ofF us)) 26] (wpAny Tryd.prog .any ops2 Q2 6 #[true, true, true, true, true, true, true, true, true, true, true, true, true, true, true, false, true, false, false, false, false, false]) := by
      intro H1 b1 off1 c1 arr1 t1 m1 hb1 ha1 up
      refine Sx.anyStep 15 [] (Sx.readyAt eo (by kernel_rfl)) ⟨?_, trivial⟩
      ·
        refine Sx.anyOp #[true, true, true, true, true, true, true, true, true, true, true, true, true, true, true, true, true, false, false, false, false, false] o15 rfl ?_
        refine Sx.guardT g11 rfl ?_
        refine Sx.yl (.move rfl) rfl ?_
        exact Sx.reSl (d1111111111100000 H1 b1 off1 c1 arr1 t1 m1 hb1 ha1 up) ⟨rfl, rfl, rfl, rfl, rfl, rfl, rfl, rfl, rfl, rfl, rfl, rfl, rfl, rfl, rfl, trivial⟩
    have d1111111101100000 : ∀ (H1 : Hp) (b1 off1 c1 : Nat) (arr1 : Array Value) (t1 : TypeId) (m1 : Nat × Nat) (_ : H1 b1 = some (.cells arr1 t1 m1)) (_ : ∀ (j : Nat) u, (([] ++ bytesL (ofF us)).map byteV)[j]? = some u → arr1[off1 + j]? = some u) (_ : ∀ b o, H b = some o → H1 b = some o), Sx.At 55 [(0, .slice (some ⟨b, off, none⟩) 200 c), (3, .pointer (some ⟨b3, 0, none⟩)), (4, .int .i64 (m : Nat)), (39, .bool true), (40, .int .i64 (m : Nat)), (41, .slice (some ⟨b, off, none⟩) 200 c), (42, .int .i64 ((200 : Nat) : Int)), (43, .bool true), (44, .bool true), (45, .bool true), (46, .agg (ckL (ofF us)).toArray), (47, .slice (some ⟨b1, off1, none⟩) ([] ++ bytesL (ofF us)).length c1), (49, .slice (some ⟨b, off, none⟩) 200 c), (50, .int .i64 (m : Nat))] H1 w [.box b3 (ckL (ofF us)) 26] (wpAny Tryd.prog .any ops2 Q2 6 #[true, true, true, true, true, true, true, true, true, true, true, true, true, true, false, true, true, false, false, false, false, false]) := by
      intro H1 b1 off1 c1 arr1 t1 m1 hb1 ha1 up
      refine Sx.anyStep 14 [17] (Sx.readyAt eo (by kernel_rfl)) ⟨?_, ?_, trivial⟩
      ·
        refine Sx.anyOp #[true, true, true, true, true, true, true, true, true, true, true, true, true, true, true, true, true, false, false, false, false, false] o14 rfl ?_
        refine Sx.guardT g11 rfl ?_
        refine Sx.yl (.bytesStr Fx.bytes62 Fx.str9 rfl (l := [] ++ bytesL (ofF us)) rfl (.mem hb1 ha1)) rfl ?_
        exact Sx.reSl (d1111111111100000 H1 b1 off1 c1 arr1 t1 m1 hb1 ha1 up) ⟨rfl, rfl, rfl, rfl, rfl, rfl, rfl, rfl, rfl, rfl, rfl, rfl, rfl, rfl, rfl, trivial⟩
      ·
        refine Sx.anyOp #[true, true, true, true, true, true, true, true, true, true, true, true, true, true, false, true, true, true, false, false, false, false] o17 rfl ?_
        refine Sx.guardT g11 rfl ?_
        refine Sx.yl (.cutHi Fx.sl62 rfl rfl rfl (h := m) (by omega) (fun q e => by rw [← Option.some.inj e])) rfl ?_
        exact Sx.reSl (d1111111101110000 H1 b1 off1 c1 arr1 t1 m1 hb1 ha1 up) ⟨rfl, rfl, rfl, rfl, rfl, rfl, rfl, rfl, rfl, rfl, rfl, rfl, rfl, rfl, rfl, trivial⟩
    have d1111111001110000 : Sx.At 55 [(0, .slice (some ⟨b, off, none⟩) 200 c), (3, .pointer (some ⟨b3, 0, none⟩)), (4, .int .i64 (m : Nat)), (39, .bool true), (40, .int .i64 (m : Nat)), (41, .slice (some ⟨b, off, none⟩) 200 c), (42, .int .i64 ((200 : Nat) : Int)), (43, .bool true), (44, .bool true), (45, .bool true), (46, .agg (ckL (ofF us)).toArray), (49, .slice (some ⟨b, off, none⟩) 200 c), (50, .int .i64 (m : Nat)), (51, .slice (some ⟨b, off, none⟩) m c)] H w [.box b3 (ckL (ofF us)) 26] (wpAny Tryd.prog .any ops2 Q2 6 #[true, true, true, true, true, true, true, true, true, true, true, true, true, false, false, true, true, true, false, false, false, false]) := by
      refine Sx.anyStep 13 [18] (Sx.readyAt eo (by kernel_rfl)) ⟨?_, ?_, trivial⟩
      ·
        refine Sx.anyOp #[true, true, true, true, true, true, true, true, true, true, true, true, true, true, false, true, true, true, false, false, false, false] o13 rfl ?_
        refine Sx.guardT g11 rfl ?_
        refine Sx.callG Fx.call31 rfl (fun W s => bytes_nil (ofF us) hro.2.2.2 _ W s.agr [] rfl) rfl (fun v H1 hv1 up => ?_)
        obtain ⟨hn1, p1, c1, rfl, hc1, hcm1, hs1⟩ := hv1
        obtain ⟨b1, off1, arr1, t1, m1, rfl, hb1, ha1⟩ := hs1.resolve_left (by simp [bytesL])
        exact Sx.reSl (d1111111101110000 H1 b1 off1 c1 arr1 t1 m1 hb1 ha1 up) ⟨rfl, rfl, rfl, rfl, rfl, rfl, rfl, rfl, rfl, rfl, rfl, rfl, rfl, rfl, rfl, trivial⟩
      ·
        refine Sx.anyOp #[true, true, true, true, true, true, true, true, true, true, true, true, true, false, false, true, true, true, true, false, false, false] o18 rfl ?_
        refine Sx.guardT g11 rfl ?_
        first
          | refine Sx.yl (.bytesStr Fx.bytes62 Fx.str9 rfl (l := (l.take 200).take m) (by simp; omega) (.mem (up _ _ hb) (take_at ha))) rfl ?_
          | refine Sx.yl (.bytesStr Fx.bytes62 Fx.str9 rfl (l := (l.take 200).take m) (by simp; omega) (.mem hb (take_at ha))) rfl ?_
        exact Sx.reSl (d1111111001111000 ) ⟨rfl, rfl, rfl, rfl, rfl, rfl, rfl, rfl, rfl, rfl, rfl, rfl, rfl, rfl, rfl, trivial⟩
    have d1111110001111000 : Sx.At 55 [(0, .slice (some ⟨b, off, none⟩) 200 c), (3, .pointer (some ⟨b3, 0, none⟩)), (4, .int .i64 (m : Nat)), (39, .bool true), (40, .int .i64 (m : Nat)), (41, .slice (some ⟨b, off, none⟩) 200 c), (42, .int .i64 ((200 : Nat) : Int)), (43, .bool true), (44, .bool true), (45, .bool true), (49, .slice (some ⟨b, off, none⟩) 200 c), (50, .int .i64 (m : Nat)), (51, .slice (some ⟨b, off, none⟩) m c), (52, strV ((l.take 200).take m))] H w [.box b3 (ckL (ofF us)) 26] (wpAny Tryd.prog .any ops2 Q2 6 #[true, true, true, true, true, true, true, true, true, true, true, true, false, false, false, true, true, true, true, false, false, false]) := by
      refine Sx.anyStep 12 [] (Sx.readyAt eo (by kernel_rfl)) ⟨?_, trivial⟩
      ·
        refine Sx.anyOp #[true, true, true, true, true, true, true, true, true, true, true, true, true, false, false, true, true, true, true, false, false, false] o12 rfl ?_
        refine Sx.guardT g11 rfl ?_
        refine Sx.yl (.loadW rfl Fx.agg26 (.head _) (ck_length _)) rfl ?_
        exact Sx.reSl (d1111111001111000 ) ⟨rfl, rfl, rfl, rfl, rfl, rfl, rfl, rfl, rfl, rfl, rfl, rfl, rfl, rfl, rfl, trivial⟩
    have d1111111110000000 : ∀ (H1 : Hp) (b1 off1 c1 : Nat) (arr1 : Array Value) (t1 : TypeId) (m1 : Nat × Nat) (_ : H1 b1 = some (.cells arr1 t1 m1)) (_ : ∀ (j : Nat) u, (([] ++ bytesL (ofF us)).map byteV)[j]? = some u → arr1[off1 + j]? = some u) (_ : ∀ b o, H b = some o → H1 b = some o), Sx.At 55 [(0, .slice (some ⟨b, off, none⟩) 200 c), (3, .pointer (some ⟨b3, 0, none⟩)), (4, .int .i64 (m : Nat)), (39, .bool true), (40, .int .i64 (m : Nat)), (41, .slice (some ⟨b, off, none⟩) 200 c), (42, .int .i64 ((200 : Nat) : Int)), (43, .bool true), (44, .bool true), (45, .bool true), (46, .agg (ckL (ofF us)).toArray), (47, .slice (some ⟨b1, off1, none⟩) ([] ++ bytesL (ofF us)).length c1), (48, strV ([] ++ bytesL (ofF us)))] H1 w [.box b3 (ckL (ofF us)) 26] (wpAny Tryd.prog .any ops2 Q2 7 #[true, true, true, true, true, true, true, true, true, true, true, true, true, true, true, false, false, false, false, false, false, false]) := by
      intro H1 b1 off1 c1 arr1 t1 m1 hb1 ha1 up
      refine Sx.anyStep 15 [16] (Sx.readyAt eo (by kernel_rfl)) ⟨?_, ?_, trivial⟩
      ·
        refine Sx.anyOp #[true, true, true, true, true, true, true, true, true, true, true, true, true, true, true, true, false, false, false, false, false, false] o15 rfl ?_
        refine Sx.guardT g11 rfl ?_
        refine Sx.yl (.move rfl) rfl ?_
        exact Sx.reSl (d1111111111000000 H1 b1 off1 c1 arr1 t1 m1 hb1 ha1 up) ⟨rfl, rfl, rfl, rfl, rfl, rfl, rfl, rfl, rfl, rfl, rfl, rfl, rfl, rfl, trivial⟩
      ·
        refine Sx.anyOp #[true, true, true, true, true, true, true, true, true, true, true, true, true, true, true, false, true, false, false, false, false, false] o16 rfl ?_
        refine Sx.guardT g11 rfl ?_
        refine Sx.yl (.move rfl) rfl ?_
        exact Sx.reSl (d1111111110100000 H1 b1 off1 c1 arr1 t1 m1 hb1 ha1 up) ⟨rfl, rfl, rfl, rfl, rfl, rfl, rfl, rfl, rfl, rfl, rfl, rfl, rfl, rfl, trivial⟩
    have d1111111101000000 : ∀ (H1 : Hp) (b1 off1 c1 : Nat) (arr1 : Array Value) (t1 : TypeId) (m1 : Nat × Nat) (_ : H1 b1 = some (.cells arr1 t1 m1)) (_ : ∀ (j : Nat) u, (([] ++ bytesL (ofF us)).map byteV)[j]? = some u → arr1[off1 + j]? = some u) (_ : ∀ b o, H b = some o → H1 b = some o), Sx.At 55 [(0, .slice (some ⟨b, off, none⟩) 200 c), (3, .pointer (some ⟨b3, 0, none⟩)), (4, .int .i64 (m : Nat)), (39, .bool true), (40, .int .i64 (m : Nat)), (41, .slice (some ⟨b, off, none⟩) 200 c), (42, .int .i64 ((200 : Nat) : Int)), (43, .bool true), (44, .bool true), (45, .bool true), (46, .agg (ckL (ofF us)).toArray), (47, .slice (some ⟨b1, off1, none⟩) ([] ++ bytesL (ofF us)).length c1), (49, .slice (some ⟨b, off, none⟩) 200 c)] H1 w [.box b3 (ckL (ofF us)) 26] (wpAny Tryd.prog .any ops2 Q2 7 #[true, true, true, true, true, true, true, true, true, true, true, true, true, true, false, true, false, false, false, false, false, false]) := by
      intro H1 b1 off1 c1 arr1 t1 m1 hb1 ha1 up
      refine Sx.anyStep 14 [16] (Sx.readyAt eo (by kernel_rfl)) ⟨?_, ?_, trivial⟩
      ·
        refine Sx.anyOp #[true, true, true, true, true, true, true, true, true, true, true, true, true, true, true, true, false, false, false, false, false, false] o14 rfl ?_
        refine Sx.guardT g11 rfl ?_
        refine Sx.yl (.bytesStr Fx.bytes62 Fx.str9 rfl (l := [] ++ bytesL (ofF us)) rfl (.mem hb1 ha1)) rfl ?_
        exact Sx.reSl (d1111111111000000 H1 b1 off1 c1 arr1 t1 m1 hb1 ha1 up) ⟨rfl, rfl, rfl, rfl, rfl, rfl, rfl, rfl, rfl, rfl, rfl, rfl, rfl, rfl, trivial⟩
      ·
        refine Sx.anyOp #[true, true, true, true, true, true, true, true, true, true, true, true, true, true, false, true, true, false, false, false, false, false] o16 rfl ?_
        refine Sx.guardT g11 rfl ?_
        refine Sx.yl (.move rfl) rfl ?_
        exact Sx.reSl (d1111111101100000 H1 b1 off1 c1 arr1 t1 m1 hb1 ha1 up) ⟨rfl, rfl, rfl, rfl, rfl, rfl, rfl, rfl, rfl, rfl, rfl, rfl, rfl, rfl, trivial⟩
    have d1111111100100000 : ∀ (H1 : Hp) (b1 off1 c1 : Nat) (arr1 : Array Value) (t1 : TypeId) (m1 : Nat × Nat) (_ : H1 b1 = some (.cells arr1 t1 m1)) (_ : ∀ (j : Nat) u, (([] ++ bytesL (ofF us)).map byteV)[j]? = some u → arr1[off1 + j]? = some u) (_ : ∀ b o, H b = some o → H1 b = some o), Sx.At 55 [(0, .slice (some ⟨b, off, none⟩) 200 c), (3, .pointer (some ⟨b3, 0, none⟩)), (4, .int .i64 (m : Nat)), (39, .bool true), (40, .int .i64 (m : Nat)), (41, .slice (some ⟨b, off, none⟩) 200 c), (42, .int .i64 ((200 : Nat) : Int)), (43, .bool true), (44, .bool true), (45, .bool true), (46, .agg (ckL (ofF us)).toArray), (47, .slice (some ⟨b1, off1, none⟩) ([] ++ bytesL (ofF us)).length c1), (50, .int .i64 (m : Nat))] H1 w [.box b3 (ckL (ofF us)) 26] (wpAny Tryd.prog .any ops2 Q2 7 #[true, true, true, true, true, true, true, true, true, true, true, true, true, true, false, false, true, false, false, false, false, false]) := by
      intro H1 b1 off1 c1 arr1 t1 m1 hb1 ha1 up
      refine Sx.anyStep 14 [15] (Sx.readyAt eo (by kernel_rfl)) ⟨?_, ?_, trivial⟩
      ·
        refine Sx.anyOp #[true, true, true, true, true, true, true, true, true, true, true, true, true, true, true, false, true, false, false, false, false, false] o14 rfl ?_
        refine Sx.guardT g11 rfl ?_
        refine Sx.yl (.bytesStr Fx.bytes62 Fx.str9 rfl (l := [] ++ bytesL (ofF us)) rfl (.mem hb1 ha1)) rfl ?_
        exact Sx.reSl (d1111111110100000 H1 b1 off1 c1 arr1 t1 m1 hb1 ha1 up) ⟨rfl, rfl, rfl, rfl, rfl, rfl, rfl, rfl, rfl, rfl, rfl, rfl, rfl, rfl, trivial⟩
      ·
        refine Sx.anyOp #[true, true, true, true, true, true, true, true, true, true, true, true, true, true, false, true, true, false, false, false, false, false] o15 rfl ?_
        refine Sx.guardT g11 rfl ?_
        refine Sx.yl (.move rfl) rfl ?_
        exact Sx.reSl (d1111111101100000 H1 b1 off1 c1 arr1 t1 m1 hb1 ha1 up) ⟨rfl, rfl, rfl, rfl, rfl, rfl, rfl, rfl, rfl, rfl, rfl, rfl, rfl, rfl, trivial⟩
    have d1111111001100000 : Sx.At 55 [(0, .slice (some ⟨b, off, none⟩) 200 c), (3, .pointer (some ⟨b3, 0, none⟩)), (4, .int .i64 (m : Nat)), (39, .bool true), (40, .int .i64 (m : Nat)), (41, .slice (some ⟨b, off, none⟩) 200 c), (42, .int .i64 ((200 : Nat) : Int)), (43, .bool true), (44, .bool true), (45, .bool true), (46, .agg (ckL (ofF us)).toArray), (49, .slice (some ⟨b, off, none⟩) 200 c), (50, .int .i64 (m : Nat))] H w [.box b3 (ckL (ofF us)) 26] (wpAny Tryd.prog .any ops2 Q2 7 #[true, true, true, true, true, true, true, true, true, true, true, true, true, false, false, true, true, false, false, false, false, false]) := by
      refine Sx.anyStep 13 [17] (Sx.readyAt eo (by kernel_rfl)) ⟨?_, ?_, trivial⟩
      ·
        refine Sx.anyOp #[true, true, true, true, true, true, true, true, true, true, true, true, true, true, false, true, true, false, false, false, false, false] o13 rfl ?_
        refine Sx.guardT g11 rfl ?_
        refine Sx.callG Fx.call31 rfl (fun W s => bytes_nil (ofF us) hro.2.2.2 _ W s.agr [] rfl) rfl (fun v H1 hv1 up => ?_)
        obtain ⟨hn1, p1, c1, rfl, hc1, hcm1, hs1⟩ := hv1
        obtain ⟨b1, off1, arr1, t1, m1, rfl, hb1, ha1⟩ := hs1.resolve_left (by simp [bytesL])
        exact Sx.reSl (d1111111101100000 H1 b1 off1 c1 arr1 t1 m1 hb1 ha1 up) ⟨rfl, rfl, rfl, rfl, rfl, rfl, rfl, rfl, rfl, rfl, rfl, rfl, rfl, rfl, trivial⟩
      ·
        refine Sx.anyOp #[true, true, true, true, true, true, true, true, true, true, true, true, true, false, false, true, true, true, false, false, false, false] o17 rfl ?_
        refine Sx.guardT g11 rfl ?_
        refine Sx.yl (.cutHi Fx.sl62 rfl rfl rfl (h := m) (by omega) (fun q e => by rw [← Option.some.inj e])) rfl ?_
        exact Sx.reSl (d1111111001110000 ) ⟨rfl, rfl, rfl, rfl, rfl, rfl, rfl, rfl, rfl, rfl, rfl, rfl, rfl, rfl, trivial⟩
    have d1111110001110000 : Sx.At 55 [(0, .slice (some ⟨b, off, none⟩) 200 c), (3, .pointer (some ⟨b3, 0, none⟩)), (4, .int .i64 (m : Nat)), (39, .bool true), (40, .int .i64 (m : Nat)), (41, .slice (some ⟨b, off, none⟩) 200 c), (42, .int .i64 ((200 : Nat) : Int)), (43, .bool true), (44, .bool true), (45, .bool true), (49, .slice (some ⟨b, off, none⟩) 200 c), (50, .int .i64 (m : Nat)), (51, .slice (some ⟨b, off, none⟩) m c)] H w [.box b3 (ckL (ofF us)) 26] (wpAny Tryd.prog .any ops2 Q2 7 #[true, true, true, true, true, true, true, true, true, true, true, true, false, false, false, true, true, true, false, false, false, false]) := by
      refine Sx.anyStep 12 [18] (Sx.readyAt eo (by kernel_rfl)) ⟨?_, ?_, trivial⟩
      ·
        refine Sx.anyOp #[true, true, true, true, true, true, true, true, true, true, true, true, true, false, false, true, true, true, false, false, false, false] o12 rfl ?_
        refine Sx.guardT g11 rfl ?_
        refine Sx.yl (.loadW rfl Fx.agg26 (.head _) (ck_length _)) rfl ?_
        exact Sx.reSl (d1111111001110000 ) ⟨rfl, rfl, rfl, rfl, rfl, rfl, rfl, rfl, rfl, rfl, rfl, rfl, rfl, rfl, trivial⟩
      ·
        refine Sx.anyOp #[true, true, true, true, true, true, true, true, true, true, true, true, false, false, false, true, true, true, true, false, false, false] o18 rfl ?_
        refine Sx.guardT g11 rfl ?_
        first
          | refine Sx.yl (.bytesStr Fx.bytes62 Fx.str9 rfl (l := (l.take 200).take m) (by simp; omega) (.mem (up _ _ hb) (take_at ha))) rfl ?_
          | refine Sx.yl (.bytesStr Fx.bytes62 Fx.str9 rfl (l := (l.take 200).take m) (by simp; omega) (.mem hb (take_at ha))) rfl ?_
        exact Sx.reSl (d1111110001111000 ) ⟨rfl, rfl, rfl, rfl, rfl, rfl, rfl, rfl, rfl, rfl, rfl, rfl, rfl, rfl, trivial⟩
    have d1111111100000000 : ∀ (H1 : Hp) (b1 off1 c1 : Nat) (arr1 : Array Value) (t1 : TypeId) (m1 : Nat × Nat) (_ : H1 b1 = some (.cells arr1 t1 m1)) (_ : ∀ (j : Nat) u, (([] ++ bytesL (ofF us)).map byteV)[j]? = some u → arr1[off1 + j]? = some u) (_ : ∀ b o, H b = some o → H1 b = some o), Sx.At 55 [(0, .slice (some ⟨b, off, none⟩) 200 c), (3, .pointer (some ⟨b3, 0, none⟩)), (4, .int .i64 (m : Nat)), (39, .bool true), (40, .int .i64 (m : Nat)), (41, .slice (some ⟨b, off, none⟩) 200 c), (42, .int .i64 ((200 : Nat) : Int)), (43, .bool true), (44, .bool true), (45, .bool true), (46, .agg (ckL (ofF us)).toArray), (47, .slice (some ⟨b1, off1, none⟩) ([] ++ bytesL (ofF us)).length c1)] H1 w [.box b3 (ckL (ofF us)) 26] (wpAny Tryd.prog .any ops2 Q2 8 #[true, true, true, true, true, true, true, true, true, true, true, true, true, true, false, false, false, false, false, false, false, false]) := by
      intro H1 b1 off1 c1 arr1 t1 m1 hb1 ha1 up
      refine Sx.anyStep 14 [15, 16] (Sx.readyAt eo (by kernel_rfl)) ⟨?_, ?_, ?_, trivial⟩
      ·
        refine Sx.anyOp #[true, true, true, true, true, true, true, true, true, true, true, true, true, true, true, false, false, false, false, false, false, false] o14 rfl ?_
        refine Sx.guardT g11 rfl ?_
        refine Sx.yl (.bytesStr Fx.bytes62 Fx.str9 rfl (l := [] ++ bytesL (ofF us)) rfl (.mem hb1 ha1)) rfl ?_
        exact Sx.reSl (d1111111110000000 H1 b1 off1 c1 arr1 t1 m1 hb1 ha1 up) ⟨rfl, rfl, rfl, rfl, rfl, rfl, rfl, rfl, rfl, rfl, rfl, rfl, rfl, trivial⟩
      ·
        refine Sx.anyOp #[true, true, true, true, true, true, true, true, true, true, true, true, true, true, false, true, false, false, false, false, false, false] o15 rfl ?_
        refine Sx.guardT g11 rfl ?_
        refine Sx.yl (.move rfl) rfl ?_
        exact Sx.reSl (d1111111101000000 H1 b1 off1 c1 arr1 t1 m1 hb1 ha1 up) ⟨rfl, rfl, rfl, rfl, rfl, rfl, rfl, rfl, rfl, rfl, rfl, rfl, rfl, trivial⟩
      ·
        refine Sx.anyOp #[true, true, true, true, true, true, true, true, true, true, true, true, true, true, false, false, true, false, false, false, false, false] o16 rfl ?_
        refine Sx.guardT g11 rfl ?_
        refine Sx.yl (.move rfl) rfl ?_
        exact Sx.reSl (d1111111100100000 H1 b1 off1 c1 arr1 t1 m1 hb1 ha1 up) ⟨rfl, rfl, rfl, rfl, rfl, rfl, rfl, rfl, rfl, rfl, rfl, rfl, rfl, trivial⟩
    have d1111111001000000 : Sx.At 55 [(0, .slice (some ⟨b, off, none⟩) 200 c), (3, .pointer (some ⟨b3, 0, none⟩)), (4, .int .i64 (m : Nat)), (39, .bool true), (40, .int .i64 (m : Nat)), (41, .slice (some ⟨b, off, none⟩) 200 c), (42, .int .i64 ((200 : Nat) : Int)), (43, .bool true), (44, .bool true), (45, .bool true), (46, .agg (ckL (ofF us)).toArray), (49, .slice (some ⟨b, off, none⟩) 200 c)] H w [.box b3 (ckL (ofF us)) 26] (wpAny Tryd.prog .any ops2 Q2 8 #[true, true, true, true, true, true, true, true, true, true, true, true, true, false, false, true, false, false, false, false, false, false]) := by
      refine Sx.anyStep 13 [16] (Sx.readyAt eo (by kernel_rfl)) ⟨?_, ?_, trivial⟩
      ·
        refine Sx.anyOp #[true, true, true, true, true, true, true, true, true, true, true, true, true, true, false, true, false, false, false, false, false, false] o13 rfl ?_
        refine Sx.guardT g11 rfl ?_
        refine Sx.callG Fx.call31 rfl (fun W s => bytes_nil (ofF us) hro.2.2.2 _ W s.agr [] rfl) rfl (fun v H1 hv1 up => ?_)
        obtain ⟨hn1, p1, c1, rfl, hc1, hcm1, hs1⟩ := hv1
        obtain ⟨b1, off1, arr1, t1, m1, rfl, hb1, ha1⟩ := hs1.resolve_left (by simp [bytesL])
        exact Sx.reSl (d1111111101000000 H1 b1 off1 c1 arr1 t1 m1 hb1 ha1 up) ⟨rfl, rfl, rfl, rfl, rfl, rfl, rfl, rfl, rfl, rfl, rfl, rfl, rfl, trivial⟩
      ·
        refine Sx.anyOp #[true, true, true, true, true, true, true, true, true, true, true, true, true, false, false, true, true, false, false, false, false, false] o16 rfl ?_
        refine Sx.guardT g11 rfl ?_
        refine Sx.yl (.move rfl) rfl ?_
        exact Sx.reSl (d1111111001100000 ) ⟨rfl, rfl, rfl, rfl, rfl, rfl, rfl, rfl, rfl, rfl, rfl, rfl, rfl, trivial⟩
    have d1111111000100000 : Sx.At 55 [(0, .slice (some ⟨b, off, none⟩) 200 c), (3, .pointer (some ⟨b3, 0, none⟩)), (4, .int .i64 (m : Nat)), (39, .bool true), (40, .int .i64 (m : Nat)), (41, .slice (some ⟨b, off, none⟩) 200 c), (42, .int .i64 ((200 : Nat) : Int)), (43, .bool true), (44, .bool true), (45, .bool true), (46, .agg (ckL (ofF us)).toArray), (50, .int .i64 (m : Nat))] H w [.box b3 (ckL (ofF us)) 26] (wpAny Tryd.prog .any ops2 Q2 8 #[true, true, true, true, true, true, true, true, true, true, true, true, true, false, false, false, true, false, false, false, false, false]) := by
      refine Sx.anyStep 13 [15] (Sx.readyAt eo (by kernel_rfl)) ⟨?_, ?_, trivial⟩
      ·
        refine Sx.anyOp #[true, true, true, true, true, true, true, true, true, true, true, true, true, true, false, false, true, false, false, false, false, false] o13 rfl ?_
        refine Sx.guardT g11 rfl ?_
        refine Sx.callG Fx.call31 rfl (fun W s => bytes_nil (ofF us) hro.2.2.2 _ W s.agr [] rfl) rfl (fun v H1 hv1 up => ?_)
        obtain ⟨hn1, p1, c1, rfl, hc1, hcm1, hs1⟩ := hv1
        obtain ⟨b1, off1, arr1, t1, m1, rfl, hb1, ha1⟩ := hs1.resolve_left (by simp [bytesL])
        exact Sx.reSl (d1111111100100000 H1 b1 off1 c1 arr1 t1 m1 hb1 ha1 up) ⟨rfl, rfl, rfl, rfl, rfl, rfl, rfl, rfl, rfl, rfl, rfl, rfl, rfl, trivial⟩
      ·
        refine Sx.anyOp #[true, true, true, true, true, true, true, true, true, true, true, true, true, false, false, true, true, false, false, false, false, false] o15 rfl ?_
        refine Sx.guardT g11 rfl ?_
        refine Sx.yl (.move rfl) rfl ?_
        exact Sx.reSl (d1111111001100000 ) ⟨rfl, rfl, rfl, rfl, rfl, rfl, rfl, rfl, rfl, rfl, rfl, rfl, rfl, trivial⟩
    have d1111110001100000 : Sx.At 55 [(0, .slice (some ⟨b, off, none⟩) 200 c), (3, .pointer (some ⟨b3, 0, none⟩)), (4, .int .i64 (m : Nat)), (39, .bool true), (40, .int .i64 (m : Nat)), (41, .slice (some ⟨b, off, none⟩) 200 c), (42, .int .i64 ((200 : Nat) : Int)), (43, .bool true), (44, .bool true), (45, .bool true), (49, .slice (some ⟨b, off, none⟩) 200 c), (50, .int .i64 (m : Nat))] H w [.box b3 (ckL (ofF us)) 26] (wpAny Tryd.prog .any ops2 Q2 8 #[true, true, true, true, true, true, true, true, true, true, true, true, false, false, false, true, true, false, false, false, false, false]) := by
      refine Sx.anyStep 12 [17] (Sx.readyAt eo (by kernel_rfl)) ⟨?_, ?_, trivial⟩
      ·
        refine Sx.anyOp #[true, true, true, true, true, true, true, true, true, true, true, true, true, false, false, true, true, false, false, false, false, false] o12 rfl ?_
        refine Sx.guardT g11 rfl ?_
        refine Sx.yl (.loadW rfl Fx.agg26 (.head _) (ck_length _)) rfl ?_
        exact Sx.reSl (d1111111001100000 ) ⟨rfl, rfl, rfl, rfl, rfl, rfl, rfl, rfl, rfl, rfl, rfl, rfl, rfl, trivial⟩
      ·
        refine Sx.anyOp #[true, true, true, true, true, true, true, true, true, true, true, true, false, false, false, true, true, true, false, false, false, false] o17 rfl ?_
        refine Sx.guardT g11 rfl ?_
        refine Sx.yl (.cutHi Fx.sl62 rfl rfl rfl (h := m) (by omega) (fun q e => by rw [← Option.some.inj e])) rfl ?_
        exact Sx.reSl (d1111110001110000 ) ⟨rfl, rfl, rfl, rfl, rfl, rfl, rfl, rfl, rfl, rfl, rfl, rfl, rfl, trivial⟩
    have d1111111000000000 : Sx.At 55 [(0, .slice (some ⟨b, off, none⟩) 200 c), (3, .pointer (some ⟨b3, 0, none⟩)), (4, .int .i64 (m : Nat)), (39, .bool true), (40, .int .i64 (m : Nat)), (41, .slice (some ⟨b, off, none⟩) 200 c), (42, .int .i64 ((200 : Nat) : Int)), (43, .bool true), (44, .bool true), (45, .bool true), (46, .agg (ckL (ofF us)).toArray)] H w [.box b3 (ckL (ofF us)) 26] (wpAny Tryd.prog .any ops2 Q2 9 #[true, true, true, true, true, true, true, true, true, true, true, true, true, false, false, false, false, false, false, false, false, false]) := by
      refine Sx.anyStep 13 [15, 16] (Sx.readyAt eo (by kernel_rfl)) ⟨?_, ?_, ?_, trivial⟩
      ·
        refine Sx.anyOp #[true, true, true, true, true, true, true, true, true, true, true, true, true, true, false, false, false, false, false, false, false, false] o13 rfl ?_
        refine Sx.guardT g11 rfl ?_
        refine Sx.callG Fx.call31 rfl (fun W s => bytes_nil (ofF us) hro.2.2.2 _ W s.agr [] rfl) rfl (fun v H1 hv1 up => ?_)
        obtain ⟨hn1, p1, c1, rfl, hc1, hcm1, hs1⟩ := hv1
        obtain ⟨b1, off1, arr1, t1, m1, rfl, hb1, ha1⟩ := hs1.resolve_left (by simp [bytesL])
        exact Sx.reSl (d1111111100000000 H1 b1 off1 c1 arr1 t1 m1 hb1 ha1 up) ⟨rfl, rfl, rfl, rfl, rfl, rfl, rfl, rfl, rfl, rfl, rfl, rfl, trivial⟩
      ·
        refine Sx.anyOp #[true, true, true, true, true, true, true, true, true, true, true, true, true, false, false, true, false, false, false, false, false, false] o15 rfl ?_
        refine Sx.guardT g11 rfl ?_
        refine Sx.yl (.move rfl) rfl ?_
        exact Sx.reSl (d1111111001000000 ) ⟨rfl, rfl, rfl, rfl, rfl, rfl, rfl, rfl, rfl, rfl, rfl, rfl, trivial⟩
      ·
        refine Sx.anyOp #[true, true, true, true, true, true, true, true, true, true, true, true, true, false, false, false, true, false, false, false, false, false] o16 rfl ?_
        refine Sx.guardT g11 rfl ?_
        refine Sx.yl (.move rfl) rfl ?_
        exact Sx.reSl (d1111111000100000 ) ⟨rfl, rfl, rfl, rfl, rfl, rfl, rfl, rfl, rfl, rfl, rfl, rfl, trivial⟩
    have d1111110001000000 : Sx.At 55 [(0, .slice (some ⟨b, off, none⟩) 200 c), (3, .pointer (some ⟨b3, 0, none⟩)), (4, .int .i64 (m : Nat)), (39, .bool true), (40, .int .i64 (m : Nat)), (41, .slice (some ⟨b, off, none⟩) 200 c), (42, .int .i64 ((200 : Nat) : Int)), (43, .bool true), (44, .bool true), (45, .bool true), (49, .slice (some ⟨b, off, none⟩) 200 c)] H w [.box b3 (ckL (ofF us)) 26] (wpAny Tryd.prog .any ops2 Q2 9 #[true, true, true, true, true, true, true, true, true, true, true, true, false, false, false, true, false, false, false, false, false, false]) := by
      refine Sx.anyStep 12 [16] (Sx.readyAt eo (by kernel_rfl)) ⟨?_, ?_, trivial⟩
      ·
        refine Sx.anyOp #[true, true, true, true, true, true, true, true, true, true, true, true, true, false, false, true, false, false, false, false, false, false] o12 rfl ?_
        refine Sx.guardT g11 rfl ?_
        refine Sx.yl (.loadW rfl Fx.agg26 (.head _) (ck_length _)) rfl ?_
        exact Sx.reSl (d1111111001000000 ) ⟨rfl, rfl, rfl, rfl, rfl, rfl, rfl, rfl, rfl, rfl, rfl, rfl, trivial⟩
      ·
        refine Sx.anyOp #[true, true, true, true, true, true, true, true, true, true, true, true, false, false, false, true, true, false, false, false, false, false] o16 rfl ?_
        refine Sx.guardT g11 rfl ?_
        refine Sx.yl (.move rfl) rfl ?_
        exact Sx.reSl (d1111110001100000 ) ⟨rfl, rfl, rfl, rfl, rfl, rfl, rfl, rfl, rfl, rfl, rfl, rfl, trivial⟩
    have d1111110000100000 : Sx.At 55 [(0, .slice (some ⟨b, off, none⟩) 200 c), (3, .pointer (some ⟨b3, 0, none⟩)), (4, .int .i64 (m : Nat)), (39, .bool true), (40, .int .i64 (m : Nat)), (41, .slice (some ⟨b, off, none⟩) 200 c), (42, .int .i64 ((200 : Nat) : Int)), (43, .bool true), (44, .bool true), (45, .bool true), (50, .int .i64 (m : Nat))] H w [.box b3 (ckL (ofF us)) 26] (wpAny Tryd.prog .any ops2 Q2 9 #[true, true, true, true, true, true, true, true, true, true, true, true, false, false, false, false, true, false, false, false, false, false]) := by
      refine Sx.anyStep 12 [15] (Sx.readyAt eo (by kernel_rfl)) ⟨?_, ?_, trivial⟩
      ·
        refine Sx.anyOp #[true, true, true, true, true, true, true, true, true, true, true, true, true, false, false, false, true, false, false, false, false, false] o12 rfl ?_
        refine Sx.guardT g11 rfl ?_
        refine Sx.yl (.loadW rfl Fx.agg26 (.head _) (ck_length _)) rfl ?_
        exact Sx.reSl (d1111111000100000 ) ⟨rfl, rfl, rfl, rfl, rfl, rfl, rfl, rfl, rfl, rfl, rfl, rfl, trivial⟩
      ·
        refine Sx.anyOp #[true, true, true, true, true, true, true, true, true, true, true, true, false, false, false, true, true, false, false, false, false, false] o15 rfl ?_
        refine Sx.guardT g11 rfl ?_
        refine Sx.yl (.move rfl) rfl ?_
        exact Sx.reSl (d1111110001100000 ) ⟨rfl, rfl, rfl, rfl, rfl, rfl, rfl, rfl, rfl, rfl, rfl, rfl, trivial⟩
    have d1111110000000000 : Sx.At 55 [(0, .slice (some ⟨b, off, none⟩) 200 c), (3, .pointer (some ⟨b3, 0, none⟩)), (4, .int .i64 (m : Nat)), (39, .bool true), (40, .int .i64 (m : Nat)), (41, .slice (some ⟨b, off, none⟩) 200 c), (42, .int .i64 ((200 : Nat) : Int)), (43, .bool true), (44, .bool true), (45, .bool true)] H w [.box b3 (ckL (ofF us)) 26] (wpAny Tryd.prog .any ops2 Q2 10 #[true, true, true, true, true, true, true, true, true, true, true, true, false, false, false, false, false, false, false, false, false, false]) := by
      refine Sx.anyStep 12 [15, 16] (Sx.readyAt eo (by kernel_rfl)) ⟨?_, ?_, ?_, trivial⟩
      ·
        refine Sx.anyOp #[true, true, true, true, true, true, true, true, true, true, true, true, true, false, false, false, false, false, false, false, false, false] o12 rfl ?_
        refine Sx.guardT g11 rfl ?_
        refine Sx.yl (.loadW rfl Fx.agg26 (.head _) (ck_length _)) rfl ?_
        exact Sx.reSl (d1111111000000000 ) ⟨rfl, rfl, rfl, rfl, rfl, rfl, rfl, rfl, rfl, rfl, rfl, trivial⟩
      ·
        refine Sx.anyOp #[true, true, true, true, true, true, true, true, true, true, true, true, false, false, false, true, false, false, false, false, false, false] o15 rfl ?_
        refine Sx.guardT g11 rfl ?_
        refine Sx.yl (.move rfl) rfl ?_
        exact Sx.reSl (d1111110001000000 ) ⟨rfl, rfl, rfl, rfl, rfl, rfl, rfl, rfl, rfl, rfl, rfl, trivial⟩
      ·
        refine Sx.anyOp #[true, true, true, true, true, true, true, true, true, true, true, true, false, false, false, false, true, false, false, false, false, false] o16 rfl ?_
        refine Sx.guardT g11 rfl ?_
        refine Sx.yl (.move rfl) rfl ?_
        exact Sx.reSl (d1111110000100000 ) ⟨rfl, rfl, rfl, rfl, rfl, rfl, rfl, rfl, rfl, rfl, rfl, trivial⟩
    have d1111100000000000 : Sx.At 55 [(0, .slice (some ⟨b, off, none⟩) 200 c), (3, .pointer (some ⟨b3, 0, none⟩)), (4, .int .i64 (m : Nat)), (39, .bool true), (40, .int .i64 (m : Nat)), (41, .slice (some ⟨b, off, none⟩) 200 c), (42, .int .i64 ((200 : Nat) : Int)), (43, .bool true), (44, .bool true)] H w [.box b3 (ckL (ofF us)) 26] (wpAny Tryd.prog .any ops2 Q2 11 #[true, true, true, true, true, true, true, true, true, true, true, false, false, false, false, false, false, false, false, false, false, false]) := by
      refine Sx.anyStep 11 [] (Sx.readyAt eo (by kernel_rfl)) ⟨?_, trivial⟩
      ·
        refine Sx.anyOp #[true, true, true, true, true, true, true, true, true, true, true, true, false, false, false, false, false, false, false, false, false, false] o11 rfl ?_
        refine Sx.yl (.move rfl) rfl ?_
        exact Sx.reSl (d1111110000000000 ) ⟨rfl, rfl, rfl, rfl, rfl, rfl, rfl, rfl, rfl, rfl, trivial⟩
    have d1111000000000000 : Sx.At 55 [(0, .slice (some ⟨b, off, none⟩) 200 c), (3, .pointer (some ⟨b3, 0, none⟩)), (4, .int .i64 (m : Nat)), (39, .bool true), (40, .int .i64 (m : Nat)), (41, .slice (some ⟨b, off, none⟩) 200 c), (42, .int .i64 ((200 : Nat) : Int)), (43, .bool true)] H w [.box b3 (ckL (ofF us)) 26] (wpAny Tryd.prog .any ops2 Q2 12 #[true, true, true, true, true, true, true, true, true, true, false, false, false, false, false, false, false, false, false, false, false, false]) := by
      refine Sx.anyStep 10 [] (Sx.readyAt eo (by kernel_rfl)) ⟨?_, trivial⟩
      ·
        refine Sx.anyOp #[true, true, true, true, true, true, true, true, true, true, true, false, false, false, false, false, false, false, false, false, false, false] o10 rfl ?_
        refine Sx.yl (.pickT rfl rfl) rfl ?_
        exact Sx.reSl (d1111100000000000 ) ⟨rfl, rfl, rfl, rfl, rfl, rfl, rfl, rfl, rfl, trivial⟩
    have d1110000000000000 : Sx.At 55 [(0, .slice (some ⟨b, off, none⟩) 200 c), (3, .pointer (some ⟨b3, 0, none⟩)), (4, .int .i64 (m : Nat)), (39, .bool true), (40, .int .i64 (m : Nat)), (41, .slice (some ⟨b, off, none⟩) 200 c), (42, .int .i64 ((200 : Nat) : Int))] H w [.box b3 (ckL (ofF us)) 26] (wpAny Tryd.prog .any ops2 Q2 13 #[true, true, true, true, true, true, true, true, true, false, false, false, false, false, false, false, false, false, false, false, false, false]) := by
      refine Sx.anyStep 9 [] (Sx.readyAt eo (by kernel_rfl)) ⟨?_, trivial⟩
      ·
        refine Sx.anyOp #[true, true, true, true, true, true, true, true, true, true, false, false, false, false, false, false, false, false, false, false, false, false] o9 rfl ?_
        refine Sx.guardT g5 rfl ?_
        refine Sx.yl (Yl.cast (.leq rfl rfl) (congrArg Value.bool (decide_eq_true (by omega)))) rfl ?_
        exact Sx.reSl (d1111000000000000 ) ⟨rfl, rfl, rfl, rfl, rfl, rfl, rfl, rfl, trivial⟩
    have d1100000000000000 : Sx.At 55 [(0, .slice (some ⟨b, off, none⟩) 200 c), (3, .pointer (some ⟨b3, 0, none⟩)), (4, .int .i64 (m : Nat)), (39, .bool true), (40, .int .i64 (m : Nat)), (41, .slice (some ⟨b, off, none⟩) 200 c)] H w [.box b3 (ckL (ofF us)) 26] (wpAny Tryd.prog .any ops2 Q2 14 #[true, true, true, true, true, true, true, true, false, false, false, false, false, false, false, false, false, false, false, false, false, false]) := by
      refine Sx.anyStep 8 [] (Sx.readyAt eo (by kernel_rfl)) ⟨?_, trivial⟩
      ·
        refine Sx.anyOp #[true, true, true, true, true, true, true, true, true, false, false, false, false, false, false, false, false, false, false, false, false, false] o8 rfl ?_
        refine Sx.guardT g5 rfl ?_
        refine Sx.yl (.lenSl Fx.sl62 rfl) rfl ?_
        exact Sx.reSl (d1110000000000000 ) ⟨rfl, rfl, rfl, rfl, rfl, rfl, rfl, trivial⟩
    have d0110000000000000 : Sx.At 55 [(0, .slice (some ⟨b, off, none⟩) 200 c), (3, .pointer (some ⟨b3, 0, none⟩)), (4, .int .i64 (m : Nat)), (39, .bool true), (41, .slice (some ⟨b, off, none⟩) 200 c), (42, .int .i64 ((200 : Nat) : Int))] H w [.box b3 (ckL (ofF us)) 26] (wpAny Tryd.prog .any ops2 Q2 14 #[true, true, true, true, true, true, false, true, true, false, false, false, false, false, false, false, false, false, false, false, false, false]) := by
      refine Sx.anyStep 6 [] (Sx.readyAt eo (by kernel_rfl)) ⟨?_, trivial⟩
      ·
        refine Sx.anyOp #[true, true, true, true, true, true, true, true, true, false, false, false, false, false, false, false, false, false, false, false, false, false] o6 rfl ?_
        refine Sx.guardT g5 rfl ?_
        refine Sx.yl (.move rfl) rfl ?_
        exact Sx.reSl (d1110000000000000 ) ⟨rfl, rfl, rfl, rfl, rfl, rfl, rfl, trivial⟩
    have d1000000000000000 : Sx.At 55 [(0, .slice (some ⟨b, off, none⟩) 200 c), (3, .pointer (some ⟨b3, 0, none⟩)), (4, .int .i64 (m : Nat)), (39, .bool true), (40, .int .i64 (m : Nat))] H w [.box b3 (ckL (ofF us)) 26] (wpAny Tryd.prog .any ops2 Q2 15 #[true, true, true, true, true, true, true, false, false, false, false, false, false, false, false, false, false, false, false, false, false, false]) := by
      refine Sx.anyStep 7 [] (Sx.readyAt eo (by kernel_rfl)) ⟨?_, trivial⟩
      ·
        refine Sx.anyOp #[true, true, true, true, true, true, true, true, false, false, false, false, false, false, false, false, false, false, false, false, false, false] o7 rfl ?_
        refine Sx.guardT g5 rfl ?_
        refine Sx.yl (.move rfl) rfl ?_
        exact Sx.reSl (d1100000000000000 ) ⟨rfl, rfl, rfl, rfl, rfl, rfl, trivial⟩
    have d0100000000000000 : Sx.At 55 [(0, .slice (some ⟨b, off, none⟩) 200 c), (3, .pointer (some ⟨b3, 0, none⟩)), (4, .int .i64 (m : Nat)), (39, .bool true), (41, .slice (some ⟨b, off, none⟩) 200 c)] H w [.box b3 (ckL (ofF us)) 26] (wpAny Tryd.prog .any ops2 Q2 15 #[true, true, true, true, true, true, false, true, false, false, false, false, false, false, false, false, false, false, false, false, false, false]) := by
      refine Sx.anyStep 6 [8] (Sx.readyAt eo (by kernel_rfl)) ⟨?_, ?_, trivial⟩
      ·
        refine Sx.anyOp #[true, true, true, true, true, true, true, true, false, false, false, false, false, false, false, false, false, false, false, false, false, false] o6 rfl ?_
        refine Sx.guardT g5 rfl ?_
        refine Sx.yl (.move rfl) rfl ?_
        exact Sx.reSl (d1100000000000000 ) ⟨rfl, rfl, rfl, rfl, rfl, rfl, trivial⟩
      ·
        refine Sx.anyOp #[true, true, true, true, true, true, false, true, true, false, false, false, false, false, false, false, false, false, false, false, false, false] o8 rfl ?_
        refine Sx.guardT g5 rfl ?_
        refine Sx.yl (.lenSl Fx.sl62 rfl) rfl ?_
        exact Sx.reSl (d0110000000000000 ) ⟨rfl, rfl, rfl, rfl, rfl, rfl, trivial⟩
    have d0000000000000000 : Sx.At 55 [(0, .slice (some ⟨b, off, none⟩) 200 c), (3, .pointer (some ⟨b3, 0, none⟩)), (4, .int .i64 (m : Nat)), (39, .bool true)] H w [.box b3 (ckL (ofF us)) 26] (wpAny Tryd.prog .any ops2 Q2 16 #[true, true, true, true, true, true, false, false, false, false, false, false, false, false, false, false, false, false, false, false, false, false]) := by
      refine Sx.anyStep 6 [7] (Sx.readyAt eo (by kernel_rfl)) ⟨?_, ?_, trivial⟩
      ·
        refine Sx.anyOp #[true, true, true, true, true, true, true, false, false, false, false, false, false, false, false, false, false, false, false, false, false, false] o6 rfl ?_
        refine Sx.guardT g5 rfl ?_
        refine Sx.yl (.move rfl) rfl ?_
        exact Sx.reSl (d1000000000000000 ) ⟨rfl, rfl, rfl, rfl, rfl, trivial⟩
      ·
        refine Sx.anyOp #[true, true, true, true, true, true, false, true, false, false, false, false, false, false, false, false, false, false, false, false, false, false] o7 rfl ?_
        refine Sx.guardT g5 rfl ?_
        refine Sx.yl (.move rfl) rfl ?_
        exact Sx.reSl (d0100000000000000 ) ⟨rfl, rfl, rfl, rfl, rfl, trivial⟩
    exact Sx.reSl d0000000000000000 ⟨rfl, rfl, rfl, rfl, trivial⟩
  · exact absurd h8 (by simp; omega)
set_option maxHeartbeats 4000000 in
set_option maxRecDepth 100000 in
theorem reads_long_no (H : Hp) (v0 : Value) (n : Nat) (l : List UInt8) (hv : SlAt H v0 n (l.map byteV)) (hl : 200 < n) (hr : readO (l.take 200) = none) (w : World) (hA : Agr H w) (G : Globs w) :
    Calls Tryd.prog 11 #[v0] w fun e w' => e = .returned (.bool true) ∧ Ext w w' := by
  have hv0 := hv
  obtain ⟨hn, p, c, rfl, hc, hcm, hs⟩ := hv0
  rw [List.length_map] at hn
  have hsp : ∀ q, p = some q → q.spot = none := by
    rcases hs with hs | ⟨b, off, arr, t, m, rfl, hb, ha⟩
    · have := congrArg List.length hs
      rw [List.length_map, List.length_nil] at this
      omega
    · intro q e; rw [← Option.some.inj e]
  refine Sx.enter (H := H) Tryd.func11 rfl Tryd.ntmps11 rfl hA ?_
  refine Sx.seq ?_
  refine Sx.region ?_
  refine Sx.cons ?_
  refine Sx.yl (.assign rfl) rfl ?_
  refine Sx.nil ?_
  refine Sx.thenN ?_
  refine Sx.seq ?_
  refine Sx.seq ?_
  refine Sx.region ?_
  refine Sx.cons ?_
  refine Sx.yl (.move rfl) rfl ?_
  refine Sx.cons ?_
  refine Sx.yl (.lenSl Fx.sl62 rfl) rfl ?_
  refine Sx.cons ?_
  refine Sx.yl (.gtr rfl rfl) rfl ?_
  refine Sx.nil ?_
  refine Sx.thenN ?_
  refine Sx.cond rfl (fun h8 => ?_) (fun h8 => ?_)
  · try simp only [decide_eq_true_eq] at h8
    refine Sx.region ?_
    refine Sx.cons ?_
    refine Sx.yl (.move rfl) rfl ?_
    refine Sx.cons ?_
    refine Sx.yl (.cutHi Fx.sl62 rfl rfl rfl (h := 200) (by omega) hsp) rfl ?_
    refine Sx.cons ?_
    refine Sx.yl (.assign rfl) rfl ?_
    refine Sx.nil ?_
    refine Sx.thenN ?_
    refine Sx.seq ?_
    refine Sx.region ?_
    refine Sx.cons ?_
    refine Sx.yl (.move rfl) rfl ?_
    refine Sx.cons ?_
    refine Sx.yl (.call Fx.call30 rfl (fun W s => read_none hr H _ _ (slb_take hv (by omega)) W s.agr)) rfl ?_
    refine Sx.cons ?_
    refine Sx.yl (.move rfl) rfl ?_
    refine Sx.cons ?_
    refine Sx.yl (.extract rfl rfl) rfl ?_
    refine Sx.cons ?_
    refine Sx.yl (.extract rfl rfl) rfl ?_
    refine Sx.cons ?_
    refine Sx.yl (.extract rfl rfl) rfl ?_
    refine Sx.cons ?_
    refine Sx.alloc Fx.zero26 rfl (fun b3 => ?_)
    refine Sx.cons ?_
    refine Sx.storeW rfl rfl Fx.size26 (ckL_one _) (.head) rfl ?_
    refine Sx.cons ?_
    refine Sx.yl (.assign rfl) rfl ?_
    refine Sx.cons ?_
    refine Sx.yl (.assign rfl) rfl ?_
    refine Sx.nil ?_
    refine Sx.thenN ?_
    refine Sx.seq ?_
    refine Sx.seq ?_
    refine Sx.region ?_
    refine Sx.cons ?_
    refine Sx.yl (.move rfl) rfl ?_
    refine Sx.cons ?_
    refine Sx.yl (.neq rfl rfl) rfl ?_
    refine Sx.nil ?_
    refine Sx.thenN ?_
    refine Sx.condT rfl ?_
    refine Sx.seq ?_
    refine Sx.region ?_
    refine Sx.cons ?_
    refine Sx.yl (.call Fx.call15 rfl (fun W s => awake_any W (G.ext s.ext))) rfl ?_
    refine Sx.cons ?_
    refine Sx.yl (.move rfl) rfl ?_
    refine Sx.cons ?_
    refine Sx.guardT rfl rfl ?_
    refine Sx.yl (.move rfl) rfl ?_
    refine Sx.cons ?_
    refine Sx.guardT rfl rfl ?_
    refine Sx.yl (.eql rfl rfl) rfl ?_
    refine Sx.cons ?_
    refine Sx.yl (.pickT rfl rfl) rfl ?_
    refine Sx.cons ?_
    refine Sx.yl (.move rfl) rfl ?_
    refine Sx.cons ?_
    refine Sx.guardT rfl rfl ?_
    refine Sx.yl (.move rfl) rfl ?_
    refine Sx.cons ?_
    refine Sx.guardT rfl rfl ?_
    refine Sx.yl (.eql rfl rfl) rfl ?_
    refine Sx.cons ?_
    refine Sx.yl (.pickT rfl rfl) rfl ?_
    refine Sx.cons ?_
    refine Sx.yl (.move rfl) rfl ?_
    refine Sx.cons ?_
    refine Sx.guardT rfl rfl ?_
    refine Sx.yl (.loadW rfl Fx.agg26 (.head _) (ck_length _)) rfl ?_
    refine Sx.cons ?_
    refine Sx.guardT rfl rfl ?_
    refine Sx.callG Fx.call22 rfl (fun W s => entries_any zeroF _ W s.agr) rfl (fun v H1 hv1 up => ?_)
    obtain ⟨hn1, p1, c1, rfl, hc1, hcm1, hs1⟩ := hv1
    refine Sx.cons ?_
    refine Sx.guardT rfl rfl ?_
    refine Sx.yl (.lenSl Fx.sl22 rfl) rfl ?_
    refine Sx.cons ?_
    refine Sx.guardT rfl rfl ?_
    refine Sx.yl (.eql rfl rfl) rfl ?_
    refine Sx.cons ?_
    refine Sx.yl (.pickT rfl rfl) rfl ?_
    refine Sx.cons ?_
    refine Sx.yl (.assign rfl) rfl ?_
    refine Sx.nil ?_
    refine Sx.thenN ?_
    refine Sx.ret ?_
    refine Sx.thenR ?_
    refine Sx.ret1 (.inl rfl) rfl (.tmp rfl) (fun W s => ⟨?_, s.ext⟩)
    rw [ent_zero]; rfl
  · exact absurd h8 (by simp; omega)
theorem reads_any (H : Hp) (v0 : Value) (n : Nat) (l : List UInt8) (hv : SlAt H v0 n (l.map byteV)) (w : World) (hA : Agr H w) (G : Globs w) : Calls Tryd.prog 11 #[v0] w fun e w' => e = .returned (.bool true) ∧ Ext w w' := by
  by_cases hl : n ≤ 200
  · rcases hr : readO l with _ | ⟨us, m⟩
    · exact reads_short_no H v0 n l hv hl hr w hA G
    · exact reads_short_ok H v0 n l hv hl us m hr w hA G
  · rcases hr : readO (l.take 200) with _ | ⟨us, m⟩
    · exact reads_long_no H v0 n l hv (by omega) hr w hA G
    · exact reads_long_ok H v0 n l hv (by omega) us m hr w hA G
end Go.Proofs.YtnmickfdflinpaaDoor
