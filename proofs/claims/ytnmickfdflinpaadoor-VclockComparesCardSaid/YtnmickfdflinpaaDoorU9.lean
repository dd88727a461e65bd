/- Contract of Parse. -/
import Derived.Test.YtnmickfdflinpaaDoorF8
namespace Go.Proofs.YtnmickfdflinpaaDoor
open Go.RowKit Go.Par Go.Sx
theorem extract_str (l : List UInt8) (a b : Nat) : (⟨l.toArray⟩ : ByteArray).extract a b = ⟨((l.take b).drop a).toArray⟩ := by
  apply ByteArray.ext
  apply Array.toList_inj.1
  rw [Lib.extract_data]
  simp [List.drop_take]
theorem pu_ok (l : List UInt8) (hl : l.length ≤ 1000000) (u : Nat) (h : Lib.parseUintB 64 l = .ok u) (w : World) :
    Calls Tryd.prog 38 #[strV l, .int .i64 10, .int .i64 64] w fun e w' => e = .returned (.tuple #[.int .u64 u, .nilIface]) ∧ Ext w w' :=
  (Tryd.strconv_ParseUint_10_at64_ok ⟨l.toArray⟩ (by rw [str_size]; omega) u (by simpa using h) w).mono fun _ _ ⟨a, b⟩ => ⟨a, by
    rcases b with b | b
    · exact same_ext b
    · rw [b]; exact Ext.of_below (Lib.bytesWorld_below w 5 _)⟩
theorem pu_bad (l : List UInt8) (hl : l.length ≤ 1000000) (h : ∀ u, Lib.parseUintB 64 l ≠ .ok u) (H : Hp) (w : World) (hA : Agr H w) (G : Globs w) :
    Calls Tryd.prog 38 #[strV l, .int .i64 10, .int .i64 64] w fun e w' => ∃ (x : Int × Nat) (H' : Hp), H' = H ∧ e = .returned (.tuple #[.int .u64 x.1, .iface 106 (.pointer (some ⟨x.2, 0, none⟩))]) ∧ Grow H w H' w' := by
  cases hp : Lib.parseUintB 64 l with
  | ok u => exact absurd hp (h u)
  | range =>
    obtain ⟨tp, p, hv⟩ := G.errR
    exact (Tryd.strconv_ParseUint_10_at64_range_var ⟨l.toArray⟩ (by rw [str_size]; omega) (by simpa using hp) tp p w hv).mono fun _ _ ⟨N, a, _, _, b⟩ => ⟨(18446744073709551615, N), H, rfl, a, .pure hA (Ext.of_below b)⟩
  | _ =>
    obtain ⟨tp, p, hv⟩ := G.errS
    exact (Tryd.strconv_ParseUint_10_at64_syntax_var ⟨l.toArray⟩ (by rw [str_size]; omega) (by simpa using hp) tp p w hv).mono fun _ _ ⟨N, a, _, _, b⟩ => ⟨(0, N), H, rfl, a, .pure hA (Ext.of_below b)⟩
/-- The words between the brackets. -/
def inner (l : List UInt8) : List UInt8 := (l.take (l.length - 1)).drop 1
def wordsL (m : List UInt8) : List (List UInt8) := Lib.splitK [44] 0 (Lib.count m [44]) m
def okW (m : List UInt8) : Prop := ∃ u, Lib.parseUintB 64 m = .ok u
def valW (m : List UInt8) : Int := match Lib.parseUintB 64 m with | .ok u => (u : Int) | _ => 0
theorem valW_ok {m : List UInt8} {u : Nat} (h : Lib.parseUintB 64 m = .ok u) : valW m = u := by simp [valW, h]
def fits (l : List UInt8) : Prop := 2 < l.length ∧ Lib.count l [44] < 16
open Classical in
noncomputable def parseX (l : List UInt8) : List Int := if fits l then (wordsL (inner l)).map valW else []
def good (l : List UInt8) : Prop := (fits l → ∀ m ∈ wordsL (inner l), okW m) ∧ textL (ofF (parseX l)) = l
open Classical in
noncomputable def parseV (l : List UInt8) : Value := if good l then .tuple #[ck (ofF (parseX l)), .int .i64 0] else .tuple #[ck (fun _ => 0), .int .i64 6]
theorem count_any (l : List UInt8) (hl : l.length ≤ 1000000) (w : World) (G : Globs w) : Calls Tryd.prog 36 #[strV l, strV [44]] w fun e w' => e = .returned (.int .i64 (Lib.count l [44])) ∧ Ext w w' := by
  obtain ⟨m, hm⟩ := G.most
  exact (Tryd.strings_Count_any ⟨l.toArray⟩ ⟨[44].toArray⟩ m w (by rw [str_size]; omega) hm (by decide)).mono fun _ _ ⟨a, b⟩ => ⟨by rw [a], same_ext b⟩
theorem words_cells (m : List UInt8) : ((Lib.splitB ⟨[44].toArray⟩ 0 (Lib.countB ⟨m.toArray⟩ ⟨[44].toArray⟩) ⟨m.toArray⟩).map Value.string) = (wordsL m).map strV := by
  have h := Lib.splitB_data ⟨[44].toArray⟩ 0 (Lib.countB ⟨m.toArray⟩ ⟨[44].toArray⟩) ⟨m.toArray⟩
  have e : wordsL m = (Lib.splitB ⟨[44].toArray⟩ 0 (Lib.countB ⟨m.toArray⟩ ⟨[44].toArray⟩) ⟨m.toArray⟩).map (·.data.toList) := by
    rw [h]; rfl
  rw [e, List.map_map]
  apply List.map_congr_left
  intro b _
  cases b
  simp [strV]
theorem words_length (m : List UInt8) : (wordsL m).length = Lib.count m [44] + 1 := by
  have h := Lib.splitB_data ⟨[44].toArray⟩ 0 (Lib.countB ⟨m.toArray⟩ ⟨[44].toArray⟩) ⟨m.toArray⟩
  have h2 := Lib.splitB_all ⟨[44].toArray⟩ (by decide) 0 (Lib.countB ⟨m.toArray⟩ ⟨[44].toArray⟩) ⟨m.toArray⟩ rfl
  have e : wordsL m = (Lib.splitB ⟨[44].toArray⟩ 0 (Lib.countB ⟨m.toArray⟩ ⟨[44].toArray⟩) ⟨m.toArray⟩).map (·.data.toList) := by rw [h]; rfl
  rw [e, List.length_map, h2]
theorem split_st {H : Hp} {w0 W : World} {bs : List Res} (m : List UInt8) (hl : m.length ≤ 1000000) (s : St H w0 bs W) (G : Globs W) :
    Calls Tryd.prog 37 #[strV m, strV [44]] W fun e W' => ∃ b : Nat, True ∧ e = .returned (.slice (some ⟨b, 0, none⟩) (wordsL m).length (wordsL m).length) ∧ St H w0 (.box b ((wordsL m).map strV) 9 :: bs) W' := by
  obtain ⟨q, hq⟩ := G.most
  refine (Tryd.strings_Split ⟨m.toArray⟩ ⟨[44].toArray⟩ q W (by rw [str_size]; omega) hq (by decide)).mono ?_
  rintro e W' ⟨rfl, rfl⟩
  refine ⟨W.heap.size, trivial, ?_, ?_⟩
  · rw [words_length]
  · rw [words_cells]; exact s.alloc _ 9
theorem inner_len (l : List UInt8) : (inner l).length ≤ l.length := by simp [inner]; omega
theorem inner_count (l : List UInt8) : Lib.count (inner l) [44] ≤ Lib.count l [44] := by
  rw [Lib.count_one, Lib.count_one]
  exact List.Sublist.count_le _ ((List.drop_sublist _ _).trans (List.take_sublist _ _))
theorem splitK_len (k : Nat) : ∀ (m : List UInt8), ∀ x ∈ Lib.splitK [44] 0 k m, x.length ≤ m.length := by
  induction k with
  | zero => intro m x hx; simp [Lib.splitK] at hx; rw [hx]; exact Nat.le_refl _
  | succ k ih =>
    intro m x hx
    unfold Lib.splitK at hx
    split at hx
    · simp at hx; rw [hx]; exact Nat.le_refl _
    · rcases List.mem_cons.1 hx with rfl | hx
      · simp; omega
      · have := ih _ x hx
        simp at this; omega
theorem neqNil {L : Sl} {H : Hp} {w0 : World} {bs : List Res} {d : Option Tmp} {ty : TypeId} {pos : String} {aft : Array Edge} {g : Option (Nat × Bool)} {p : Operand} {T' : TypeId} (hp : ev L p = some .nilIface) :
    Yl Tryd.prog L H w0 bs ⟨d, .binOp .neq 76 p (.const .nilIface) T', ty, pos, aft, g⟩ (.bool false) := .of_run fun c W f _ => by
  unfold execOp
  have h : (binOp .neq 76 .nilIface .nilIface).run Tryd.prog W = .ok (.bool false) W := by simp [go_sem]
  have hc : c.eval (.const .nilIface) = .nilIface := rfl
  simp only [f p _ hp, hc, eqGuard_nil_constR, Sem.run_bind, Sem.run_pure, Result.andThen, h]
theorem neqSome {L : Sl} {H : Hp} {w0 : World} {bs : List Res} {d : Option Tmp} {ty : TypeId} {pos : String} {aft : Array Edge} {g : Option (Nat × Bool)} {p : Operand} {T' q : TypeId} {z : Value} (hp : ev L p = some (.iface q z)) :
    Yl Tryd.prog L H w0 bs ⟨d, .binOp .neq 76 p (.const .nilIface) T', ty, pos, aft, g⟩ (.bool true) := .of_run fun c W f _ => by
  unfold execOp
  have h : (binOp .neq 76 (.iface q z) .nilIface).run Tryd.prog W = .ok (.bool true) W := by simp [go_sem]
  have h2 : (eqGuard .neq 76 p (.const .nilIface) (.iface q z) .nilIface).run Tryd.prog W = .ok () W := by simp [eqGuard]
  have hc : c.eval (.const .nilIface) = .nilIface := rfl
  simp only [f p _ hp, hc, h2, Sem.run_bind, Sem.run_pure, Result.andThen, h]
theorem zero_u : U64 (fun _ => 0) := fun _ => ⟨Int.le_refl _, by show (0 : Int) < _; decide⟩
theorem pm_le (M : Nat) : ∀ (l : List UInt8) (acc u : Nat), acc ≤ M → Lib.parseUintM M acc l = .ok u → u ≤ M
  | [], acc, u, h, e => by simp only [Lib.parseUintM] at e; injection e with e; omega
  | c :: r, acc, u, h, e => by
    unfold Lib.parseUintM at e
    split at e
    · split at e
      · cases e
      · split at e
        · cases e
        · exact pm_le M r _ u (by omega) e
    · cases e
theorem valW_rng (m : List UInt8) : 0 ≤ valW m ∧ valW m < 18446744073709551616 := by
  unfold valW
  cases e : Lib.parseUintB 64 m with
  | ok u =>
    unfold Lib.parseUintB at e
    split at e
    · cases e
    · have := pm_le _ m 0 u (by omega) e
      simp only; omega
  | _ => simp
theorem rng_of {xs : List Int} (h : ∀ a ∈ xs, 0 ≤ a ∧ a < 18446744073709551616) (k : Nat) : 0 ≤ xs.getD k 0 ∧ xs.getD k 0 < 18446744073709551616 := by
  rw [List.getD]
  cases e : xs[k]? with
  | none => simp
  | some a => exact h a (List.mem_of_getElem? e)
theorem pre_rng {xs : List Int} (h : ∀ a ∈ xs, 0 ≤ a ∧ a < 18446744073709551616) (k : Nat) : U64 (preF xs k) := fun i => by
  unfold preF
  split
  · exact rng_of h i
  · decide
theorem of_rng {xs : List Int} (h : ∀ a ∈ xs, 0 ≤ a ∧ a < 18446744073709551616) : U64 (ofF xs) := fun i => rng_of h i
theorem preA {l : List UInt8} {xs : List Int} {k : Nat} (hxs : (wordsL (inner l)).map valW = xs) (hx : parseX l = (wordsL (inner l)).map valW) (hk : (wordsL (inner l)).length ≤ k) : preF xs k = ofF (parseX l) := by
  rw [hx, hxs]
  have hl : xs.length ≤ k := by rw [← hxs, List.length_map]; exact hk
  funext i
  unfold preF ofF
  by_cases h2 : i < k
  · rw [if_pos h2]
  · rw [if_neg h2]; simp [List.getD, List.getElem?_eq_none (show xs.length ≤ i by omega)]
theorem preB {l : List UInt8} (h : ¬ fits l) : (fun _ => 0) = ofF (parseX l) := by
  funext i
  unfold parseX
  rw [if_neg h]
  simp [ofF]
theorem words_ok {ws : List (List UInt8)} {k : Nat} (h : ∀ j (h : j < ws.length), j < k → okW ws[j]) (hk : ws.length ≤ k) : ∀ m ∈ ws, okW m := by
  intro m hm
  obtain ⟨j, hj, rfl⟩ := List.mem_iff_getElem.1 hm
  exact h j hj (by omega)
theorem parse_no {l : List UInt8} (h : ¬ good l) : Ending.returned (.tuple [.agg (ckL fun _ => 0).toArray, .int .i64 6].toArray) = .returned (parseV l) := by
  unfold parseV
  rw [if_neg h]
  rfl
theorem parse_no2 {l : List UInt8} {Y : Nat → Int} (hY : Y = ofF (parseX l)) (h : decide (¬ (⟨(textL Y).toArray⟩ : ByteArray) = ⟨l.toArray⟩) = true) : Ending.returned (.tuple [.agg (ckL fun _ => 0).toArray, .int .i64 6].toArray) = .returned (parseV l) :=
  parse_no fun g => by
    rw [decide_eq_true_eq] at h
    exact h (by rw [hY, g.2])
theorem parse_yes {l : List UInt8} {Y : Nat → Int} (hY : Y = ofF (parseX l)) (hw : fits l → ∀ m ∈ wordsL (inner l), okW m) (h : decide (¬ (⟨(textL Y).toArray⟩ : ByteArray) = ⟨l.toArray⟩) = false) : Ending.returned (.tuple [.agg (ckL Y).toArray, .int .i64 0].toArray) = .returned (parseV l) := by
  rw [decide_eq_false_iff_not, Classical.not_not, str_inj] at h
  unfold parseV
  rw [if_pos ⟨hw, by rw [← hY]; exact h⟩, hY]
  rfl
set_option maxRecDepth 100000 in
theorem parse_any (l : List UInt8) (hl : l.length ≤ 1000000) (w : World) (G : Globs w) :
    Calls Tryd.prog 21 #[strV l] w fun e w' => e = .returned (parseV l) ∧ Ext w w' := by
  obtain ⟨xs, hxs⟩ : ∃ xs, (wordsL (inner l)).map valW = xs := ⟨_, rfl⟩
  have hUp : ∀ k, U64 (preF xs k) := pre_rng (by rw [← hxs]; intro a ha; obtain ⟨m, _, rfl⟩ := List.mem_map.1 ha; exact valW_rng m)
  have hin := inner_len l
  have hic := inner_count l
  refine Sx.enter (H := (fun _ => none)) Tryd.func21 rfl Tryd.ntmps21 rfl (fun _ _ e => by cases e) ?_
  refine Sx.seq ?_
  refine Sx.region ?_
  refine Sx.cons ?_
  refine Sx.alloc Fx.zero26 rfl (fun b2 => ?_)
  refine Sx.cons ?_
  refine Sx.yl (.assign rfl) rfl ?_
  refine Sx.nil ?_
  refine Sx.thenN ?_
  refine Sx.seq ?_
  refine Sx.region ?_
  refine Sx.cons ?_
  refine Sx.alloc Fx.zero26 rfl (fun b4 => ?_)
  refine Sx.nil ?_
  refine Sx.thenN ?_
  refine Sx.seq ?_
  refine Sx.seq ?_
  refine Sx.region ?_
  refine Sx.cons ?_
  refine Sx.yl (.move rfl) rfl ?_
  refine Sx.cons ?_
  refine Sx.yl (.lenStr Fx.str9 rfl) rfl ?_
  refine Sx.cons ?_
  refine Sx.yl (.gtr rfl rfl) rfl ?_
  refine Sx.cons ?_
  refine Sx.yl (.move rfl) rfl ?_
  refine Sx.bool (fun h12 => ?_) (fun h12 => ?_)
  · simp only [decide_eq_true_eq, str_size] at h12
    refine Sx.cons ?_
    refine Sx.guardT rfl rfl ?_
    refine Sx.yl (.move rfl) rfl ?_
    refine Sx.cons ?_
    refine Sx.guardT rfl rfl ?_
    refine Sx.yl (.call Fx.call36 rfl (fun W s => count_any l (by omega) W (G.ext s.ext))) rfl ?_
    refine Sx.cons ?_
    refine Sx.guardT rfl rfl ?_
    refine Sx.yl (.lss rfl rfl) rfl ?_
    refine Sx.cons ?_
    refine Sx.yl (.pickT rfl rfl) rfl ?_
    refine Sx.nil ?_
    refine Sx.thenN ?_
    refine Sx.cond rfl (fun h16 => ?_) (fun h16 => ?_)
    · simp only [decide_eq_true_eq] at h16
      have hf : fits l := ⟨by omega, by omega⟩
      have hw := words_length (inner l)
      have hx : parseX l = (wordsL (inner l)).map valW := if_pos hf
      refine Sx.seq ?_
      refine Sx.region ?_
      refine Sx.cons ?_
      refine Sx.yl (.move rfl) rfl ?_
      refine Sx.cons ?_
      refine Sx.yl (.move rfl) rfl ?_
      refine Sx.cons ?_
      refine Sx.yl (.lenStr Fx.str9 rfl) rfl ?_
      refine Sx.cons ?_
      refine Sx.yl (.sub rfl rfl (c := ((l.length - 1 : Nat) : Int)) (by rw [str_size]; rw [show ((l.length : Nat) : Int) - 1 = ((l.length - 1 : Nat) : Int) by omega]; exact w64 (by omega) (by omega))) rfl ?_
      refine Sx.cons ?_
      refine Sx.yl (.cutStr Fx.str9 rfl rfl rfl (lo := 1) (hi := l.length - 1) rfl rfl (by omega) (by rw [str_size]; omega)) rfl ?_
      rw [extract_str]
      refine Sx.cons ?_
      refine Sx.callS Fx.call37 rfl (fun W s => split_st (inner l) (by omega) s (G.ext s.ext)) rfl (fun b22 _ => ?_)
      refine Sx.cons ?_
      refine Sx.yl (.lenSl Fx.sl69 rfl) rfl ?_
      refine Sx.cons ?_
      refine Sx.yl (.move rfl) rfl ?_
      refine Sx.nil ?_
      refine Sx.thenN ?_
      refine Sx.blk ?_
      -- live at the head, not kept: [3]
      refine Sx.loop (X := Nat) (fun k => [(2, .pointer (some ⟨b2, 0, none⟩)), (4, .pointer (some ⟨b4, 0, none⟩)), (0, strV l), (22, .slice (some ⟨b22, 0, none⟩) (wordsL (inner l)).length (wordsL (inner l)).length), (23, .int .i64 (wordsL (inner l)).length), (24, .int .i64 k)]) (fun k => fun _ => none) (fun k => [.box b22 ((wordsL (inner l)).map strV) 9, .box b4 (ckL (preF xs k)) 26, .box b2 (ckL fun _ => 0) 26]) (fun k => k ≤ (wordsL (inner l)).length ∧ ∀ j (h : j < (wordsL (inner l)).length), j < k → okW (wordsL (inner l))[j]) (fun k => (wordsL (inner l)).length - k) 0 ⟨by omega, fun j _ h => absurd h (by omega)⟩ ⟨rfl, rfl, rfl, rfl, rfl, rfl, trivial⟩ (fun W s => by rw [pre_zero]; exact s) ?_
      intro k hC
      refine Sx.seq ?_
      refine Sx.region ?_
      refine Sx.cons ?_
      refine Sx.yl (.lss rfl rfl) rfl ?_
      refine Sx.nil ?_
      refine Sx.thenN ?_
      refine Sx.seq ?_
      refine Sx.cond rfl (fun h25 => ?_) (fun h25 => ?_)
      · try simp only [decide_eq_true_eq] at h25
        refine Sx.skip ?_
        refine Sx.thenN ?_
        refine Sx.seq ?_
        refine Sx.blk ?_
        refine Sx.seq ?_
        refine Sx.region ?_
        refine Sx.cons ?_
        refine Sx.yl (.move rfl) rfl ?_
        refine Sx.cons ?_
        refine Sx.yl (.indexSl Fx.sl69 rfl rfl rfl (by omega) (q := k) (by omega)) rfl ?_
        refine Sx.cons ?_
        refine Sx.yl (.load rfl Fx.agg9 (.head _) (v := strV (wordsL (inner l))[k]) (by rw [List.getElem?_map, List.getElem?_eq_getElem (by omega)]; rfl)) rfl ?_
        refine Sx.cons ?_
        refine Sx.yl (.assign rfl) rfl ?_
        refine Sx.cons ?_
        refine Sx.yl (.assign rfl) rfl ?_
        refine Sx.nil ?_
        refine Sx.thenN ?_
        refine Sx.seq ?_
        refine Sx.region ?_
        have hwl : ((wordsL (inner l))[k]'(by omega)).length ≤ 1000000 := Nat.le_trans (splitK_len _ _ _ (List.getElem_mem _)) (by have := inner_len l; omega)
        by_cases hok : okW ((wordsL (inner l))[k]'(by omega))
        · obtain ⟨u, hu⟩ := hok
          have hxk : xs.getD k 0 = (u : Int) := by rw [← hxs, List.getD, List.getElem?_map, List.getElem?_eq_getElem (by omega)]; exact valW_ok hu
          refine Sx.cons ?_
          refine Sx.yl (.move rfl) rfl ?_
          refine Sx.cons ?_
          refine Sx.yl (.call Fx.call38 rfl (fun W s => pu_ok _ hwl u hu W)) rfl ?_
          refine Sx.cons ?_
          refine Sx.yl (.move rfl) rfl ?_
          refine Sx.cons ?_
          refine Sx.yl (.extract rfl rfl) rfl ?_
          refine Sx.cons ?_
          refine Sx.yl (.extract rfl rfl) rfl ?_
          refine Sx.cons ?_
          refine Sx.yl (.assign rfl) rfl ?_
          refine Sx.cons ?_
          refine Sx.yl (.assign rfl) rfl ?_
          refine Sx.nil ?_
          refine Sx.thenN ?_
          refine Sx.seq ?_
          refine Sx.seq ?_
          refine Sx.region ?_
          refine Sx.cons ?_
          refine Sx.yl (.move rfl) rfl ?_
          refine Sx.cons ?_
          refine Sx.yl (neqNil rfl) rfl ?_
          refine Sx.nil ?_
          refine Sx.thenN ?_
          refine Sx.condF rfl ?_
          refine Sx.skip ?_
          refine Sx.thenN ?_
          refine Sx.region ?_
          refine Sx.cons ?_
          refine Sx.yl (.move rfl) rfl ?_
          refine Sx.cons ?_
          refine Sx.yl (.move rfl) rfl ?_
          refine Sx.cons ?_
          refine Sx.yl (.fieldAddr rfl Fx.field26_0) rfl ?_
          refine Sx.cons ?_
          refine Sx.yl (.indexArr Fx.arr24 rfl rfl rfl (by omega) (q := k) (by omega)) rfl ?_
          refine Sx.cons ?_
          first
            | refine Sx.store rfl rfl Fx.size23 rfl (.head) (by rw [ck_length]; omega) ((congrArg ((ckL (preF xs k)).set k) (by rw [← hxk])).trans (pre_step xs k (by omega))) ?_
            | refine Sx.store rfl rfl Fx.size23 rfl (.tail (.head)) (by rw [ck_length]; omega) ((congrArg ((ckL (preF xs k)).set k) (by rw [← hxk])).trans (pre_step xs k (by omega))) ?_
            | refine Sx.store rfl rfl Fx.size23 rfl (.tail (.tail (.head))) (by rw [ck_length]; omega) ((congrArg ((ckL (preF xs k)).set k) (by rw [← hxk])).trans (pre_step xs k (by omega))) ?_
          refine Sx.nil ?_
          refine Sx.blkN ?_
          refine Sx.thenN ?_
          refine Sx.region ?_
          refine Sx.cons ?_
          refine Sx.yl (.add rfl rfl (w64 (by omega) (by omega))) rfl ?_
          refine Sx.cons ?_
          refine Sx.yl (.move rfl) rfl ?_
          refine Sx.nil ?_
          refine Sx.thenN ?_
          exact Sx.again (k + 1) ⟨⟨by omega, fun j h hj => (Nat.lt_or_ge j k).elim (fun h2 => hC.2 j h h2) (fun h2 => by obtain rfl : j = k := (by omega); exact ⟨u, hu⟩)⟩, by omega⟩ ⟨rfl, rfl, rfl, rfl, rfl, rfl, trivial⟩ (fun W s => s)
        ·
          refine Sx.cons ?_
          refine Sx.yl (.move rfl) rfl ?_
          refine Sx.cons ?_
          refine Sx.callG Fx.call38 rfl (fun W s => pu_bad _ hwl (fun u hu => hok ⟨u, hu⟩) _ W s.agr (G.ext s.ext)) rfl (fun z H1 hz up => ?_)
          subst hz
          refine Sx.cons ?_
          refine Sx.yl (.move rfl) rfl ?_
          refine Sx.cons ?_
          refine Sx.yl (.extract rfl rfl) rfl ?_
          refine Sx.cons ?_
          refine Sx.yl (.extract rfl rfl) rfl ?_
          refine Sx.cons ?_
          refine Sx.yl (.assign rfl) rfl ?_
          refine Sx.cons ?_
          refine Sx.yl (.assign rfl) rfl ?_
          refine Sx.nil ?_
          refine Sx.thenN ?_
          refine Sx.seq ?_
          refine Sx.seq ?_
          refine Sx.region ?_
          refine Sx.cons ?_
          refine Sx.yl (.move rfl) rfl ?_
          refine Sx.cons ?_
          refine Sx.yl (neqSome rfl) rfl ?_
          refine Sx.nil ?_
          refine Sx.thenN ?_
          refine Sx.condT rfl ?_
          refine Sx.seq ?_
          refine Sx.region ?_
          refine Sx.cons ?_
          refine Sx.yl (.build rfl Fx.build26) rfl ?_
          refine Sx.cons ?_
          first
            | refine Sx.storeW rfl rfl Fx.size26 (ckL_one _) (.head) rfl ?_
            | refine Sx.storeW rfl rfl Fx.size26 (ckL_one _) (.tail (.head)) rfl ?_
            | refine Sx.storeW rfl rfl Fx.size26 (ckL_one _) (.tail (.tail (.head))) rfl ?_
          refine Sx.cons ?_
          refine Sx.yl (.assign rfl) rfl ?_
          refine Sx.nil ?_
          refine Sx.thenN ?_
          refine Sx.ret ?_
          refine Sx.thenR ?_
          refine Sx.blkR ?_
          refine Sx.thenR ?_
          refine Sx.thenR ?_
          refine Sx.blkR ?_
          refine Sx.thenR ?_
          first
            | refine Sx.retN (.inl rfl) rfl (.cons (.cell rfl Fx.agg26 (.head _) (ck_length _)) (.cons (.tmp rfl) .nil)) rfl (fun W s => ⟨?_, s.ext⟩)
            | refine Sx.retN (.inl rfl) rfl (.cons (.cell rfl Fx.agg26 (.tail _ (.head _)) (ck_length _)) (.cons (.tmp rfl) .nil)) rfl (fun W s => ⟨?_, s.ext⟩)
            | refine Sx.retN (.inl rfl) rfl (.cons (.cell rfl Fx.agg26 (.tail _ (.tail _ (.head _))) (ck_length _)) (.cons (.tmp rfl) .nil)) rfl (fun W s => ⟨?_, s.ext⟩)
          first
            | exact parse_no (fun g => hok (g.1 hf _ (List.getElem_mem _)))
            | exact parse_no2 (Y := preF xs k) (preA hxs hx (by omega)) h45
            | exact parse_no2 (Y := fun _ => 0) (preB hf) h45
            | exact parse_yes (Y := preF xs k) (preA hxs hx (by omega)) (fun _ => words_ok hC.2 (by omega)) h45
            | exact parse_yes (Y := fun _ => 0) (preB hf) (fun h => absurd h hf) h45
      · try simp only [decide_eq_false_iff_not] at h25
        refine Sx.exit ?_
        refine Sx.thenE ?_
        refine Sx.thenE ?_
        refine Sx.blkE ?_
        refine Sx.thenN ?_
        refine Sx.seq ?_
        refine Sx.seq ?_
        refine Sx.region ?_
        refine Sx.cons ?_
        first
          | refine Sx.yl (.loadW rfl Fx.agg26 (.head _) (ck_length _)) rfl ?_
          | refine Sx.yl (.loadW rfl Fx.agg26 (.tail _ (.head _)) (ck_length _)) rfl ?_
          | refine Sx.yl (.loadW rfl Fx.agg26 (.tail _ (.tail _ (.head _))) (ck_length _)) rfl ?_
        refine Sx.cons ?_
        first
          | refine Sx.yl (.call Fx.call20 rfl (fun W s => text_any (preF xs k) (hUp k) W (G.ext s.ext))) rfl ?_
          | refine Sx.yl (.call Fx.call20 rfl (fun W s => text_any (fun _ => 0) zero_u W (G.ext s.ext))) rfl ?_
        refine Sx.cons ?_
        refine Sx.yl (.move rfl) rfl ?_
        refine Sx.cons ?_
        refine Sx.yl (.neqS rfl rfl) rfl ?_
        refine Sx.nil ?_
        refine Sx.thenN ?_
        refine Sx.cond rfl (fun h45 => ?_) (fun h45 => ?_)
        · skip
          refine Sx.seq ?_
          refine Sx.region ?_
          refine Sx.cons ?_
          refine Sx.yl (.build rfl Fx.build26) rfl ?_
          refine Sx.cons ?_
          first
            | refine Sx.storeW rfl rfl Fx.size26 (ckL_one _) (.head) rfl ?_
            | refine Sx.storeW rfl rfl Fx.size26 (ckL_one _) (.tail (.head)) rfl ?_
            | refine Sx.storeW rfl rfl Fx.size26 (ckL_one _) (.tail (.tail (.head))) rfl ?_
          refine Sx.cons ?_
          refine Sx.yl (.assign rfl) rfl ?_
          refine Sx.nil ?_
          refine Sx.thenN ?_
          refine Sx.ret ?_
          refine Sx.thenR ?_
          first
            | refine Sx.retN (.inl rfl) rfl (.cons (.cell rfl Fx.agg26 (.head _) (ck_length _)) (.cons (.tmp rfl) .nil)) rfl (fun W s => ⟨?_, s.ext⟩)
            | refine Sx.retN (.inl rfl) rfl (.cons (.cell rfl Fx.agg26 (.tail _ (.head _)) (ck_length _)) (.cons (.tmp rfl) .nil)) rfl (fun W s => ⟨?_, s.ext⟩)
            | refine Sx.retN (.inl rfl) rfl (.cons (.cell rfl Fx.agg26 (.tail _ (.tail _ (.head _))) (ck_length _)) (.cons (.tmp rfl) .nil)) rfl (fun W s => ⟨?_, s.ext⟩)
          first
            | exact parse_no (fun g => hok (g.1 hf _ (List.getElem_mem _)))
            | exact parse_no2 (Y := preF xs k) (preA hxs hx (by omega)) h45
            | exact parse_no2 (Y := fun _ => 0) (preB hf) h45
            | exact parse_yes (Y := preF xs k) (preA hxs hx (by omega)) (fun _ => words_ok hC.2 (by omega)) h45
            | exact parse_yes (Y := fun _ => 0) (preB hf) (fun h => absurd h hf) h45
        · skip
          refine Sx.skip ?_
          refine Sx.thenN ?_
          refine Sx.seq ?_
          refine Sx.region ?_
          refine Sx.cons ?_
          first
            | refine Sx.yl (.loadW rfl Fx.agg26 (.head _) (ck_length _)) rfl ?_
            | refine Sx.yl (.loadW rfl Fx.agg26 (.tail _ (.head _)) (ck_length _)) rfl ?_
            | refine Sx.yl (.loadW rfl Fx.agg26 (.tail _ (.tail _ (.head _))) (ck_length _)) rfl ?_
          refine Sx.cons ?_
          first
            | refine Sx.storeW rfl rfl Fx.size26 (ckL_one _) (.head) rfl ?_
            | refine Sx.storeW rfl rfl Fx.size26 (ckL_one _) (.tail (.head)) rfl ?_
            | refine Sx.storeW rfl rfl Fx.size26 (ckL_one _) (.tail (.tail (.head))) rfl ?_
          refine Sx.cons ?_
          refine Sx.yl (.assign rfl) rfl ?_
          refine Sx.nil ?_
          refine Sx.thenN ?_
          refine Sx.ret ?_
          first
            | refine Sx.retN (.inl rfl) rfl (.cons (.cell rfl Fx.agg26 (.head _) (ck_length _)) (.cons (.tmp rfl) .nil)) rfl (fun W s => ⟨?_, s.ext⟩)
            | refine Sx.retN (.inl rfl) rfl (.cons (.cell rfl Fx.agg26 (.tail _ (.head _)) (ck_length _)) (.cons (.tmp rfl) .nil)) rfl (fun W s => ⟨?_, s.ext⟩)
            | refine Sx.retN (.inl rfl) rfl (.cons (.cell rfl Fx.agg26 (.tail _ (.tail _ (.head _))) (ck_length _)) (.cons (.tmp rfl) .nil)) rfl (fun W s => ⟨?_, s.ext⟩)
          first
            | exact parse_no (fun g => hok (g.1 hf _ (List.getElem_mem _)))
            | exact parse_no2 (Y := preF xs k) (preA hxs hx (by omega)) h45
            | exact parse_no2 (Y := fun _ => 0) (preB hf) h45
            | exact parse_yes (Y := preF xs k) (preA hxs hx (by omega)) (fun _ => words_ok hC.2 (by omega)) h45
            | exact parse_yes (Y := fun _ => 0) (preB hf) (fun h => absurd h hf) h45
    · simp only [decide_eq_false_iff_not] at h16
      have hf : ¬ fits l := fun h => h16 (by have := h.2; omega)
      refine Sx.skip ?_
      refine Sx.thenN ?_
      refine Sx.seq ?_
      refine Sx.seq ?_
      refine Sx.region ?_
      refine Sx.cons ?_
      first
        | refine Sx.yl (.loadW rfl Fx.agg26 (.head _) (ck_length _)) rfl ?_
        | refine Sx.yl (.loadW rfl Fx.agg26 (.tail _ (.head _)) (ck_length _)) rfl ?_
      refine Sx.cons ?_
      first
        | refine Sx.yl (.call Fx.call20 rfl (fun W s => text_any (preF xs k) (hUp k) W (G.ext s.ext))) rfl ?_
        | refine Sx.yl (.call Fx.call20 rfl (fun W s => text_any (fun _ => 0) zero_u W (G.ext s.ext))) rfl ?_
      refine Sx.cons ?_
      refine Sx.yl (.move rfl) rfl ?_
      refine Sx.cons ?_
      refine Sx.yl (.neqS rfl rfl) rfl ?_
      refine Sx.nil ?_
      refine Sx.thenN ?_
      refine Sx.cond rfl (fun h45 => ?_) (fun h45 => ?_)
      · skip
        refine Sx.seq ?_
        refine Sx.region ?_
        refine Sx.cons ?_
        refine Sx.yl (.build rfl Fx.build26) rfl ?_
        refine Sx.cons ?_
        first
          | refine Sx.storeW rfl rfl Fx.size26 (ckL_one _) (.head) rfl ?_
          | refine Sx.storeW rfl rfl Fx.size26 (ckL_one _) (.tail (.head)) rfl ?_
        refine Sx.cons ?_
        refine Sx.yl (.assign rfl) rfl ?_
        refine Sx.nil ?_
        refine Sx.thenN ?_
        refine Sx.ret ?_
        refine Sx.thenR ?_
        first
          | refine Sx.retN (.inl rfl) rfl (.cons (.cell rfl Fx.agg26 (.head _) (ck_length _)) (.cons (.tmp rfl) .nil)) rfl (fun W s => ⟨?_, s.ext⟩)
          | refine Sx.retN (.inl rfl) rfl (.cons (.cell rfl Fx.agg26 (.tail _ (.head _)) (ck_length _)) (.cons (.tmp rfl) .nil)) rfl (fun W s => ⟨?_, s.ext⟩)
        first
          | exact parse_no (fun g => hok (g.1 hf _ (List.getElem_mem _)))
          | exact parse_no2 (Y := preF xs k) (preA hxs hx (by omega)) h45
          | exact parse_no2 (Y := fun _ => 0) (preB hf) h45
          | exact parse_yes (Y := preF xs k) (preA hxs hx (by omega)) (fun _ => words_ok hC.2 (by omega)) h45
          | exact parse_yes (Y := fun _ => 0) (preB hf) (fun h => absurd h hf) h45
      · skip
        refine Sx.skip ?_
        refine Sx.thenN ?_
        refine Sx.seq ?_
        refine Sx.region ?_
        refine Sx.cons ?_
        first
          | refine Sx.yl (.loadW rfl Fx.agg26 (.head _) (ck_length _)) rfl ?_
          | refine Sx.yl (.loadW rfl Fx.agg26 (.tail _ (.head _)) (ck_length _)) rfl ?_
        refine Sx.cons ?_
        first
          | refine Sx.storeW rfl rfl Fx.size26 (ckL_one _) (.head) rfl ?_
          | refine Sx.storeW rfl rfl Fx.size26 (ckL_one _) (.tail (.head)) rfl ?_
        refine Sx.cons ?_
        refine Sx.yl (.assign rfl) rfl ?_
        refine Sx.nil ?_
        refine Sx.thenN ?_
        refine Sx.ret ?_
        first
          | refine Sx.retN (.inl rfl) rfl (.cons (.cell rfl Fx.agg26 (.head _) (ck_length _)) (.cons (.tmp rfl) .nil)) rfl (fun W s => ⟨?_, s.ext⟩)
          | refine Sx.retN (.inl rfl) rfl (.cons (.cell rfl Fx.agg26 (.tail _ (.head _)) (ck_length _)) (.cons (.tmp rfl) .nil)) rfl (fun W s => ⟨?_, s.ext⟩)
        first
          | exact parse_no (fun g => hok (g.1 hf _ (List.getElem_mem _)))
          | exact parse_no2 (Y := preF xs k) (preA hxs hx (by omega)) h45
          | exact parse_no2 (Y := fun _ => 0) (preB hf) h45
          | exact parse_yes (Y := preF xs k) (preA hxs hx (by omega)) (fun _ => words_ok hC.2 (by omega)) h45
          | exact parse_yes (Y := fun _ => 0) (preB hf) (fun h => absurd h hf) h45
  · simp only [decide_eq_false_iff_not, str_size] at h12
    have hf : ¬ fits l := fun h => h12 (by have := h.1; omega)
    refine Sx.cons ?_
    refine Sx.guardF rfl rfl rfl rfl ?_
    refine Sx.cons ?_
    refine Sx.guardF rfl rfl rfl rfl ?_
    refine Sx.cons ?_
    refine Sx.guardF rfl rfl rfl rfl ?_
    refine Sx.cons ?_
    refine Sx.yl (.pickF rfl rfl) rfl ?_
    refine Sx.nil ?_
    refine Sx.thenN ?_
    refine Sx.condF rfl ?_
    refine Sx.skip ?_
    refine Sx.thenN ?_
    refine Sx.seq ?_
    refine Sx.seq ?_
    refine Sx.region ?_
    refine Sx.cons ?_
    first
      | refine Sx.yl (.loadW rfl Fx.agg26 (.head _) (ck_length _)) rfl ?_
      | refine Sx.yl (.loadW rfl Fx.agg26 (.tail _ (.head _)) (ck_length _)) rfl ?_
    refine Sx.cons ?_
    first
      | refine Sx.yl (.call Fx.call20 rfl (fun W s => text_any (preF xs k) (hUp k) W (G.ext s.ext))) rfl ?_
      | refine Sx.yl (.call Fx.call20 rfl (fun W s => text_any (fun _ => 0) zero_u W (G.ext s.ext))) rfl ?_
    refine Sx.cons ?_
    refine Sx.yl (.move rfl) rfl ?_
    refine Sx.cons ?_
    refine Sx.yl (.neqS rfl rfl) rfl ?_
    refine Sx.nil ?_
    refine Sx.thenN ?_
    refine Sx.cond rfl (fun h45 => ?_) (fun h45 => ?_)
    · skip
      refine Sx.seq ?_
      refine Sx.region ?_
      refine Sx.cons ?_
      refine Sx.yl (.build rfl Fx.build26) rfl ?_
      refine Sx.cons ?_
      first
        | refine Sx.storeW rfl rfl Fx.size26 (ckL_one _) (.head) rfl ?_
        | refine Sx.storeW rfl rfl Fx.size26 (ckL_one _) (.tail (.head)) rfl ?_
      refine Sx.cons ?_
      refine Sx.yl (.assign rfl) rfl ?_
      refine Sx.nil ?_
      refine Sx.thenN ?_
      refine Sx.ret ?_
      refine Sx.thenR ?_
      first
        | refine Sx.retN (.inl rfl) rfl (.cons (.cell rfl Fx.agg26 (.head _) (ck_length _)) (.cons (.tmp rfl) .nil)) rfl (fun W s => ⟨?_, s.ext⟩)
        | refine Sx.retN (.inl rfl) rfl (.cons (.cell rfl Fx.agg26 (.tail _ (.head _)) (ck_length _)) (.cons (.tmp rfl) .nil)) rfl (fun W s => ⟨?_, s.ext⟩)
      first
        | exact parse_no (fun g => hok (g.1 hf _ (List.getElem_mem _)))
        | exact parse_no2 (Y := preF xs k) (preA hxs hx (by omega)) h45
        | exact parse_no2 (Y := fun _ => 0) (preB hf) h45
        | exact parse_yes (Y := preF xs k) (preA hxs hx (by omega)) (fun _ => words_ok hC.2 (by omega)) h45
        | exact parse_yes (Y := fun _ => 0) (preB hf) (fun h => absurd h hf) h45
    · skip
      refine Sx.skip ?_
      refine Sx.thenN ?_
      refine Sx.seq ?_
      refine Sx.region ?_
      refine Sx.cons ?_
      first
        | refine Sx.yl (.loadW rfl Fx.agg26 (.head _) (ck_length _)) rfl ?_
        | refine Sx.yl (.loadW rfl Fx.agg26 (.tail _ (.head _)) (ck_length _)) rfl ?_
      refine Sx.cons ?_
      first
        | refine Sx.storeW rfl rfl Fx.size26 (ckL_one _) (.head) rfl ?_
        | refine Sx.storeW rfl rfl Fx.size26 (ckL_one _) (.tail (.head)) rfl ?_
      refine Sx.cons ?_
      refine Sx.yl (.assign rfl) rfl ?_
      refine Sx.nil ?_
      refine Sx.thenN ?_
      refine Sx.ret ?_
      first
        | refine Sx.retN (.inl rfl) rfl (.cons (.cell rfl Fx.agg26 (.head _) (ck_length _)) (.cons (.tmp rfl) .nil)) rfl (fun W s => ⟨?_, s.ext⟩)
        | refine Sx.retN (.inl rfl) rfl (.cons (.cell rfl Fx.agg26 (.tail _ (.head _)) (ck_length _)) (.cons (.tmp rfl) .nil)) rfl (fun W s => ⟨?_, s.ext⟩)
      first
        | exact parse_no (fun g => hok (g.1 hf _ (List.getElem_mem _)))
        | exact parse_no2 (Y := preF xs k) (preA hxs hx (by omega)) h45
        | exact parse_no2 (Y := fun _ => 0) (preB hf) h45
        | exact parse_yes (Y := preF xs k) (preA hxs hx (by omega)) (fun _ => words_ok hC.2 (by omega)) h45
        | exact parse_yes (Y := fun _ => 0) (preB hf) (fun h => absurd h hf) h45
end Go.Proofs.YtnmickfdflinpaaDoor
