/- Proved: for every input, rootcauselaw08.TypesRenames returns true, and its arguments read as they did (the tied card TypesRenamesCardSaid). Conditions: the card's own (the listed package variables read as the program's initialisers lay them, tied to the text), and no others. -/
import Derived.Test.YtohfacbajcenoaaGreatDoorMg
import Derived.Test.YtohfacbajcenoaaGreatDoorCards
set_option linter.all false
namespace Go.Proofs.YtohfacbajcenoaaGreatDoor
open Go.RowKit Go.Par Go.Sx
theorem u8_of {x : D} (h : Ty.has (.int .u8) x) : ∃ y : UInt8, x = dU8 y := by
  simp only [Ty.has] at h
  obtain ⟨n, rfl, hn⟩ := h
  obtain ⟨a, rfl⟩ := has_u8 hn
  exact ⟨a, rfl⟩
theorem seq_of {α : Type} {f : α → D} {τ : Ty} {x : D} (k : ∀ y, Ty.has τ y → ∃ z, y = f z) (h : Ty.has (.seq τ) x) : ∃ l : List α, x = .seq τ.cells (l.map f) := by
  unfold Ty.has at h
  obtain ⟨ds, rfl, h1⟩ := h
  obtain ⟨l, rfl⟩ := list_of (f := f) fun x hx => k x (h1 x hx)
  exact ⟨l, rfl⟩
theorem cd_of {x : D} (h : Ty.has (.str [.int .u8, .seq (.int .u8)]) x) : ∃ y : Cd, x = dCd y := by
  rw [Ty.has] at h
  obtain ⟨ds, rfl, h⟩ := h
  simp only [Ty.hasL] at h
  obtain ⟨_, _, rfl, h1, _, _, rfl, h2, rfl⟩ := h
  obtain ⟨a, rfl⟩ := u8_of h1
  obtain ⟨l, rfl⟩ := seq_of (f := dU8) (fun _ => u8_of) h2
  exact ⟨⟨a, l⟩, rfl⟩
theorem prt_of {x : D} (h : Ty.has (.str [.int .u8, .int .u8, .seq (.str [.int .u8, .seq (.int .u8)]), .seq (.str [.int .u8, .seq (.int .u8)])]) x) : ∃ y : Prt, x = dPrt y := by
  rw [Ty.has] at h
  obtain ⟨ds, rfl, h⟩ := h
  simp only [Ty.hasL] at h
  obtain ⟨_, _, rfl, h1, _, _, rfl, h2, _, _, rfl, h3, _, _, rfl, h4, rfl⟩ := h
  obtain ⟨a, rfl⟩ := u8_of h1
  obtain ⟨b, rfl⟩ := u8_of h2
  obtain ⟨l, rfl⟩ := seq_of (f := dCd) (fun _ => cd_of) h3
  obtain ⟨m, rfl⟩ := seq_of (f := dCd) (fun _ => cd_of) h4
  exact ⟨⟨a, b, l, m⟩, rfl⟩
theorem pln_of {x : D} (h : Ty.has (.str [.int .u8, .seq (.int .u8), .seq (.str [.int .u8, .int .u8, .seq (.str [.int .u8, .seq (.int .u8)]), .seq (.str [.int .u8, .seq (.int .u8)])])]) x) : ∃ y : Pln, x = dPln y := by
  rw [Ty.has] at h
  obtain ⟨ds, rfl, h⟩ := h
  simp only [Ty.hasL] at h
  obtain ⟨_, _, rfl, h1, _, _, rfl, h2, _, _, rfl, h3, rfl⟩ := h
  obtain ⟨a, rfl⟩ := u8_of h1
  obtain ⟨l, rfl⟩ := seq_of (f := dU8) (fun _ => u8_of) h2
  obtain ⟨m, rfl⟩ := seq_of (f := dPrt) (fun _ => prt_of) h3
  exact ⟨⟨a, l, m⟩, rfl⟩
set_option maxRecDepth 100000 in
theorem open_plan {H : Type} {enc : TypeId × Value → H} {W : World} {b base : Nat} {sp : Nat → Bool} {held : Bool} {v : Value} {d : DataW H} {p : List MemPlace} (hv : Value.okWide Tryz.prog W .any b 25 v) (h : DataW.Trod enc Tryz.prog W base sp held 25 v d p) :
    ∃ (p : Pln) (cs : List Value), v = .agg cs.toArray ∧ Rep (allH W) (dPln p) cs := by
  obtain ⟨cs0, rfl, _⟩ := Go.WideShapes.okWide_struct Tryz.underlying25 hv
  obtain ⟨fuel, hf⟩ := h
  obtain ⟨d, hd, hr⟩ := Ty.opens W (.str [.int .u8, .seq (.int .u8), .seq (.str [.int .u8, .int .u8, .seq (.str [.int .u8, .seq (.int .u8)]), .seq (.str [.int .u8, .seq (.int .u8)])])]) 25 fuel _ _ (by kernel_rfl) (by kernel_rfl) hf
  obtain ⟨p, rfl⟩ := pln_of hd
  exact ⟨p, cs0.toList, by simp, hr⟩
theorem chg_of {x : D} (h : Ty.has (.str [.int .u8, .int .u8, .int .u8, .int .u8, .int .u8]) x) : ∃ y : Chg, x = dChg y := by
  rw [Ty.has] at h
  obtain ⟨ds, rfl, h⟩ := h
  simp only [Ty.hasL] at h
  obtain ⟨_, _, rfl, h1, _, _, rfl, h2, _, _, rfl, h3, _, _, rfl, h4, _, _, rfl, h5, rfl⟩ := h
  simp only [Ty.has] at h1 h2 h3 h4 h5
  obtain ⟨a, rfl, ha⟩ := h1
  obtain ⟨a, rfl⟩ := has_u8 ha
  obtain ⟨b, rfl, hb⟩ := h2
  obtain ⟨b, rfl⟩ := has_u8 hb
  obtain ⟨c, rfl, hc⟩ := h3
  obtain ⟨c, rfl⟩ := has_u8 hc
  obtain ⟨d, rfl, hd⟩ := h4
  obtain ⟨d, rfl⟩ := has_u8 hd
  obtain ⟨e, rfl, he⟩ := h5
  obtain ⟨e, rfl⟩ := has_u8 he
  exact ⟨⟨a, b, c, d, e⟩, rfl⟩
theorem chg_cells {H : Hp} {x : Chg} {cs : List Value} (h : Rep H (dChg x) cs) : cs = cChg x := by
  rw [dChg, repS] at h
  obtain ⟨_, rfl, _, _, h⟩ := repL_val.1 h
  obtain ⟨_, rfl, _, _, h⟩ := repL_val.1 h
  obtain ⟨_, rfl, _, _, h⟩ := repL_val.1 h
  obtain ⟨_, rfl, _, _, h⟩ := repL_val.1 h
  obtain ⟨_, rfl, _, _, h⟩ := repL_val.1 h
  rw [repL_nil] at h
  subst h; rfl
theorem strL_of {x : D} (h : Ty.has .strg x) : ∃ z : Str, x = dStrL z := by
  simp only [Ty.has] at h
  obtain ⟨s, rfl⟩ := h
  exact ⟨s.data.toList, by rw [dStrL, strV]⟩
set_option maxRecDepth 100000 in
theorem open_chgs {H : Type} {enc : TypeId × Value → H} {W : World} {b base : Nat} {sp : Nat → Bool} {held : Bool} {v : Value} {d : DataW H} {p : List MemPlace} (hv : Value.okWide Tryz.prog W .any b 26 v) (h : DataW.Trod enc Tryz.prog W base sp held 26 v d p) :
    ∃ l : List Chg, Rep (allH W) (.seq 5 (l.map dChg)) [v] := by
  obtain ⟨a0, n0, c0, rfl⟩ := Go.WideShapes.okWide_slice Tryz.underlying26 hv
  obtain ⟨fuel, hf⟩ := h
  obtain ⟨d, hd, hr⟩ := Ty.opens W (.seq (.str [.int .u8, .int .u8, .int .u8, .int .u8, .int .u8])) 26 fuel _ _ (by kernel_rfl) (by kernel_rfl) hf
  obtain ⟨l, rfl⟩ := seq_of (f := dChg) (fun _ => chg_of) hd
  exact ⟨l, hr⟩
namespace typesRenames
open Go.ChangeShapes Go.WideShapes Go.ChangeAt Go.RowKit
open Go.ChangeMaps (open_string shut_string)
set_option maxRecDepth 100000 in
theorem lifted (os : Os) (started : os.Started) (H : Type) (enc : TypeId × Value → H) :
    ReturnsInHanded {} Tryz.checked os 4 .any (fun w args => (Rows.typesRenamesSpec.pre enc Tryz.prog Tryz.f4 [] false w args ∧ laidMet Tryz.prog laids w) ∧ sizedMet enc Tryz.prog Tryz.f4 (OpenSpec.ofChange Rows.typesRenamesSpec) false w args)
      (Rows.typesRenamesSpec.post enc Tryz.prog Tryz.f4 false true false false) := by
  refine wrap (C := Tryz.checked) (X := fun w _ => laidMet Tryz.prog laids w) (fun _ _ _ hh h => h.of_heap hh) own started (by kernel_rfl) Tryz.func4
    (ChangeSpec.witness_shaped (enc := enc) (C := Tryz.checked) (os := os) (X := fun w _ => laidMet Tryz.prog laids w) false (World.laidAll Tryz.prog os laids) #[.agg #[.int .u8 0, .slice none 0 0, .slice none 0 0], .slice none 0 0] 8 (World.laidAll_os _ _ _) (laid_shaped os _) (by kernel_rfl) (by kernel_rfl) (by kernel_rfl) (laid_met os _)) ?_
  intro W base args ds gs before hval0 hW hL hS
  have G := gl_of hL
  have g := gt_of hL
  have hval : ∀ (j : Nat) t v, Tryz.f4.params[j]? = some t → args[j]? = some v → Value.okWide Tryz.prog W .any base t v := hval0
  have hW' := hW
  obtain ⟨p, q, hA0, hV, rfl, hfz, hnd⟩ := hW
  have hA : DataW.TrodAll enc Tryz.prog W 0 (fun _ => true) true Tryz.f4.params.toList args.toList ds p := hA0
  rw [Tryz.params4] at hA hval
  obtain ⟨v0, v1, d0, d1, p0, p1, rfl, rfl, rfl, h0, h1⟩ := trodAll_two hA
  obtain ⟨rfl, rfl⟩ := trodVars_none hV
  have k0 := h0
  have hlt0 : ∀ x ∈ p0, x.block < W.heap.size := fun x hx => hW'.lt x (by simp [hx])
  have k1 := h1
  have hlt1 : ∀ x ∈ p1, x.block < W.heap.size := fun x hx => hW'.lt x (by simp [hx])
  obtain ⟨q0, cs0, e0, hr0⟩ := open_plan (hval 0 25 v0 rfl rfl) h0
  subst e0
  obtain ⟨l1, hr1⟩ := open_chgs (hval 1 26 v1 rfl rfl) h1
  clear hA0 hval0
  simp only [List.append_nil] at hW'
  refine (typesRenames_any ((allH W).at W.heap.size) (gl_at _ G) q0 l1 cs0 v1 (hr0.relo _ (txt_pln q0)) (hr1.relo _ (txt_chgs l1)) W (Hp.at_agr (allH_agr W)) rfl).mono fun e W' ⟨he, hg⟩ => ?_
  subst he
  refine ⟨_, rfl, _, _, _, [], (p0 ++ p1), [], hW', ?_, ?_, rfl, ext_kept hg _, fun h => by cases h⟩
  · exact trodAll_mk1 (shut_bool Tryz.underlying4 _)
  · exact trodAll_mk2 (Below.trod laidOut (by kernel_rfl) (of_decide_eq_true (by kernel_rfl)) k0 hg.below hlt0) (Below.trod laidOut (by kernel_rfl) (of_decide_eq_true (by kernel_rfl)) k1 hg.below hlt1)
theorem holds : Rows.TypesRenamesSaid :=
  OpenClaim.holds_of_wide 4 Tryz.f4 rfl rfl rfl rfl rfl rfl rfl ⟨rfl, rfl, rfl, rfl, rfl⟩ rfl rfl rfl rfl rfl (by kernel_rfl) Tryz.func4 (by kernel_rfl)
    (of_decide_eq_true (by kernel_rfl)) (by unfold Func.isWrapper; first | (rw [if_pos (by decide +kernel)]; kernel_rfl) | (rw [if_neg (by decide +kernel)]; exact ⟨rfl, rfl⟩))
    (fun os started H enc _ => lifted os started H enc)
theorem card_holds : Rows.TypesRenamesCardSaid :=
  Claim7.holds_tied_plain_at .later [] [.data, .data, .data, .data, .data, .data, .data] true (true, "18b67be119c012276afea62262d93e8274f849ab98ab0647db4f58e1b4137ebb") false
    holds (fun _ h => by cases h) (by kernel_rfl) (fun _ h => by cases h) typesRenames_row_tie rfl ⟨rfl, rfl⟩ (by kernel_rfl) rfl
    (fun f fn hf hfn => by
      obtain rfl : f = 4 := Option.some.inj ((show Tryz.prog.funcNamed "rootcause/rootcauselaw08.TypesRenames" = some 4 by kernel_rfl).symm.trans hf) |>.symm
      obtain rfl : fn = Tryz.f4 := (Option.some.inj (Tryz.func4.symm.trans hfn)).symm
      exact ⟨by kernel_rfl, fun j t ht => by
        rw [Tryz.params4] at ht
        rcases j with _ | _ | j
        · obtain rfl : t = 25 := by simpa using ht.symm
          exact (show Tryz.prog.wantsStandIn 25 = false by kernel_rfl)
        · obtain rfl : t = 26 := by simpa using ht.symm
          exact (show Tryz.prog.wantsStandIn 26 = false by kernel_rfl)
        · simp at ht⟩)
    (by kernel_rfl)
#print axioms card_holds
end typesRenames
end Go.Proofs.YtohfacbajcenoaaGreatDoor
