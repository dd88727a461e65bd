/- Proved: for every input, rootcauselaw07.ParserBlanks returns true, and its arguments read as they did (the tied card ParserBlanksCardSaid). Conditions: the card's own (the listed package variables read as the program's initialisers lay them, tied to the text), and no others. -/
import Derived.Test.YthhoebdlfjffkaaGreatDoorMh
import Derived.Test.YthhoebdlfjffkaaGreatDoorCards
set_option linter.all false
namespace Go.Proofs.YthhoebdlfjffkaaGreatDoor
open Go.RowKit Go.Par Go.Sx
theorem vG {x : D} (h : Ty.has (.int .u8) x) : ∃ y : UInt8, x = dU8 y := by
  simp only [Ty.has] at h
  obtain ⟨n, rfl, hn⟩ := h
  obtain ⟨a, rfl⟩ := VZ hn
  exact ⟨a, rfl⟩
theorem sF {α : Type} {f : α → D} {τ : Ty} {x : D} (k : ∀ y, Ty.has τ y → ∃ z, y = f z) (h : Ty.has (.seq τ) x) : ∃ l : List α, x = .seq τ.cells (l.map f) := by
  unfold Ty.has at h
  obtain ⟨ds, rfl, h1⟩ := h
  obtain ⟨l, rfl⟩ := HT (f := f) fun x hx => k x (h1 x hx)
  exact ⟨l, rfl⟩
theorem UD {x : D} (h : Ty.has (.str [.int .u8, .seq (.int .u8)]) x) : ∃ y : Cd, x = dCd y := by
  rw [Ty.has] at h
  obtain ⟨ds, rfl, h⟩ := h
  simp only [Ty.hasL] at h
  obtain ⟨_, _, rfl, h1, _, _, rfl, h2, rfl⟩ := h
  obtain ⟨a, rfl⟩ := vG h1
  obtain ⟨l, rfl⟩ := sF (f := dU8) (fun _ => vG) h2
  exact ⟨⟨a, l⟩, rfl⟩
theorem VB {x : D} (h : Ty.has (.str [.int .u8, .int .u8, .seq (.str [.int .u8, .seq (.int .u8)]), .seq (.str [.int .u8, .seq (.int .u8)])]) x) : ∃ y : Prt, x = tZ y := by
  rw [Ty.has] at h
  obtain ⟨ds, rfl, h⟩ := h
  simp only [Ty.hasL] at h
  obtain ⟨_, _, rfl, h1, _, _, rfl, h2, _, _, rfl, h3, _, _, rfl, h4, rfl⟩ := h
  obtain ⟨a, rfl⟩ := vG h1
  obtain ⟨b, rfl⟩ := vG h2
  obtain ⟨l, rfl⟩ := sF (f := dCd) (fun _ => UD) h3
  obtain ⟨m, rfl⟩ := sF (f := dCd) (fun _ => UD) h4
  exact ⟨⟨a, b, l, m⟩, rfl⟩
theorem VC {x : D} (h : Ty.has (.str [.int .u8, .seq (.int .u8), .seq (.str [.int .u8, .int .u8, .seq (.str [.int .u8, .seq (.int .u8)]), .seq (.str [.int .u8, .seq (.int .u8)])])]) x) : ∃ y : Pln, x = FZ y := by
  rw [Ty.has] at h
  obtain ⟨ds, rfl, h⟩ := h
  simp only [Ty.hasL] at h
  obtain ⟨_, _, rfl, h1, _, _, rfl, h2, _, _, rfl, h3, rfl⟩ := h
  obtain ⟨a, rfl⟩ := vG h1
  obtain ⟨l, rfl⟩ := sF (f := dU8) (fun _ => vG) h2
  obtain ⟨m, rfl⟩ := sF (f := tZ) (fun _ => VB) h3
  exact ⟨⟨a, l, m⟩, rfl⟩
set_option maxRecDepth 100000 in
theorem KC {H : Type} {enc : TypeId × Value → H} {W : World} {b base : Nat} {sp : Nat → Bool} {held : Bool} {v : Value} {d : DataW H} {p : List MemPlace} (hv : Value.okWide Tryz.prog W .any b 43 v) (h : DataW.Trod enc Tryz.prog W base sp held 43 v d p) :
    ∃ (p : Pln) (cs : List Value), v = .agg cs.toArray ∧ Rep (xR W) (FZ p) cs := by
  obtain ⟨cs0, rfl, _⟩ := Go.WideShapes.okWide_struct Tryz.underlying43 hv
  obtain ⟨fuel, hf⟩ := h
  obtain ⟨d, hd, hr⟩ := Ty.opens W (.str [.int .u8, .seq (.int .u8), .seq (.str [.int .u8, .int .u8, .seq (.str [.int .u8, .seq (.int .u8)]), .seq (.str [.int .u8, .seq (.int .u8)])])]) 43 fuel _ _ (by kernel_rfl) (by kernel_rfl) hf
  obtain ⟨p, rfl⟩ := VC hd
  exact ⟨p, cs0.toList, by simp, hr⟩
set_option maxRecDepth 100000 in
theorem FH {H : Type} {enc : TypeId × Value → H} {W : World} {b base : Nat} {sp : Nat → Bool} {held : Bool} {v : Value} {d : DataW H} {p : List MemPlace} (hv : Value.okWide Tryz.prog W .any b 40 v) (h : DataW.Trod enc Tryz.prog W base sp held 40 v d p) :
    ∃ l : List UInt8, Rep (xR W) (.seq 1 (l.map dU8)) [v] := by
  obtain ⟨a0, n0, c0, rfl⟩ := Go.WideShapes.okWide_slice Tryz.underlying40 hv
  obtain ⟨fuel, hf⟩ := h
  obtain ⟨d, hd, hr⟩ := Ty.opens W (.seq (.int .u8)) 40 fuel _ _ (by kernel_rfl) (by kernel_rfl) hf
  obtain ⟨l, rfl⟩ := sF (f := dU8) (fun _ => vG) hd
  exact ⟨l, hr⟩
namespace parserBlanks
open Go.ChangeShapes Go.WideShapes Go.ChangeAt Go.RowKit
open Go.ChangeMaps (open_string shut_string)
set_option maxRecDepth 100000 in
theorem lifted (os : Os) (started : os.Started) (H : Type) (enc : TypeId × Value → H) :
    ReturnsInHanded {} Tryz.checked os 8 .any (fun w args => (Rows.parserBlanksSpec.pre enc Tryz.prog Tryz.f8 [] false w args ∧ laidMet Tryz.prog rJ w) ∧ sizedMet enc Tryz.prog Tryz.f8 (OpenSpec.ofChange Rows.parserBlanksSpec) false w args)
      (Rows.parserBlanksSpec.post enc Tryz.prog Tryz.f8 false true false false) := by
  refine wrap (C := Tryz.checked) (X := fun w _ => laidMet Tryz.prog rJ w) (fun _ _ _ hh h => h.of_heap hh) own started (by kernel_rfl) Tryz.func8
    (ChangeSpec.witness_shaped (enc := enc) (C := Tryz.checked) (os := os) (X := fun w _ => laidMet Tryz.prog rJ w) false (World.laidAll Tryz.prog os rJ) #[.agg #[.int .u8 0, .slice none 0 0, .slice none 0 0], .slice none 0 0] 8 (World.laidAll_os _ _ _) (DH os _) (by kernel_rfl) (by kernel_rfl) (by kernel_rfl) (OJ os _)) ?_
  intro W base args ds gs before hval0 hW hL hS
  have G := XW hL
  have g := XT hL
  have hval : ∀ (j : Nat) t v, Tryz.f8.params[j]? = some t → args[j]? = some v → Value.okWide Tryz.prog W .any base t v := hval0
  have hW' := hW
  obtain ⟨p, q, hA0, hV, rfl, hfz, hnd⟩ := hW
  have hA : DataW.TrodAll enc Tryz.prog W 0 (fun _ => true) true Tryz.f8.params.toList args.toList ds p := hA0
  rw [Tryz.params8] at hA hval
  obtain ⟨v0, v1, d0, d1, p0, p1, rfl, rfl, rfl, h0, h1⟩ := trodAll_two hA
  obtain ⟨rfl, rfl⟩ := trodVars_none hV
  have k0 := h0
  have hlt0 : ∀ x ∈ p0, x.block < W.heap.size := fun x hx => hW'.lt x (by simp [hx])
  have k1 := h1
  have hlt1 : ∀ x ∈ p1, x.block < W.heap.size := fun x hx => hW'.lt x (by simp [hx])
  obtain ⟨q0, cs0, e0, hr0⟩ := KC (hval 0 43 v0 rfl rfl) h0
  subst e0
  obtain ⟨l1, hr1⟩ := FH (hval 1 40 v1 rfl rfl) h1
  clear hA0 hval0
  simp only [List.append_nil] at hW'
  refine (sH (xR W) G g q0 l1 cs0 v1 hr0 hr1 W (QB W)).mono fun e W' ⟨he, hg⟩ => ?_
  subst he
  refine ⟨_, rfl, _, _, _, [], (p0 ++ p1), [], hW', ?_, ?_, rfl, PC hg _, fun h => by cases h⟩
  · exact trodAll_mk1 (shut_bool Tryz.underlying4 _)
  · exact trodAll_mk2 (Below.trod IA (by kernel_rfl) (of_decide_eq_true (by kernel_rfl)) k0 hg.below hlt0) (Below.trod IA (by kernel_rfl) (of_decide_eq_true (by kernel_rfl)) k1 hg.below hlt1)
theorem holds : Rows.ParserBlanksSaid :=
  OpenClaim.holds_of_wide 8 Tryz.f8 rfl rfl rfl rfl rfl rfl rfl ⟨rfl, rfl, rfl, rfl, rfl⟩ rfl rfl rfl rfl rfl (by kernel_rfl) Tryz.func8 (by kernel_rfl)
    (of_decide_eq_true (by kernel_rfl)) (by unfold Func.isWrapper; first | (rw [if_pos (by decide +kernel)]; kernel_rfl) | (rw [if_neg (by decide +kernel)]; exact ⟨rfl, rfl⟩))
    (fun os started H enc _ => lifted os started H enc)
theorem card_holds : Rows.ParserBlanksCardSaid :=
  Claim7.holds_tied_plain_at .later [] [.data, .data, .data, .data, .data, .data, .data] true (true, "b5223c05784295d3e10bc5ace5d4a7dc5f77fe4b5c57139d02a6d0d21167e338") false
    holds (fun _ h => by cases h) (by kernel_rfl) (fun _ h => by cases h) parserBlanks_row_tie rfl ⟨rfl, rfl⟩ (by kernel_rfl) rfl
    (fun f fn hf hfn => by
      obtain rfl : f = 8 := Option.some.inj ((show Tryz.prog.funcNamed "rootcause/rootcauselaw07.ParserBlanks" = some 8 by kernel_rfl).symm.trans hf) |>.symm
      obtain rfl : fn = Tryz.f8 := (Option.some.inj (Tryz.func8.symm.trans hfn)).symm
      exact ⟨by kernel_rfl, fun j t ht => by
        rw [Tryz.params8] at ht
        rcases j with _ | _ | j
        · obtain rfl : t = 43 := by simpa using ht.symm
          exact (show Tryz.prog.wantsStandIn 43 = false by kernel_rfl)
        · obtain rfl : t = 40 := by simpa using ht.symm
          exact (show Tryz.prog.wantsStandIn 40 = false by kernel_rfl)
        · simp at ht⟩)
    (by kernel_rfl)
#print axioms card_holds
end parserBlanks
end Go.Proofs.YthhoebdlfjffkaaGreatDoor
