/- Proved: for every input, rootcauselaw07.ParserFleets returns true, and its arguments read as they did (the tied card ParserFleetsCardSaid). Conditions: the card's own (the listed package variables read as the program's initialisers lay them, tied to the text), and no others. -/
import Derived.Test.YthhoebdlfjffkaaGreatDoorMh
import Derived.Test.YthhoebdlfjffkaaGreatDoorCards
set_option linter.all false
namespace Go.Proofs.YthhoebdlfjffkaaGreatDoor
open Go.RowKit Go.Par Go.Sx
theorem wO {x : D} (h : Ty.has (.int .u8) x) : ∃ y : UInt8, x = dU8 y := by
  simp only [Ty.has] at h
  obtain ⟨n, rfl, hn⟩ := h
  obtain ⟨a, rfl⟩ := UH hn
  exact ⟨a, rfl⟩
theorem uG {α : Type} {f : α → D} {τ : Ty} {x : D} (k : ∀ y, Ty.has τ y → ∃ z, y = f z) (h : Ty.has (.seq τ) x) : ∃ l : List α, x = .seq τ.cells (l.map f) := by
  unfold Ty.has at h
  obtain ⟨ds, rfl, h1⟩ := h
  obtain ⟨l, rfl⟩ := FZ (f := f) fun x hx => k x (h1 x hx)
  exact ⟨l, rfl⟩
theorem SK {x : D} (h : Ty.has (.str [.int .u8, .seq (.int .u8)]) x) : ∃ y : Cd, x = dCd y := by
  rw [Ty.has] at h
  obtain ⟨ds, rfl, h⟩ := h
  simp only [Ty.hasL] at h
  obtain ⟨_, _, rfl, h1, _, _, rfl, h2, rfl⟩ := h
  obtain ⟨a, rfl⟩ := wO h1
  obtain ⟨l, rfl⟩ := uG (f := dU8) (fun _ => wO) h2
  exact ⟨⟨a, l⟩, rfl⟩
theorem TI {x : D} (h : Ty.has (.str [.int .u8, .int .u8, .seq (.str [.int .u8, .seq (.int .u8)]), .seq (.str [.int .u8, .seq (.int .u8)])]) x) : ∃ y : Prt, x = sY y := by
  rw [Ty.has] at h
  obtain ⟨ds, rfl, h⟩ := h
  simp only [Ty.hasL] at h
  obtain ⟨_, _, rfl, h1, _, _, rfl, h2, _, _, rfl, h3, _, _, rfl, h4, rfl⟩ := h
  obtain ⟨a, rfl⟩ := wO h1
  obtain ⟨b, rfl⟩ := wO h2
  obtain ⟨l, rfl⟩ := uG (f := dCd) (fun _ => SK) h3
  obtain ⟨m, rfl⟩ := uG (f := dCd) (fun _ => SK) h4
  exact ⟨⟨a, b, l, m⟩, rfl⟩
theorem TJ {x : D} (h : Ty.has (.str [.int .u8, .seq (.int .u8), .seq (.str [.int .u8, .int .u8, .seq (.str [.int .u8, .seq (.int .u8)]), .seq (.str [.int .u8, .seq (.int .u8)])])]) x) : ∃ y : Pln, x = EL y := by
  rw [Ty.has] at h
  obtain ⟨ds, rfl, h⟩ := h
  simp only [Ty.hasL] at h
  obtain ⟨_, _, rfl, h1, _, _, rfl, h2, _, _, rfl, h3, rfl⟩ := h
  obtain ⟨a, rfl⟩ := wO h1
  obtain ⟨l, rfl⟩ := uG (f := dU8) (fun _ => wO) h2
  obtain ⟨m, rfl⟩ := uG (f := sY) (fun _ => TI) h3
  exact ⟨⟨a, l, m⟩, rfl⟩
set_option maxRecDepth 100000 in
theorem IK {H : Type} {enc : TypeId × Value → H} {W : World} {b base : Nat} {sp : Nat → Bool} {held : Bool} {v : Value} {d : DataW H} {p : List MemPlace} (hv : Value.okWide Tryz.prog W .any b 43 v) (h : DataW.Trod enc Tryz.prog W base sp held 43 v d p) :
    ∃ (p : Pln) (cs : List Value), v = .agg cs.toArray ∧ Rep (AB W) (EL p) cs := by
  obtain ⟨cs0, rfl, _⟩ := Go.WideShapes.okWide_struct Tryz.underlying43 hv
  obtain ⟨fuel, hf⟩ := h
  obtain ⟨d, hd, hr⟩ := Ty.opens W (.str [.int .u8, .seq (.int .u8), .seq (.str [.int .u8, .int .u8, .seq (.str [.int .u8, .seq (.int .u8)]), .seq (.str [.int .u8, .seq (.int .u8)])])]) 43 fuel _ _ (by kernel_rfl) (by kernel_rfl) hf
  obtain ⟨p, rfl⟩ := TJ hd
  exact ⟨p, cs0.toList, by simp, hr⟩
namespace parserFleets
open Go.ChangeShapes Go.WideShapes Go.ChangeAt Go.RowKit
open Go.ChangeMaps (open_string shut_string)
set_option maxRecDepth 100000 in
theorem lifted (os : Os) (started : os.Started) (H : Type) (enc : TypeId × Value → H) :
    ReturnsInHanded {} Tryz.checked os 6 .any (fun w args => (Rows.parserFleetsSpec.pre enc Tryz.prog Tryz.f6 [] false w args ∧ laidMet Tryz.prog qQ w) ∧ sizedMet enc Tryz.prog Tryz.f6 (OpenSpec.ofChange Rows.parserFleetsSpec) false w args)
      (Rows.parserFleetsSpec.post enc Tryz.prog Tryz.f6 false true false false) := by
  refine wrap (C := Tryz.checked) (X := fun w _ => laidMet Tryz.prog qQ w) (fun _ _ _ hh h => h.of_heap hh) own started (by kernel_rfl) Tryz.func6
    (ChangeSpec.witness_shaped (enc := enc) (C := Tryz.checked) (os := os) (X := fun w _ => laidMet Tryz.prog qQ w) false (World.laidAll Tryz.prog os qQ) #[.agg #[.int .u8 0, .slice none 0 0, .slice none 0 0]] 8 (World.laidAll_os _ _ _) (BZ os _) (by kernel_rfl) (by kernel_rfl) (by kernel_rfl) (MR os _)) ?_
  intro W base args ds gs before hval0 hW hL hS
  have G := WC hL
  have g := VZ hL
  have hval : ∀ (j : Nat) t v, Tryz.f6.params[j]? = some t → args[j]? = some v → Value.okWide Tryz.prog W .any base t v := hval0
  have hW' := hW
  obtain ⟨p, q, hA0, hV, rfl, hfz, hnd⟩ := hW
  have hA : DataW.TrodAll enc Tryz.prog W 0 (fun _ => true) true Tryz.f6.params.toList args.toList ds p := hA0
  rw [Tryz.params6] at hA hval
  obtain ⟨v0, d0, rfl, rfl, h0⟩ := trodAll_one hA
  obtain ⟨rfl, rfl⟩ := trodVars_none hV
  have k0 := h0
  have hlt0 : ∀ x ∈ p, x.block < W.heap.size := fun x hx => hW'.lt x (by simp [hx])
  obtain ⟨q0, cs0, e0, hr0⟩ := IK (hval 0 43 v0 rfl rfl) h0
  subst e0
  clear hA0 hval0
  simp only [List.append_nil] at hW'
  refine (rP (AB W) G g q0 cs0 hr0 W (OL W)).mono fun e W' ⟨he, hg⟩ => ?_
  subst he
  refine ⟨_, rfl, _, _, _, [], p, [], hW', ?_, ?_, rfl, NH hg _, fun h => by cases h⟩
  · exact trodAll_mk1 (shut_bool Tryz.underlying4 _)
  · exact trodAll_mk1 (Below.trod QL (by kernel_rfl) (of_decide_eq_true (by kernel_rfl)) k0 hg.below hlt0)
theorem holds : Rows.ParserFleetsSaid :=
  OpenClaim.holds_of_wide 6 Tryz.f6 rfl rfl rfl rfl rfl rfl rfl ⟨rfl, rfl, rfl, rfl, rfl⟩ rfl rfl rfl rfl rfl (by kernel_rfl) Tryz.func6 (by kernel_rfl)
    (of_decide_eq_true (by kernel_rfl)) (by unfold Func.isWrapper; first | (rw [if_pos (by decide +kernel)]; kernel_rfl) | (rw [if_neg (by decide +kernel)]; exact ⟨rfl, rfl⟩))
    (fun os started H enc _ => lifted os started H enc)
theorem card_holds : Rows.ParserFleetsCardSaid :=
  Claim7.holds_tied_plain_at .later [] [.data, .data, .data, .data, .data, .data, .data] true (true, "b5223c05784295d3e10bc5ace5d4a7dc5f77fe4b5c57139d02a6d0d21167e338") false
    holds (fun _ h => by cases h) (by kernel_rfl) (fun _ h => by cases h) parserFleets_row_tie rfl ⟨rfl, rfl⟩ (by kernel_rfl) rfl
    (fun f fn hf hfn => by
      obtain rfl : f = 6 := Option.some.inj ((show Tryz.prog.funcNamed "rootcause/rootcauselaw07.ParserFleets" = some 6 by kernel_rfl).symm.trans hf) |>.symm
      obtain rfl : fn = Tryz.f6 := (Option.some.inj (Tryz.func6.symm.trans hfn)).symm
      exact ⟨by kernel_rfl, fun j t ht => by
        rw [Tryz.params6] at ht
        rcases j with _ | j
        · obtain rfl : t = 43 := by simpa using ht.symm
          exact (show Tryz.prog.wantsStandIn 43 = false by kernel_rfl)
        · simp at ht⟩)
    (by kernel_rfl)
#print axioms card_holds
end parserFleets
end Go.Proofs.YthhoebdlfjffkaaGreatDoor
