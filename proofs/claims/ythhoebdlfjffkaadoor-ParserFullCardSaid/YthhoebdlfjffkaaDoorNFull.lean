/- Proved: for every input, rootcauselaw07.ParserFull returns true, and its arguments read as they did (the tied card ParserFullCardSaid). Conditions: the card's own (the listed package variables read as the program's initialisers lay them, tied to the text), and no others. -/
import Derived.Test.YthhoebdlfjffkaaDoorMe
import Derived.Test.YthhoebdlfjffkaaDoorCards
set_option linter.all false
namespace Go.Proofs.YthhoebdlfjffkaaDoor
open Go.RowKit Go.Par Go.Sx
theorem nd7_of {x : D} (h : Ty.has (.str [.int .u8, .int .u8, .int .u8, .int .u8, .int .u32]) x) : ∃ y : Nf, x = dNf y := by
  simp only [Ty.has, Ty.hasL] at h
  obtain ⟨_, rfl, _, _, rfl, ⟨a, rfl, ha⟩, _, _, rfl, ⟨b, rfl, hb⟩, _, _, rfl, ⟨c, rfl, hc⟩, _, _, rfl, ⟨d, rfl, hd⟩, _, _, rfl, ⟨n, rfl, hn⟩, rfl⟩ := h
  obtain ⟨a, rfl⟩ := has_u8 ha
  obtain ⟨b, rfl⟩ := has_u8 hb
  obtain ⟨c, rfl⟩ := has_u8 hc
  obtain ⟨d, rfl⟩ := has_u8 hd
  obtain ⟨n, rfl⟩ := has_u32 hn
  exact ⟨⟨a, b, c, d, n⟩, rfl⟩
set_option maxRecDepth 100000 in
theorem open_nodes7 {H : Type} {enc : TypeId × Value → H} {W : World} {b base : Nat} {sp : Nat → Bool} {held : Bool} {v : Value} {d : DataW H} {p : List MemPlace} (hv : Value.okWide Tryd.prog W .any b 22 v) (h : DataW.Trod enc Tryd.prog W base sp held 22 v d p) :
    ∃ l : List Nf, Rep (allH W) (.seq 5 (l.map dNf)) [v] := by
  obtain ⟨a0, n0, c0, rfl⟩ := Go.WideShapes.okWide_slice Tryd.underlying22 hv
  obtain ⟨fuel, hf⟩ := h
  obtain ⟨d, hd, hr⟩ := Ty.opens W (.seq (.str [.int .u8, .int .u8, .int .u8, .int .u8, .int .u32])) 22 fuel _ _ (by kernel_rfl) (by kernel_rfl) hf
  unfold Ty.has at hd
  obtain ⟨ds, rfl, h1⟩ := hd
  obtain ⟨l, rfl⟩ := list_of (f := dNf) fun x hx => nd7_of (h1 x hx)
  exact ⟨l, hr⟩
namespace parserFull
open Go.ChangeShapes Go.WideShapes Go.ChangeAt Go.RowKit
open Go.ChangeMaps (open_string shut_string)
set_option maxRecDepth 100000 in
theorem lifted (os : Os) (started : os.Started) (H : Type) (enc : TypeId × Value → H) :
    ReturnsInHanded {} Tryd.checked os 3 .any (fun w args => (Rows.parserFullSpec.pre enc Tryd.prog Tryd.f3 [] false w args ∧ laidMet Tryd.prog laids w) ∧ sizedMet enc Tryd.prog Tryd.f3 (OpenSpec.ofChange Rows.parserFullSpec) false w args)
      (Rows.parserFullSpec.post enc Tryd.prog Tryd.f3 false true false false) := by
  refine wrap (C := Tryd.checked) (X := fun w _ => laidMet Tryd.prog laids w) (fun _ _ _ hh h => h.of_heap hh) own started (by kernel_rfl) Tryd.func3
    (ChangeSpec.witness_shaped (enc := enc) (C := Tryd.checked) (os := os) (X := fun w _ => laidMet Tryd.prog laids w) false (World.laidAll Tryd.prog os laids) #[.slice none 0 0] 8 (World.laidAll_os _ _ _) (laid_shaped os _) (by kernel_rfl) (by kernel_rfl) (by kernel_rfl) (laid_met os _)) ?_
  intro W base args ds gs before hval0 hW hL hS
  have G := gl_of hL
  have hval : ∀ (j : Nat) t v, Tryd.f3.params[j]? = some t → args[j]? = some v → Value.okWide Tryd.prog W .any base t v := hval0
  have hW' := hW
  obtain ⟨p, q, hA0, hV, rfl, hfz, hnd⟩ := hW
  have hA : DataW.TrodAll enc Tryd.prog W 0 (fun _ => true) true Tryd.f3.params.toList args.toList ds p := hA0
  rw [Tryd.params3] at hA hval
  obtain ⟨v0, d0, rfl, rfl, h0⟩ := trodAll_one hA
  obtain ⟨rfl, rfl⟩ := trodVars_none hV
  have k0 := h0
  have hlt0 : ∀ x ∈ p, x.block < W.heap.size := fun x hx => hW'.lt x (by simp [hx])
  obtain ⟨l0, hr0⟩ := open_nodes7 (hval 0 22 v0 rfl rfl) h0
  clear hA0 hval0
  simp only [List.append_nil] at hW'
  refine (parserFull_any (allH W) G l0 v0 hr0 W (allH_agr W)).mono fun e W' ⟨he, hg⟩ => ?_
  subst he
  refine ⟨_, rfl, _, _, _, [], p, [], hW', ?_, ?_, rfl, ext_kept hg _, fun h => by cases h⟩
  · exact trodAll_mk1 (shut_bool Tryd.underlying4 _)
  · exact trodAll_mk1 (Below.trod laidOut (by kernel_rfl) (of_decide_eq_true (by kernel_rfl)) k0 hg.below hlt0)
theorem holds : Rows.ParserFullSaid :=
  OpenClaim.holds_of_wide 3 Tryd.f3 rfl rfl rfl rfl rfl rfl rfl ⟨rfl, rfl, rfl, rfl, rfl⟩ rfl rfl rfl rfl rfl (by kernel_rfl) Tryd.func3 (by kernel_rfl)
    (of_decide_eq_true (by kernel_rfl)) (by unfold Func.isWrapper; first | (rw [if_pos (by decide +kernel)]; kernel_rfl) | (rw [if_neg (by decide +kernel)]; exact ⟨rfl, rfl⟩))
    (fun os started H enc _ => lifted os started H enc)
theorem card_holds : Rows.ParserFullCardSaid :=
  Claim7.holds_tied_plain_at .later [] [.data, .data, .data, .data] true (true, "3698f556b884ae60a10a46cacceb8ce306cd819d03149b015a293fcacb6b30b5") false
    holds (fun _ h => by cases h) (by kernel_rfl) (fun _ h => by cases h) parserFull_row_tie rfl ⟨rfl, rfl⟩ (by kernel_rfl) rfl
    (fun f fn hf hfn => by
      obtain rfl : f = 3 := Option.some.inj ((show Tryd.prog.funcNamed "rootcause/rootcauselaw07.ParserFull" = some 3 by kernel_rfl).symm.trans hf) |>.symm
      obtain rfl : fn = Tryd.f3 := (Option.some.inj (Tryd.func3.symm.trans hfn)).symm
      exact ⟨by kernel_rfl, fun j t ht => by
        rw [Tryd.params3] at ht
        rcases j with _ | j
        · obtain rfl : t = 22 := by simpa using ht.symm
          exact (show Tryd.prog.wantsStandIn 22 = false by kernel_rfl)
        · simp at ht⟩)
    (by kernel_rfl)
#print axioms card_holds
end parserFull
end Go.Proofs.YthhoebdlfjffkaaDoor
