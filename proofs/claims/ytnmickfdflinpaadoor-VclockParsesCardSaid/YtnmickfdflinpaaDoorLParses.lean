/- Proved: for every input, rootcauselaw23.VclockParses returns true, and its arguments read as they did (the tied card VclockParsesCardSaid). Conditions: the card's own (seven variables of the library read as the program's initialisers lay them, tied to the text), and no others. -/
import Derived.Test.YtnmickfdflinpaaDoorUD
import Derived.Test.YtnmickfdflinpaaDoorW0
import Derived.Test.YtnmickfdflinpaaDoorCards
namespace Go.Proofs.YtnmickfdflinpaaDoor
open Go.RowKit Go.Par Go.Sx
section
open Go.ChangeShapes Go.WideShapes
open Go.ChangeMaps (open_string)
variable {H : Type} {enc : TypeId × Value → H}
set_option maxRecDepth 100000 in
theorem open_s {W : World} {b base : Nat} {sp : Nat → Bool} {held : Bool} {v : Value} {d : DataW H} {p : List MemPlace}
    (hv : Value.okWide Tryd.prog W .any b 9 v) (h : DataW.Trod enc Tryd.prog W base sp held 9 v d p) : ∃ l : List UInt8, v = strV l := by
  obtain ⟨s, rfl, -⟩ := open_string Tryd.underlying9 hv h
  exact ⟨s.data.toList, rfl⟩
end
namespace vclockParses
open Go.ChangeShapes Go.WideShapes Go.ChangeAt Go.RowKit
open Go.ChangeMaps (open_string shut_string)
set_option maxRecDepth 100000 in
theorem lifted (os : Os) (started : os.Started) (H : Type) (enc : TypeId × Value → H) :
    ReturnsInHanded {} Tryd.checked os 6 .any (fun w args => (Rows.vclockParsesSpec.pre enc Tryd.prog Tryd.f6 [] false w args ∧ laidMet Tryd.prog laids w) ∧ sizedMet enc Tryd.prog Tryd.f6 (OpenSpec.ofChange Rows.vclockParsesSpec) false w args)
      (Rows.vclockParsesSpec.post enc Tryd.prog Tryd.f6 false true false false) := by
  refine wrap (C := Tryd.checked) (X := fun w _ => laidMet Tryd.prog laids w) (fun _ _ _ hh h => h.of_heap hh) own started (by kernel_rfl) Tryd.func6
    (ChangeSpec.witness_shaped (enc := enc) (C := Tryd.checked) (os := os) (X := fun w _ => laidMet Tryd.prog laids w) false (World.laidAll Tryd.prog os laids) #[.string ⟨#[]⟩] 8 (World.laidAll_os _ _ _) (laid_shaped os _) (by kernel_rfl) (by kernel_rfl) (by kernel_rfl) (laid_met os _)) ?_
  intro W base args ds gs before hval0 hW hL hS
  have G : Globs W := globs_of hL hS
  have hval : ∀ (j : Nat) t v, Tryd.f6.params[j]? = some t → args[j]? = some v → Value.okWide Tryd.prog W .any base t v := hval0
  have hW' := hW
  obtain ⟨p, q, hA0, hV, rfl, hfz, hnd⟩ := hW
  have hA : DataW.TrodAll enc Tryd.prog W 0 (fun _ => true) true Tryd.f6.params.toList args.toList ds p := hA0
  rw [Tryd.params6] at hA hval
  obtain ⟨v0, d0, rfl, rfl, h0⟩ := trodAll_one hA
  obtain ⟨rfl, rfl⟩ := trodVars_none hV
  have k0 := h0
  have hlt0 : ∀ x ∈ p, x.block < W.heap.size := fun x hx => hW'.lt x (by simp [hx])
  obtain ⟨l0, rfl⟩ := open_s (hval 0 9 v0 rfl rfl) h0
  clear hA0 hval0
  simp only [List.append_nil] at hW'
  refine (parses_any l0 W G).mono fun e W' ⟨he, hg⟩ => ?_
  subst he
  refine ⟨_, rfl, _, _, _, [], p, [], hW', ?_, ?_, rfl, ext_kept hg _, fun h => by cases h⟩
  · exact trodAll_mk1 (shut_bool Tryd.underlying4 _)
  · exact trodAll_mk1 (Below.trod laidOut (by kernel_rfl) (of_decide_eq_true (by kernel_rfl)) k0 hg.below hlt0)

theorem holds : Rows.VclockParsesSaid :=
  OpenClaim.holds_of_wide 6 Tryd.f6 rfl rfl rfl rfl rfl rfl rfl ⟨rfl, rfl, rfl, rfl, rfl⟩ rfl rfl rfl rfl rfl (by kernel_rfl) Tryd.func6 (by kernel_rfl)
    (of_decide_eq_true (by kernel_rfl)) (by unfold Func.isWrapper; first | (rw [if_pos (by decide +kernel)]; kernel_rfl) | (rw [if_neg (by decide +kernel)]; exact ⟨rfl, rfl⟩))
    (fun os started H enc _ => lifted os started H enc)

theorem card_holds : Rows.VclockParsesCardSaid :=
  Claim7.holds_tied_plain_at .later [] [.data, .data, .data, .data, .sentinel, .sentinel, .pinned] true (true, "fef0a28907a101c8cdd0a8453dd32babd4b404979dd6f6ee4eb1d9acfe976716") true
    holds (fun _ h => by cases h) (by kernel_rfl) (fun _ h => by cases h) vclockParses_row_tie rfl ⟨rfl, rfl⟩ (by kernel_rfl) rfl
    (fun f fn hf hfn => by
      obtain rfl : f = 6 := Option.some.inj ((show Tryd.prog.funcNamed "rootcause/rootcauselaw23.VclockParses" = some 6 by kernel_rfl).symm.trans hf) |>.symm
      obtain rfl : fn = Tryd.f6 := (Option.some.inj (Tryd.func6.symm.trans hfn)).symm
      exact ⟨by kernel_rfl, fun j t ht => by
        rw [Tryd.params6] at ht
        rcases j with _ | j
        · obtain rfl : t = 9 := by simpa using ht.symm
          exact (show Tryd.prog.wantsStandIn 9 = false by kernel_rfl)
        · simp at ht⟩)
    (by kernel_rfl)
#print axioms card_holds
end vclockParses
end Go.Proofs.YtnmickfdflinpaaDoor
