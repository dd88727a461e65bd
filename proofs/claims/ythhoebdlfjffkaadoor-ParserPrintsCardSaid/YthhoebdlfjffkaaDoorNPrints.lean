/- Proved: for every input, rootcauselaw07.ParserPrints returns true, and its arguments read as they did (the tied card ParserPrintsCardSaid). Conditions: the card's own (the listed package variables read as the program's initialisers lay them, tied to the text), and no others. -/
import Derived.Test.YthhoebdlfjffkaaDoorMe
import Derived.Test.YthhoebdlfjffkaaDoorCards
set_option linter.all false
namespace Go.Proofs.YthhoebdlfjffkaaDoor
open Go.RowKit Go.Par Go.Sx
theorem nd7_of {x : D} (h : Ty.has (.str [.int .u8, .int .u8, .int .u8, .int .u8, .int .u32]) x) : ∃ y : Nf, x = dNf y := by
  simp only [Ty.has, Ty.hasL] at h
  obtain ⟨_, rfl, _, _, rfl, ⟨a, rfl, ha⟩, _, _, rfl, ⟨b, rfl, hb⟩, _, _, rfl, ⟨c, rfl, hc⟩, _, _, rfl, ⟨d, rfl, hd⟩, _, _, rfl, ⟨n, rfl, hn⟩, rfl⟩ := h
  obtain ⟨a, rfl⟩ := has_u8 ha
  obtain ⟨b, rfl⟩ := has_u8 hb
  obtain ⟨c, rfl⟩ := has_u8 hc
  obtain ⟨d, rfl⟩ := has_u8 hd
  obtain ⟨n, rfl⟩ := has_u32 hn
  exact ⟨⟨a, b, c, d, n⟩, rfl⟩
set_option maxRecDepth 100000 in
theorem open_nodes7 {H : Type} {enc : TypeId × Value → H} {W : World} {b base : Nat} {sp : Nat → Bool} {held : Bool} {v : Value} {d : DataW H} {p : List MemPlace} (hv : Value.okWide Tryd.prog W .any b 22 v) (h : DataW.Trod enc Tryd.prog W base sp held 22 v d p) :
    ∃ l : List Nf, Rep (allH W) (.seq 5 (l.map dNf)) [v] := by
  obtain ⟨a0, n0, c0, rfl⟩ := Go.WideShapes.okWide_slice Tryd.underlying22 hv
  obtain ⟨fuel, hf⟩ := h
  obtain ⟨d, hd, hr⟩ := Ty.opens W (.seq (.str [.int .u8, .int .u8, .int .u8, .int .u8, .int .u32])) 22 fuel _ _ (by kernel_rfl) (by kernel_rfl) hf
  unfold Ty.has at hd
  obtain ⟨ds, rfl, h1⟩ := hd
  obtain ⟨l, rfl⟩ := list_of (f := dNf) fun x hx => nd7_of (h1 x hx)
  exact ⟨l, hr⟩
set_option maxRecDepth 100000 in
theorem open_u8 {H : Type} {enc : TypeId × Value → H} {W : World} {b base : Nat} {sp : Nat → Bool} {held : Bool} {v : Value} {d : DataW H} {p : List MemPlace} (hv : Value.okWide Tryd.prog W .any b 5 v) (h : DataW.Trod enc Tryd.prog W base sp held 5 v d p) :
    ∃ n : UInt8, v = .int .u8 n.toNat := by
  obtain ⟨fuel, hf⟩ := h
  obtain ⟨d, hd, hr⟩ := Ty.opens W (.int .u8) 5 fuel _ _ (by kernel_rfl) (by kernel_rfl) hf
  simp only [Ty.has] at hd
  obtain ⟨n, rfl, hn⟩ := hd
  obtain ⟨n, rfl⟩ := has_u8 hn
  have hc := repV_inv hr
  have hs := Go.WideShapes.okWide_int Tryd.underlying5 hv
  obtain ⟨z, rfl, _⟩ := hs
  exact ⟨n, (List.cons.inj hc).1⟩
namespace parserPrints
open Go.ChangeShapes Go.WideShapes Go.ChangeAt Go.RowKit
open Go.ChangeMaps (open_string shut_string)
set_option maxRecDepth 100000 in
theorem lifted (os : Os) (started : os.Started) (H : Type) (enc : TypeId × Value → H) :
    ReturnsInHanded {} Tryd.checked os 5 .any (fun w args => (Rows.parserPrintsSpec.pre enc Tryd.prog Tryd.f5 [] false w args ∧ laidMet Tryd.prog laids w) ∧ sizedMet enc Tryd.prog Tryd.f5 (OpenSpec.ofChange Rows.parserPrintsSpec) false w args)
      (Rows.parserPrintsSpec.post enc Tryd.prog Tryd.f5 false true false false) := by
  refine wrap (C := Tryd.checked) (X := fun w _ => laidMet Tryd.prog laids w) (fun _ _ _ hh h => h.of_heap hh) own started (by kernel_rfl) Tryd.func5
    (ChangeSpec.witness_shaped (enc := enc) (C := Tryd.checked) (os := os) (X := fun w _ => laidMet Tryd.prog laids w) false (World.laidAll Tryd.prog os laids) #[.slice none 0 0, .int .u8 0] 8 (World.laidAll_os _ _ _) (laid_shaped os _) (by kernel_rfl) (by kernel_rfl) (by kernel_rfl) (laid_met os _)) ?_
  intro W base args ds gs before hval0 hW hL hS
  have G := gl_of hL
  have g := gt_of hL
  have hval : ∀ (j : Nat) t v, Tryd.f5.params[j]? = some t → args[j]? = some v → Value.okWide Tryd.prog W .any base t v := hval0
  have hW' := hW
  obtain ⟨p, q, hA0, hV, rfl, hfz, hnd⟩ := hW
  have hA : DataW.TrodAll enc Tryd.prog W 0 (fun _ => true) true Tryd.f5.params.toList args.toList ds p := hA0
  rw [Tryd.params5] at hA hval
  obtain ⟨v0, v1, d0, d1, p0, p1, rfl, rfl, rfl, h0, h1⟩ := trodAll_two hA
  obtain ⟨rfl, rfl⟩ := trodVars_none hV
  have k0 := h0
  have hlt0 : ∀ x ∈ p0, x.block < W.heap.size := fun x hx => hW'.lt x (by simp [hx])
  have k1 := h1
  have hlt1 : ∀ x ∈ p1, x.block < W.heap.size := fun x hx => hW'.lt x (by simp [hx])
  obtain ⟨l0, hr0⟩ := open_nodes7 (hval 0 22 v0 rfl rfl) h0
  obtain ⟨n1, e1⟩ := open_u8 (hval 1 5 v1 rfl rfl) h1
  subst e1
  clear hA0 hval0
  simp only [List.append_nil] at hW'
  refine (parserPrints_any (allH W) G g l0 n1 v0 hr0 W (allH_agr W)).mono fun e W' ⟨he, hg⟩ => ?_
  subst he
  refine ⟨_, rfl, _, _, _, [], (p0 ++ p1), [], hW', ?_, ?_, rfl, ext_kept hg _, fun h => by cases h⟩
  · exact trodAll_mk1 (shut_bool Tryd.underlying4 _)
  · exact trodAll_mk2 (Below.trod laidOut (by kernel_rfl) (of_decide_eq_true (by kernel_rfl)) k0 hg.below hlt0) (Below.trod laidOut (by kernel_rfl) (of_decide_eq_true (by kernel_rfl)) k1 hg.below hlt1)
theorem holds : Rows.ParserPrintsSaid :=
  OpenClaim.holds_of_wide 5 Tryd.f5 rfl rfl rfl rfl rfl rfl rfl ⟨rfl, rfl, rfl, rfl, rfl⟩ rfl rfl rfl rfl rfl (by kernel_rfl) Tryd.func5 (by kernel_rfl)
    (of_decide_eq_true (by kernel_rfl)) (by unfold Func.isWrapper; first | (rw [if_pos (by decide +kernel)]; kernel_rfl) | (rw [if_neg (by decide +kernel)]; exact ⟨rfl, rfl⟩))
    (fun os started H enc _ => lifted os started H enc)
theorem card_holds : Rows.ParserPrintsCardSaid :=
  Claim7.holds_tied_plain_at .later [] [.data, .data, .data, .data, .data, .data, .data] true (true, "3698f556b884ae60a10a46cacceb8ce306cd819d03149b015a293fcacb6b30b5") false
    holds (fun _ h => by cases h) (by kernel_rfl) (fun _ h => by cases h) parserPrints_row_tie rfl ⟨rfl, rfl⟩ (by kernel_rfl) rfl
    (fun f fn hf hfn => by
      obtain rfl : f = 5 := Option.some.inj ((show Tryd.prog.funcNamed "rootcause/rootcauselaw07.ParserPrints" = some 5 by kernel_rfl).symm.trans hf) |>.symm
      obtain rfl : fn = Tryd.f5 := (Option.some.inj (Tryd.func5.symm.trans hfn)).symm
      exact ⟨by kernel_rfl, fun j t ht => by
        rw [Tryd.params5] at ht
        rcases j with _ | _ | j
        · obtain rfl : t = 22 := by simpa using ht.symm
          exact (show Tryd.prog.wantsStandIn 22 = false by kernel_rfl)
        · obtain rfl : t = 5 := by simpa using ht.symm
          exact (show Tryd.prog.wantsStandIn 5 = false by kernel_rfl)
        · simp at ht⟩)
    (by kernel_rfl)
#print axioms card_holds
end parserPrints
end Go.Proofs.YthhoebdlfjffkaaDoor
