/- Proved: for every input, rootcauselaw08.TypesShapes returns true, and its arguments read as they did (the tied card TypesShapesCardSaid). Conditions: the card's own (the listed package variables read as the program's initialisers lay them, tied to the text), and no others. -/
import Derived.Test.YtohfacbajcenoaaDoorMf
import Derived.Test.YtohfacbajcenoaaDoorCards
set_option linter.all false
namespace Go.Proofs.YtohfacbajcenoaaDoor
open Go.RowKit Go.Par Go.Sx
theorem u8_of {x : D} (h : Ty.has (.int .u8) x) : ∃ y : UInt8, x = dU8 y := by
  simp only [Ty.has] at h
  obtain ⟨n, rfl, hn⟩ := h
  obtain ⟨a, rfl⟩ := has_u8 hn
  exact ⟨a, rfl⟩
theorem seq_of {α : Type} {f : α → D} {τ : Ty} {x : D} (k : ∀ y, Ty.has τ y → ∃ z, y = f z) (h : Ty.has (.seq τ) x) : ∃ l : List α, x = .seq τ.cells (l.map f) := by
  unfold Ty.has at h
  obtain ⟨ds, rfl, h1⟩ := h
  obtain ⟨l, rfl⟩ := list_of (f := f) fun x hx => k x (h1 x hx)
  exact ⟨l, rfl⟩
theorem cd_of {x : D} (h : Ty.has (.str [.int .u8, .seq (.int .u8)]) x) : ∃ y : Cd, x = dCd y := by
  rw [Ty.has] at h
  obtain ⟨ds, rfl, h⟩ := h
  simp only [Ty.hasL] at h
  obtain ⟨_, _, rfl, h1, _, _, rfl, h2, rfl⟩ := h
  obtain ⟨a, rfl⟩ := u8_of h1
  obtain ⟨l, rfl⟩ := seq_of (f := dU8) (fun _ => u8_of) h2
  exact ⟨⟨a, l⟩, rfl⟩
theorem prt_of {x : D} (h : Ty.has (.str [.int .u8, .int .u8, .seq (.str [.int .u8, .seq (.int .u8)]), .seq (.str [.int .u8, .seq (.int .u8)])]) x) : ∃ y : Prt, x = dPrt y := by
  rw [Ty.has] at h
  obtain ⟨ds, rfl, h⟩ := h
  simp only [Ty.hasL] at h
  obtain ⟨_, _, rfl, h1, _, _, rfl, h2, _, _, rfl, h3, _, _, rfl, h4, rfl⟩ := h
  obtain ⟨a, rfl⟩ := u8_of h1
  obtain ⟨b, rfl⟩ := u8_of h2
  obtain ⟨l, rfl⟩ := seq_of (f := dCd) (fun _ => cd_of) h3
  obtain ⟨m, rfl⟩ := seq_of (f := dCd) (fun _ => cd_of) h4
  exact ⟨⟨a, b, l, m⟩, rfl⟩
theorem pln_of {x : D} (h : Ty.has (.str [.int .u8, .seq (.int .u8), .seq (.str [.int .u8, .int .u8, .seq (.str [.int .u8, .seq (.int .u8)]), .seq (.str [.int .u8, .seq (.int .u8)])])]) x) : ∃ y : Pln, x = dPln y := by
  rw [Ty.has] at h
  obtain ⟨ds, rfl, h⟩ := h
  simp only [Ty.hasL] at h
  obtain ⟨_, _, rfl, h1, _, _, rfl, h2, _, _, rfl, h3, rfl⟩ := h
  obtain ⟨a, rfl⟩ := u8_of h1
  obtain ⟨l, rfl⟩ := seq_of (f := dU8) (fun _ => u8_of) h2
  obtain ⟨m, rfl⟩ := seq_of (f := dPrt) (fun _ => prt_of) h3
  exact ⟨⟨a, l, m⟩, rfl⟩
set_option maxRecDepth 100000 in
theorem open_plan {H : Type} {enc : TypeId × Value → H} {W : World} {b base : Nat} {sp : Nat → Bool} {held : Bool} {v : Value} {d : DataW H} {p : List MemPlace} (hv : Value.okWide Tryd.prog W .any b 25 v) (h : DataW.Trod enc Tryd.prog W base sp held 25 v d p) :
    ∃ (p : Pln) (cs : List Value), v = .agg cs.toArray ∧ Rep (allH W) (dPln p) cs := by
  obtain ⟨cs0, rfl, _⟩ := Go.WideShapes.okWide_struct Tryd.underlying25 hv
  obtain ⟨fuel, hf⟩ := h
  obtain ⟨d, hd, hr⟩ := Ty.opens W (.str [.int .u8, .seq (.int .u8), .seq (.str [.int .u8, .int .u8, .seq (.str [.int .u8, .seq (.int .u8)]), .seq (.str [.int .u8, .seq (.int .u8)])])]) 25 fuel _ _ (by kernel_rfl) (by kernel_rfl) hf
  obtain ⟨p, rfl⟩ := pln_of hd
  exact ⟨p, cs0.toList, by simp, hr⟩
set_option maxRecDepth 100000 in
theorem open_u8 {H : Type} {enc : TypeId × Value → H} {W : World} {b base : Nat} {sp : Nat → Bool} {held : Bool} {v : Value} {d : DataW H} {p : List MemPlace} (hv : Value.okWide Tryd.prog W .any b 5 v) (h : DataW.Trod enc Tryd.prog W base sp held 5 v d p) :
    ∃ n : UInt8, v = .int .u8 n.toNat := by
  obtain ⟨fuel, hf⟩ := h
  obtain ⟨d, hd, hr⟩ := Ty.opens W (.int .u8) 5 fuel _ _ (by kernel_rfl) (by kernel_rfl) hf
  simp only [Ty.has] at hd
  obtain ⟨n, rfl, hn⟩ := hd
  obtain ⟨n, rfl⟩ := has_u8 hn
  have hc := repV_inv hr
  have hs := Go.WideShapes.okWide_int Tryd.underlying5 hv
  obtain ⟨z, rfl, _⟩ := hs
  exact ⟨n, (List.cons.inj hc).1⟩
namespace typesShapes
open Go.ChangeShapes Go.WideShapes Go.ChangeAt Go.RowKit
open Go.ChangeMaps (open_string shut_string)
set_option maxRecDepth 100000 in
theorem lifted (os : Os) (started : os.Started) (H : Type) (enc : TypeId × Value → H) :
    ReturnsInHanded {} Tryd.checked os 4 .any (fun w args => (Rows.typesShapesSpec.pre enc Tryd.prog Tryd.f4 [] false w args ∧ laidMet Tryd.prog laids w) ∧ sizedMet enc Tryd.prog Tryd.f4 (OpenSpec.ofChange Rows.typesShapesSpec) false w args)
      (Rows.typesShapesSpec.post enc Tryd.prog Tryd.f4 false true false false) := by
  refine wrap (C := Tryd.checked) (X := fun w _ => laidMet Tryd.prog laids w) (fun _ _ _ hh h => h.of_heap hh) own started (by kernel_rfl) Tryd.func4
    (ChangeSpec.witness_shaped (enc := enc) (C := Tryd.checked) (os := os) (X := fun w _ => laidMet Tryd.prog laids w) false (World.laidAll Tryd.prog os laids) #[.agg #[.int .u8 0, .slice none 0 0, .slice none 0 0], .int .u8 0, .int .u8 0] 8 (World.laidAll_os _ _ _) (laid_shaped os _) (by kernel_rfl) (by kernel_rfl) (by kernel_rfl) (laid_met os _)) ?_
  intro W base args ds gs before hval0 hW hL hS
  have G := gl_of hL
  have g := gt_of hL
  have hval : ∀ (j : Nat) t v, Tryd.f4.params[j]? = some t → args[j]? = some v → Value.okWide Tryd.prog W .any base t v := hval0
  have hW' := hW
  obtain ⟨p, q, hA0, hV, rfl, hfz, hnd⟩ := hW
  have hA : DataW.TrodAll enc Tryd.prog W 0 (fun _ => true) true Tryd.f4.params.toList args.toList ds p := hA0
  rw [Tryd.params4] at hA hval
  obtain ⟨v0, v1, v2, d0, d1, d2, p0, p1, p2, rfl, rfl, rfl, h0, h1, h2⟩ := trodAll_three hA
  obtain ⟨rfl, rfl⟩ := trodVars_none hV
  have k0 := h0
  have hlt0 : ∀ x ∈ p0, x.block < W.heap.size := fun x hx => hW'.lt x (by simp [hx])
  have k1 := h1
  have hlt1 : ∀ x ∈ p1, x.block < W.heap.size := fun x hx => hW'.lt x (by simp [hx])
  have k2 := h2
  have hlt2 : ∀ x ∈ p2, x.block < W.heap.size := fun x hx => hW'.lt x (by simp [hx])
  obtain ⟨q0, cs0, e0, hr0⟩ := open_plan (hval 0 25 v0 rfl rfl) h0
  subst e0
  obtain ⟨n1, e1⟩ := open_u8 (hval 1 5 v1 rfl rfl) h1
  subst e1
  obtain ⟨n2, e2⟩ := open_u8 (hval 2 5 v2 rfl rfl) h2
  subst e2
  clear hA0 hval0
  simp only [List.append_nil, List.append_assoc] at hW'
  refine (typesShapes_any ((allH W).at W.heap.size) (gl_at _ G) q0 n1 n2 cs0 (hr0.relo _ (txt_pln q0)) W (Hp.at_agr (allH_agr W)) rfl).mono fun e W' ⟨he, hg⟩ => ?_
  subst he
  refine ⟨_, rfl, _, _, _, [], (p0 ++ (p1 ++ p2)), [], hW', ?_, ?_, rfl, ext_kept hg _, fun h => by cases h⟩
  · exact trodAll_mk1 (shut_bool Tryd.underlying4 _)
  · exact trodAll_mk3 (Below.trod laidOut (by kernel_rfl) (of_decide_eq_true (by kernel_rfl)) k0 hg.below hlt0) (Below.trod laidOut (by kernel_rfl) (of_decide_eq_true (by kernel_rfl)) k1 hg.below hlt1) (Below.trod laidOut (by kernel_rfl) (of_decide_eq_true (by kernel_rfl)) k2 hg.below hlt2)
theorem holds : Rows.TypesShapesSaid :=
  OpenClaim.holds_of_wide 4 Tryd.f4 rfl rfl rfl rfl rfl rfl rfl ⟨rfl, rfl, rfl, rfl, rfl⟩ rfl rfl rfl rfl rfl (by kernel_rfl) Tryd.func4 (by kernel_rfl)
    (of_decide_eq_true (by kernel_rfl)) (by unfold Func.isWrapper; first | (rw [if_pos (by decide +kernel)]; kernel_rfl) | (rw [if_neg (by decide +kernel)]; exact ⟨rfl, rfl⟩))
    (fun os started H enc _ => lifted os started H enc)
theorem card_holds : Rows.TypesShapesCardSaid :=
  Claim7.holds_tied_plain_at .later [] [.data, .data, .data, .data, .data, .data, .data] true (true, "6b97ef55fe42824f1da219efe6a67a8a3996f05028a685ba91c982e26bdd41b6") false
    holds (fun _ h => by cases h) (by kernel_rfl) (fun _ h => by cases h) typesShapes_row_tie rfl ⟨rfl, rfl⟩ (by kernel_rfl) rfl
    (fun f fn hf hfn => by
      obtain rfl : f = 4 := Option.some.inj ((show Tryd.prog.funcNamed "rootcause/rootcauselaw08.TypesShapes" = some 4 by kernel_rfl).symm.trans hf) |>.symm
      obtain rfl : fn = Tryd.f4 := (Option.some.inj (Tryd.func4.symm.trans hfn)).symm
      exact ⟨by kernel_rfl, fun j t ht => by
        rw [Tryd.params4] at ht
        rcases j with _ | _ | _ | j
        · obtain rfl : t = 25 := by simpa using ht.symm
          exact (show Tryd.prog.wantsStandIn 25 = false by kernel_rfl)
        · obtain rfl : t = 5 := by simpa using ht.symm
          exact (show Tryd.prog.wantsStandIn 5 = false by kernel_rfl)
        · obtain rfl : t = 5 := by simpa using ht.symm
          exact (show Tryd.prog.wantsStandIn 5 = false by kernel_rfl)
        · simp at ht⟩)
    (by kernel_rfl)
#print axioms card_holds
end typesShapes
end Go.Proofs.YtohfacbajcenoaaDoor
