/- Proved: for every input, rootcauselaw07.ParserChanges returns true, and its arguments read as they did (the tied card ParserChangesCardSaid). Conditions: the card's own (the listed package variables read as the program's initialisers lay them, tied to the text), and no others. -/
import Derived.Test.YthhoebdlfjffkaaGreatDoorMj
import Derived.Test.YthhoebdlfjffkaaGreatDoorCards
set_option linter.all false
namespace Go.Proofs.YthhoebdlfjffkaaGreatDoor
open Go.RowKit Go.Par Go.Sx
theorem WV {x : D} (h : Ty.has (.int .u8) x) : ∃ y : UInt8, x = dU8 y := by
  simp only [Ty.has] at h
  obtain ⟨n, rfl, hn⟩ := h
  obtain ⟨a, rfl⟩ := cD5 hn
  exact ⟨a, rfl⟩
theorem OB {α : Type} {f : α -> D} {τ : Ty} {x : D} (k : ∀ y, Ty.has τ y -> ∃ z, y = f z) (h : Ty.has (.seq τ) x) : ∃ l : List α, x = .seq τ.cells (l.map f) := by
  unfold Ty.has at h
  obtain ⟨ds, rfl, h1⟩ := h
  obtain ⟨l, rfl⟩ := bG2 (f := f) λx hx => k x (h1 x hx)
  exact ⟨l, rfl⟩
theorem cT9 {x : D} (h : Ty.has (.str [.int .u8, .seq (.int .u8)]) x) : ∃ y : Cd, x = dCd y := by
  rw [Ty.has] at h
  obtain ⟨ds, rfl, h⟩ := h
  simp only [Ty.hasL] at h
  obtain ⟨_, _, rfl, h1, _, _, rfl, h2, rfl⟩ := h
  obtain ⟨a, rfl⟩ := WV h1
  obtain ⟨l, rfl⟩ := OB (f := dU8) (λ_ => WV) h2
  exact ⟨⟨a, l⟩, rfl⟩
theorem cW1 {x : D} (h : Ty.has (.str [.int .u8, .int .u8, .seq (.str [.int .u8, .seq (.int .u8)]), .seq (.str [.int .u8, .seq (.int .u8)])]) x) : ∃ y : Prt, x = QX y := by
  rw [Ty.has] at h
  obtain ⟨ds, rfl, h⟩ := h
  simp only [Ty.hasL] at h
  obtain ⟨_, _, rfl, h1, _, _, rfl, h2, _, _, rfl, h3, _, _, rfl, h4, rfl⟩ := h
  obtain ⟨a, rfl⟩ := WV h1
  obtain ⟨b, rfl⟩ := WV h2
  obtain ⟨l, rfl⟩ := OB (f := dCd) (λ_ => cT9) h3
  obtain ⟨m, rfl⟩ := OB (f := dCd) (λ_ => cT9) h4
  exact ⟨⟨a, b, l, m⟩, rfl⟩
theorem cW2 {x : D} (h : Ty.has (.str [.int .u8, .seq (.int .u8), .seq (.str [.int .u8, .int .u8, .seq (.str [.int .u8, .seq (.int .u8)]), .seq (.str [.int .u8, .seq (.int .u8)])])]) x) : ∃ y : Pln, x = aX1 y := by
  rw [Ty.has] at h
  obtain ⟨ds, rfl, h⟩ := h
  simp only [Ty.hasL] at h
  obtain ⟨_, _, rfl, h1, _, _, rfl, h2, _, _, rfl, h3, rfl⟩ := h
  obtain ⟨a, rfl⟩ := WV h1
  obtain ⟨l, rfl⟩ := OB (f := dU8) (λ_ => WV) h2
  obtain ⟨m, rfl⟩ := OB (f := QX) (λ_ => cW1) h3
  exact ⟨⟨a, l, m⟩, rfl⟩
set_option maxRecDepth 100000 in
theorem bM1 {H : Type} {enc : TypeId × Value -> H} {W : World} {b base : Nat} {sp : Nat -> Bool} {held : Bool} {v : Value} {d : DataW H} {p : List MemPlace} (hv : Value.okWide Tryz.prog W .any b 43 v) (h : DataW.Trod enc Tryz.prog W base sp held 43 v d p) :
    ∃ (p : Pln) (cs : List Value), v = .agg cs.toArray /\ Rep (WD W) (aX1 p) cs := by
  obtain ⟨cs0, rfl, _⟩ := Go.WideShapes.okWide_struct Tryz.underlying43 hv
  obtain ⟨fuel, hf⟩ := h
  obtain ⟨d, hd, hr⟩ := Ty.opens W (.str [.int .u8, .seq (.int .u8), .seq (.str [.int .u8, .int .u8, .seq (.str [.int .u8, .seq (.int .u8)]), .seq (.str [.int .u8, .seq (.int .u8)])])]) 43 fuel _ _ (by kernel_rfl) (by kernel_rfl) hf
  obtain ⟨p, rfl⟩ := cW2 hd
  exact ⟨p, cs0.toList, by simp, hr⟩
theorem cO6 {n : Int} (h : (Lit.int .u16 n).wf = true) : ∃ x : UInt16, n = x.toNat := by
  have e1 : IntKind.u16.min = 0 := rfl
  have e2 : IntKind.u16.max = 65535 := rfl
  simp only [Lit.wf, e1, e2, Bool.and_eq_true, decide_eq_true_eq] at h
  exact ⟨UInt16.ofNat n.toNat, by simp [UInt16.toNat_ofNat']; omega⟩
theorem cZ6 {x : D} (h : Ty.has (.str [.int .u16, .int .u8, .strg]) x) : ∃ y : Chg, x = aP1 y := by
  rw [Ty.has] at h
  obtain ⟨ds, rfl, h⟩ := h
  simp only [Ty.hasL] at h
  obtain ⟨_, _, rfl, h1, _, _, rfl, h2, _, _, rfl, h3, rfl⟩ := h
  simp only [Ty.has] at h1 h2 h3
  obtain ⟨a, rfl, ha⟩ := h1
  obtain ⟨a, rfl⟩ := cO6 ha
  obtain ⟨b, rfl, hb⟩ := h2
  obtain ⟨b, rfl⟩ := cD5 hb
  obtain ⟨s, rfl⟩ := h3
  exact ⟨⟨a, b, s.data.toList⟩, by rw [aP1, cJ]⟩
set_option maxRecDepth 100000 in
theorem bM2 {H : Type} {enc : TypeId × Value -> H} {W : World} {b base : Nat} {sp : Nat -> Bool} {held : Bool} {v : Value} {d : DataW H} {p : List MemPlace} (hv : Value.okWide Tryz.prog W .any b 60 v) (h : DataW.Trod enc Tryz.prog W base sp held 60 v d p) :
    ∃ l : List Chg, Rep (WD W) (.seq 3 (l.map aP1)) [v] := by
  obtain ⟨a0, n0, c0, rfl⟩ := Go.WideShapes.okWide_slice Tryz.underlying60 hv
  obtain ⟨fuel, hf⟩ := h
  obtain ⟨d, hd, hr⟩ := Ty.opens W (.seq (.str [.int .u16, .int .u8, .strg])) 60 fuel _ _ (by kernel_rfl) (by kernel_rfl) hf
  obtain ⟨l, rfl⟩ := OB (f := aP1) (λ_ => cZ6) hd
  exact ⟨l, hr⟩
namespace parserChanges
open Go.ChangeShapes Go.WideShapes Go.ChangeAt Go.RowKit
open Go.ChangeMaps (open_string shut_string)
set_option maxRecDepth 100000 in
theorem lifted (os : Os) (started : os.Started) (H : Type) (enc : TypeId × Value -> H) :
    ReturnsInHanded {} Tryz.checked os 7 .any (λw args => (Rows.parserChangesSpec.pre enc Tryz.prog Tryz.f7 [] false w args /\ laidMet Tryz.prog MO w) /\ sizedMet enc Tryz.prog Tryz.f7 (OpenSpec.ofChange Rows.parserChangesSpec) false w args)
      (Rows.parserChangesSpec.post enc Tryz.prog Tryz.f7 false true false false) := by
  refine wrap (C := Tryz.checked) (X := λw _ => laidMet Tryz.prog MO w) (λ_ _ _ hh h => h.of_heap hh) own started (by kernel_rfl) Tryz.func7
    (ChangeSpec.witness_shaped (enc := enc) (C := Tryz.checked) (os := os) (X := λw _ => laidMet Tryz.prog MO w) false (World.laidAll Tryz.prog os MO) #[.agg #[.int .u8 0, .slice none 0 0, .slice none 0 0], .slice none 0 0] 8 (World.laidAll_os _ _ _) (aM8 os _) (by kernel_rfl) (by kernel_rfl) (by kernel_rfl) (cC5 os _)) ?_
  intro W base args ds gs before hval0 hW hL hS
  have G := dD3 hL
  have g := dD0 hL
  have hval : ∀ (j : Nat) t v, Tryz.f7.params[j]? = some t -> args[j]? = some v -> Value.okWide Tryz.prog W .any base t v := hval0
  have hW' := hW
  obtain ⟨p, q, hA0, hV, rfl, hfz, hnd⟩ := hW
  have hA : DataW.TrodAll enc Tryz.prog W 0 (λ_ => true) true Tryz.f7.params.toList args.toList ds p := hA0
  rw [Tryz.params7] at hA hval
  obtain ⟨v0, v1, d0, d1, p0, p1, rfl, rfl, rfl, h0, h1⟩ := trodAll_two hA
  obtain ⟨rfl, rfl⟩ := trodVars_none hV
  have k0 := h0
  have hlt0 : ∀ x ∈ p0, x.block < W.heap.size := λx hx => hW'.lt x (by simp [hx])
  have k1 := h1
  have hlt1 : ∀ x ∈ p1, x.block < W.heap.size := λx hx => hW'.lt x (by simp [hx])
  obtain ⟨q0, cs0, e0, hr0⟩ := bM1 (hval 0 43 v0 rfl rfl) h0
  subst e0
  obtain ⟨l1, hr1⟩ := bM2 (hval 1 60 v1 rfl rfl) h1
  clear hA0 hval0
  simp only [List.append_nil] at hW'
  refine (MG (WD W) G g q0 l1 cs0 v1 hr0 hr1 W (cH3 W)).mono λe W' ⟨he, hg⟩ => ?_
  subst he
  refine ⟨_, rfl, _, _, _, [], (p0 ++ p1), [], hW', ?_, ?_, rfl, cF0 hg _, λh => by cases h⟩
  · exact trodAll_mk1 (shut_bool Tryz.underlying4 _)
  · exact trodAll_mk2 (Below.trod bG6 (by kernel_rfl) (of_decide_eq_true (by kernel_rfl)) k0 hg.below hlt0) (Below.trod bG6 (by kernel_rfl) (of_decide_eq_true (by kernel_rfl)) k1 hg.below hlt1)
theorem holds : Rows.ParserChangesSaid :=
  OpenClaim.holds_of_wide 7 Tryz.f7 rfl rfl rfl rfl rfl rfl rfl ⟨rfl, rfl, rfl, rfl, rfl⟩ rfl rfl rfl rfl rfl (by kernel_rfl) Tryz.func7 (by kernel_rfl)
    (of_decide_eq_true (by kernel_rfl)) (by unfold Func.isWrapper; first | (rw [if_pos (by decide +kernel)]; kernel_rfl) | (rw [if_neg (by decide +kernel)]; exact ⟨rfl, rfl⟩))
    (λos started H enc _ => lifted os started H enc)
theorem card_holds : Rows.ParserChangesCardSaid :=
  Claim7.holds_tied_plain_at .later [] [.data, .data, .data, .data, .data, .data, .data] true (true, "b5223c05784295d3e10bc5ace5d4a7dc5f77fe4b5c57139d02a6d0d21167e338") false
    holds (λ_ h => by cases h) (by kernel_rfl) (λ_ h => by cases h) parserChanges_row_tie rfl ⟨rfl, rfl⟩ (by kernel_rfl) rfl
    (λf fn hf hfn => by
      obtain rfl : f = 7 := Option.some.inj ((show Tryz.prog.funcNamed "rootcause/rootcauselaw07.ParserChanges" = some 7 by kernel_rfl).symm.trans hf) |>.symm
      obtain rfl : fn = Tryz.f7 := (Option.some.inj (Tryz.func7.symm.trans hfn)).symm
      exact ⟨by kernel_rfl, λj t ht => by
        rw [Tryz.params7] at ht
        rcases j with _ | _ | j
        · obtain rfl : t = 43 := by simpa using ht.symm
          exact (show Tryz.prog.wantsStandIn 43 = false by kernel_rfl)
        · obtain rfl : t = 60 := by simpa using ht.symm
          exact (show Tryz.prog.wantsStandIn 60 = false by kernel_rfl)
        · simp at ht⟩)
    (by kernel_rfl)
#print axioms card_holds
end parserChanges
end Go.Proofs.YthhoebdlfjffkaaGreatDoor
