/- Proved: for every input, rootcauselaw07.ParserEnds returns true, and its arguments read as they did (the tied card ParserEndsCardSaid). Conditions: the card's own (the listed package variables read as the program's initialisers lay them, tied to the text), and no others. -/
import Derived.Test.YthhoebdlfjffkaaGreatDoorMh
import Derived.Test.YthhoebdlfjffkaaGreatDoorCards
set_option linter.all false
namespace Go.Proofs.YthhoebdlfjffkaaGreatDoor
open Go.RowKit Go.Par Go.Sx
theorem xE {x : D} (h : Ty.has (.int .u8) x) : ∃ y : UInt8, x = dU8 y := by
  simp only [Ty.has] at h
  obtain ⟨n, rfl, hn⟩ := h
  obtain ⟨a, rfl⟩ := VB hn
  exact ⟨a, rfl⟩
theorem vB {α : Type} {f : α → D} {τ : Ty} {x : D} (k : ∀ y, Ty.has τ y → ∃ z, y = f z) (h : Ty.has (.seq τ) x) : ∃ l : List α, x = .seq τ.cells (l.map f) := by
  unfold Ty.has at h
  obtain ⟨ds, rfl, h1⟩ := h
  obtain ⟨l, rfl⟩ := HB (f := f) fun x hx => k x (h1 x hx)
  exact ⟨l, rfl⟩
theorem TD {x : D} (h : Ty.has (.str [.int .u8, .seq (.int .u8)]) x) : ∃ y : Cd, x = dCd y := by
  rw [Ty.has] at h
  obtain ⟨ds, rfl, h⟩ := h
  simp only [Ty.hasL] at h
  obtain ⟨_, _, rfl, h1, _, _, rfl, h2, rfl⟩ := h
  obtain ⟨a, rfl⟩ := xE h1
  obtain ⟨l, rfl⟩ := vB (f := dU8) (fun _ => xE) h2
  exact ⟨⟨a, l⟩, rfl⟩
theorem UD {x : D} (h : Ty.has (.str [.int .u8, .int .u8, .seq (.str [.int .u8, .seq (.int .u8)]), .seq (.str [.int .u8, .seq (.int .u8)])]) x) : ∃ y : Prt, x = tF y := by
  rw [Ty.has] at h
  obtain ⟨ds, rfl, h⟩ := h
  simp only [Ty.hasL] at h
  obtain ⟨_, _, rfl, h1, _, _, rfl, h2, _, _, rfl, h3, _, _, rfl, h4, rfl⟩ := h
  obtain ⟨a, rfl⟩ := xE h1
  obtain ⟨b, rfl⟩ := xE h2
  obtain ⟨l, rfl⟩ := vB (f := dCd) (fun _ => TD) h3
  obtain ⟨m, rfl⟩ := vB (f := dCd) (fun _ => TD) h4
  exact ⟨⟨a, b, l, m⟩, rfl⟩
theorem UE {x : D} (h : Ty.has (.str [.int .u8, .seq (.int .u8), .seq (.str [.int .u8, .int .u8, .seq (.str [.int .u8, .seq (.int .u8)]), .seq (.str [.int .u8, .seq (.int .u8)])])]) x) : ∃ y : Pln, x = FH y := by
  rw [Ty.has] at h
  obtain ⟨ds, rfl, h⟩ := h
  simp only [Ty.hasL] at h
  obtain ⟨_, _, rfl, h1, _, _, rfl, h2, _, _, rfl, h3, rfl⟩ := h
  obtain ⟨a, rfl⟩ := xE h1
  obtain ⟨l, rfl⟩ := vB (f := dU8) (fun _ => xE) h2
  obtain ⟨m, rfl⟩ := vB (f := tF) (fun _ => UD) h3
  exact ⟨⟨a, l, m⟩, rfl⟩
set_option maxRecDepth 100000 in
theorem JO {H : Type} {enc : TypeId × Value → H} {W : World} {b base : Nat} {sp : Nat → Bool} {held : Bool} {v : Value} {d : DataW H} {p : List MemPlace} (hv : Value.okWide Tryz.prog W .any b 43 v) (h : DataW.Trod enc Tryz.prog W base sp held 43 v d p) :
    ∃ (p : Pln) (cs : List Value), v = .agg cs.toArray ∧ Rep (AW W) (FH p) cs := by
  obtain ⟨cs0, rfl, _⟩ := Go.WideShapes.okWide_struct Tryz.underlying43 hv
  obtain ⟨fuel, hf⟩ := h
  obtain ⟨d, hd, hr⟩ := Ty.opens W (.str [.int .u8, .seq (.int .u8), .seq (.str [.int .u8, .int .u8, .seq (.str [.int .u8, .seq (.int .u8)]), .seq (.str [.int .u8, .seq (.int .u8)])])]) 43 fuel _ _ (by kernel_rfl) (by kernel_rfl) hf
  obtain ⟨p, rfl⟩ := UE hd
  exact ⟨p, cs0.toList, by simp, hr⟩
theorem RL {n : Int} (h : (Lit.int .u16 n).wf = true) : ∃ x : UInt16, n = x.toNat := by
  have e1 : IntKind.u16.min = 0 := rfl
  have e2 : IntKind.u16.max = 65535 := rfl
  simp only [Lit.wf, e1, e2, Bool.and_eq_true, decide_eq_true_eq] at h
  exact ⟨UInt16.ofNat n.toNat, by simp [UInt16.toNat_ofNat']; omega⟩
set_option maxRecDepth 100000 in
theorem MP {H : Type} {enc : TypeId × Value → H} {W : World} {b base : Nat} {sp : Nat → Bool} {held : Bool} {v : Value} {d : DataW H} {p : List MemPlace} (hv : Value.okWide Tryz.prog W .any b 44 v) (h : DataW.Trod enc Tryz.prog W base sp held 44 v d p) :
    ∃ n : UInt16, v = .int .u16 n.toNat := by
  obtain ⟨fuel, hf⟩ := h
  obtain ⟨d, hd, hr⟩ := Ty.opens W (.int .u16) 44 fuel _ _ (by kernel_rfl) (by kernel_rfl) hf
  simp only [Ty.has] at hd
  obtain ⟨n, rfl, hn⟩ := hd
  obtain ⟨n, rfl⟩ := RL hn
  have hc := MI hr
  have hs := Go.WideShapes.okWide_int Tryz.underlying44 hv
  obtain ⟨z, rfl, _⟩ := hs
  exact ⟨n, (List.cons.inj hc).1⟩
set_option maxRecDepth 100000 in
theorem JN {H : Type} {enc : TypeId × Value → H} {W : World} {b base : Nat} {sp : Nat → Bool} {held : Bool} {v : Value} {d : DataW H} {p : List MemPlace} (hv : Value.okWide Tryz.prog W .any b 9 v) (h : DataW.Trod enc Tryz.prog W base sp held 9 v d p) :
    ∃ l : Str, v = aB l := by
  obtain ⟨s, rfl, -⟩ := Go.ChangeMaps.open_string Tryz.underlying9 hv h
  exact ⟨s.data.toList, rfl⟩
namespace parserEnds
open Go.ChangeShapes Go.WideShapes Go.ChangeAt Go.RowKit
open Go.ChangeMaps (open_string shut_string)
set_option maxRecDepth 100000 in
theorem lifted (os : Os) (started : os.Started) (H : Type) (enc : TypeId × Value → H) :
    ReturnsInHanded {} Tryz.checked os 5 .any (fun w args => (Rows.parserEndsSpec.pre enc Tryz.prog Tryz.f5 [] false w args ∧ laidMet Tryz.prog qT w) ∧ sizedMet enc Tryz.prog Tryz.f5 (OpenSpec.ofChange Rows.parserEndsSpec) false w args)
      (Rows.parserEndsSpec.post enc Tryz.prog Tryz.f5 false true false false) := by
  refine wrap (C := Tryz.checked) (X := fun w _ => laidMet Tryz.prog qT w) (fun _ _ _ hh h => h.of_heap hh) own started (by kernel_rfl) Tryz.func5
    (ChangeSpec.witness_shaped (enc := enc) (C := Tryz.checked) (os := os) (X := fun w _ => laidMet Tryz.prog qT w) false (World.laidAll Tryz.prog os qT) #[.agg #[.int .u8 0, .slice none 0 0, .slice none 0 0], .int .u16 0, .string ⟨#[]⟩] 8 (World.laidAll_os _ _ _) (CU os _) (by kernel_rfl) (by kernel_rfl) (by kernel_rfl) (NP os _)) ?_
  intro W base args ds gs before hval0 hW hL hS
  have G := WQ hL
  have g := WN hL
  have hval : ∀ (j : Nat) t v, Tryz.f5.params[j]? = some t → args[j]? = some v → Value.okWide Tryz.prog W .any base t v := hval0
  have hW' := hW
  obtain ⟨p, q, hA0, hV, rfl, hfz, hnd⟩ := hW
  have hA : DataW.TrodAll enc Tryz.prog W 0 (fun _ => true) true Tryz.f5.params.toList args.toList ds p := hA0
  rw [Tryz.params5] at hA hval
  obtain ⟨v0, v1, v2, d0, d1, d2, p0, p1, p2, rfl, rfl, rfl, h0, h1, h2⟩ := trodAll_three hA
  obtain ⟨rfl, rfl⟩ := trodVars_none hV
  have k0 := h0
  have hlt0 : ∀ x ∈ p0, x.block < W.heap.size := fun x hx => hW'.lt x (by simp [hx])
  have k1 := h1
  have hlt1 : ∀ x ∈ p1, x.block < W.heap.size := fun x hx => hW'.lt x (by simp [hx])
  have k2 := h2
  have hlt2 : ∀ x ∈ p2, x.block < W.heap.size := fun x hx => hW'.lt x (by simp [hx])
  obtain ⟨q0, cs0, e0, hr0⟩ := JO (hval 0 43 v0 rfl rfl) h0
  subst e0
  obtain ⟨n1, e1⟩ := MP (hval 1 44 v1 rfl rfl) h1
  subst e1
  obtain ⟨l2, e2⟩ := JN (hval 2 9 v2 rfl rfl) h2
  subst e2
  clear hA0 hval0
  simp only [List.append_nil, List.append_assoc] at hW'
  refine (vJ (AW W) G g q0 n1.toNat n1.toNat_lt l2 cs0 hr0 W (PI W)).mono fun e W' ⟨he, hg⟩ => ?_
  subst he
  refine ⟨_, rfl, _, _, _, [], (p0 ++ (p1 ++ p2)), [], hW', ?_, ?_, rfl, OI hg _, fun h => by cases h⟩
  · exact trodAll_mk1 (shut_bool Tryz.underlying4 _)
  · exact trodAll_mk3 (Below.trod zY (by kernel_rfl) (of_decide_eq_true (by kernel_rfl)) k0 hg.below hlt0) (Below.trod zY (by kernel_rfl) (of_decide_eq_true (by kernel_rfl)) k1 hg.below hlt1) (Below.trod zY (by kernel_rfl) (of_decide_eq_true (by kernel_rfl)) k2 hg.below hlt2)
theorem holds : Rows.ParserEndsSaid :=
  OpenClaim.holds_of_wide 5 Tryz.f5 rfl rfl rfl rfl rfl rfl rfl ⟨rfl, rfl, rfl, rfl, rfl⟩ rfl rfl rfl rfl rfl (by kernel_rfl) Tryz.func5 (by kernel_rfl)
    (of_decide_eq_true (by kernel_rfl)) (by unfold Func.isWrapper; first | (rw [if_pos (by decide +kernel)]; kernel_rfl) | (rw [if_neg (by decide +kernel)]; exact ⟨rfl, rfl⟩))
    (fun os started H enc _ => lifted os started H enc)
theorem card_holds : Rows.ParserEndsCardSaid :=
  Claim7.holds_tied_plain_at .later [] [.data, .data, .data, .data, .data, .data, .data] true (true, "b5223c05784295d3e10bc5ace5d4a7dc5f77fe4b5c57139d02a6d0d21167e338") false
    holds (fun _ h => by cases h) (by kernel_rfl) (fun _ h => by cases h) parserEnds_row_tie rfl ⟨rfl, rfl⟩ (by kernel_rfl) rfl
    (fun f fn hf hfn => by
      obtain rfl : f = 5 := Option.some.inj ((show Tryz.prog.funcNamed "rootcause/rootcauselaw07.ParserEnds" = some 5 by kernel_rfl).symm.trans hf) |>.symm
      obtain rfl : fn = Tryz.f5 := (Option.some.inj (Tryz.func5.symm.trans hfn)).symm
      exact ⟨by kernel_rfl, fun j t ht => by
        rw [Tryz.params5] at ht
        rcases j with _ | _ | _ | j
        · obtain rfl : t = 43 := by simpa using ht.symm
          exact (show Tryz.prog.wantsStandIn 43 = false by kernel_rfl)
        · obtain rfl : t = 44 := by simpa using ht.symm
          exact (show Tryz.prog.wantsStandIn 44 = false by kernel_rfl)
        · obtain rfl : t = 9 := by simpa using ht.symm
          exact (show Tryz.prog.wantsStandIn 9 = false by kernel_rfl)
        · simp at ht⟩)
    (by kernel_rfl)
#print axioms card_holds
end parserEnds
end Go.Proofs.YthhoebdlfjffkaaGreatDoor
