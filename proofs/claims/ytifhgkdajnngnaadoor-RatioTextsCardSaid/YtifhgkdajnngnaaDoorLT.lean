/- Proved: for every input, rootcauselaw04.RatioTexts returns true, and its arguments read as they did (the tied cards). Conditions: the cards' own (five variables of the library read as the program's initialisers lay them, tied to the text), and no others. -/
import Derived.Test.YtifhgkdajnngnaaDoorRS
import Derived.Test.YtifhgkdajnngnaaDoorRY
import Derived.Test.YtifhgkdajnngnaaDoorCards
namespace Go.Proofs.YtifhgkdajnngnaaDoor
open Go.RowKit Go.Par

theorem plain_one {n d : Int} (v : validB n d = true) : ((if d = 0 then 0 else n), (if d = 0 then 1 else d)) = oneP n d := by
  unfold oneP
  by_cases h : d = 0
  · subst h
    have : n = 0 := by simpa [validB] using v
    subst this; simp
  · simp [h]
theorem text_len (n d : Int) (i : InI n) (j : InI d) : (textL n d).length ≤ 1000 := by
  have hi : InI (oneP n d).1 ∧ InI (oneP n d).2 := by
    unfold oneP; split
    · exact ⟨⟨by decide, by decide⟩, ⟨by decide, by decide⟩⟩
    · exact ⟨i, j⟩
  have h1 := Lib.itoa_length_le _ hi.1.1 hi.1.2
  have h2 := Lib.itoa_length_le _ hi.2.1 hi.2.2
  unfold textL
  split
  · rw [List.length_append]; split <;> simp <;> omega
  · simp
theorem ltexts (n d : Int) (i : InI n) (j : InI d) (w : World) (G : Globs w) :
    Calls Tryd.prog 5 #[.agg #[.int .i64 n, .int .i64 d]] w fun e w' => e = .returned (.bool true) ∧ Ext w w' := by
  have hT := fun (W : World) (G : Globs W) => text_any n d i j W G
  have hR := fun W => textref_any n d i j W
  have hP := fun (W : World) (G : Globs W) => parse_any (textL n d) (text_len n d i j) W G
  unfold RetR at hP
  cases v : validB n d with
  | false =>
    have e : textL n d = [] := by rw [textL, v]; rfl
    rw [e] at hT hR hP
    have ep : parseR [] = (0, 0, 6) := by decide
    rw [ep] at hP
    exact texts_bad n d w G hT hR hP
  | true =>
    have hN := fun W => plain_any n d W
    have ep := parse_text n d i j v
    rw [ep] at hP
    rw [← plain_one v] at hP
    have hne : ¬ textL n d = [] := by
      rw [textL, if_pos v]
      intro h
      exact Go.Plain.itoa_ne _ (List.append_eq_nil_iff.1 h).1
    exact texts_ok n d _ _ (textL n d) hne w G hT hR hP hN

namespace ratioTexts
open Go.ChangeShapes Go.WideShapes Go.ChangeAt Go.RowKit
open Go.ChangeMaps (open_string shut_string)
set_option maxRecDepth 100000 in
theorem lifted (os : Os) (started : os.Started) (H : Type) (enc : TypeId × Value → H) :
    ReturnsInHanded {} Tryd.checked os 5 .any (fun w args => (Rows.ratioTextsSpec.pre enc Tryd.prog Tryd.f5 [] false w args ∧ laidMet Tryd.prog laids w) ∧ sizedMet enc Tryd.prog Tryd.f5 (OpenSpec.ofChange Rows.ratioTextsSpec) false w args)
      (Rows.ratioTextsSpec.post enc Tryd.prog Tryd.f5 false true false false) := by
  refine wrap (C := Tryd.checked) (X := fun w _ => laidMet Tryd.prog laids w) (fun _ _ _ hh h => h.of_heap hh) own started (by kernel_rfl) Tryd.func5
    (ChangeSpec.witness_shaped (enc := enc) (C := Tryd.checked) (os := os) (X := fun w _ => laidMet Tryd.prog laids w) false (World.laidAll Tryd.prog os laids) #[.agg #[.int .i64 0, .int .i64 0]] 8 (World.laidAll_os _ _ _) (laid_shaped os _) (by kernel_rfl) (by kernel_rfl) (by kernel_rfl) (laid_met os _)) ?_
  intro W base args ds gs before hval0 hW hL hS
  have G : Globs W := globs_of hL hS
  have hval : ∀ (j : Nat) t v, Tryd.f5.params[j]? = some t → args[j]? = some v → Value.okWide Tryd.prog W .any base t v := hval0
  have hW' := hW
  obtain ⟨p, q, hA0, hV, rfl, hfz, hnd⟩ := hW
  have hA : DataW.TrodAll enc Tryd.prog W 0 (fun _ => true) true Tryd.f5.params.toList args.toList ds p := hA0
  rw [Tryd.params5] at hA hval
  obtain ⟨v0, d0, rfl, rfl, h0⟩ := trodAll_one hA
  obtain ⟨rfl, rfl⟩ := trodVars_none hV
  obtain ⟨an, ad, rfl, rfl, rfl, ia, ja⟩ := open_ratio (hval 0 23 v0 rfl rfl) h0
  clear hA0 hval0
  simp only [List.append_nil] at hW'
  refine (ltexts an ad ia ja W G).mono fun e W' ⟨he, hg⟩ => ?_
  subst he
  refine ⟨_, rfl, _, _, _, [], [], [], hW', ?_, ?_, rfl, ext_kept hg _, fun h => by cases h⟩
  · exact trodAll_mk1 (shut_bool Tryd.underlying4 _)
  · exact trodAll_mk1 (shut_ratio ia ja)

theorem holds : Rows.RatioTextsSaid :=
  OpenClaim.holds_of_wide 5 Tryd.f5 rfl rfl rfl rfl rfl rfl rfl ⟨rfl, rfl, rfl, rfl, rfl⟩ rfl rfl rfl rfl rfl (by kernel_rfl) Tryd.func5 (by kernel_rfl)
    (of_decide_eq_true (by kernel_rfl)) (by unfold Func.isWrapper; first | (rw [if_pos (by decide +kernel)]; kernel_rfl) | (rw [if_neg (by decide +kernel)]; exact ⟨rfl, rfl⟩))
    (fun os started H enc _ => lifted os started H enc)

theorem card_holds : Rows.RatioTextsCardSaid :=
  Claim7.holds_tied_plain_at .later [] [.data, .data, .data, .sentinel, .sentinel] true (true, "bbbaab33fab55bd816ac80e1e0d782c1e88fb0bbc056c970f732e874dd844292") true
    holds (fun _ h => by cases h) (by kernel_rfl) (fun _ h => by cases h) ratioTexts_row_tie rfl ⟨rfl, rfl⟩ (by kernel_rfl) rfl
    (fun f fn hf hfn => by
      obtain rfl : f = 5 := Option.some.inj ((show Tryd.prog.funcNamed "rootcause/rootcauselaw04.RatioTexts" = some 5 by kernel_rfl).symm.trans hf) |>.symm
      obtain rfl : fn = Tryd.f5 := (Option.some.inj (Tryd.func5.symm.trans hfn)).symm
      exact ⟨by kernel_rfl, fun j t ht => by
        rw [Tryd.params5] at ht
        have h3 : t = 23 := by
          rcases j with _ | j
          · simpa using ht.symm
          · simp at ht
        subst h3
        exact (show Tryd.prog.wantsStandIn 23 = false by kernel_rfl)⟩)
    (by kernel_rfl)
#print axioms card_holds
end ratioTexts

end Go.Proofs.YtifhgkdajnngnaaDoor
