/- Proved: for every input, rootcauselaw04.RatioValid (and RatioMakes) returns true, and its arguments read as they did (the tied cards). Conditions: the cards' own (five variables of the library read as the program's initialisers lay them, tied to the text), and no others. -/
import Derived.Test.YtifhgkdajnngnaaDoorRM1
import Derived.Test.YtifhgkdajnngnaaDoorRY
import Derived.Test.YtifhgkdajnngnaaDoorCards
namespace Go.Proofs.YtifhgkdajnngnaaDoor
open Go.RowKit Go.Par

theorem lvalid (n d : Int) (i : InI n) (j : InI d) (w : World) (G : Globs w) :
    Calls Tryd.prog 4 #[.agg #[.int .i64 n, .int .i64 d]] w fun e w' => e = .returned (.bool true) ∧ Ext w w' :=
  lvalid_walk n d _ w G (valid_ext n d i j) (fun W => validref_any n d i j W)
theorem lmakes (n d : Int) (i : InI n) (j : InI d) (w : World) (G : Globs w) :
    Calls Tryd.prog 3 #[.int .i64 n, .int .i64 d] w fun e w' => e = .returned (.bool true) ∧ Ext w w' := by
  by_cases hd : d = 0
  · subst hd
    exact makes_zero n w G (fun W => make_zero n W)
  · have g0 : 0 < Nat.gcd n.natAbs d.natAbs := Nat.gcd_pos_of_pos_right _ (by omega)
    obtain ⟨x, y, e1, e2, c, f1, f2⟩ := parts n.natAbs d.natAbs g0
    have hy : 0 < y := Nat.pos_of_ne_zero (by rintro rfl; simp at e2; omega)
    have hM := fun W => make_any n d _ rfl i.1 i.2 j.1 j.2 hd W
    have R : Rat n d (res (!(decide (n < 0)) == (decide (d < 0))) (n.natAbs / Int.gcd n d) (d.natAbs / Int.gcd n d)) := by
      rw [Int.gcd, ← Int.natCast_ediv, ← Int.natCast_ediv, f1, f2]
      refine res_rat _ _ _ _ _ (by omega) (by omega) (by simpa using c) ?_
      generalize Nat.gcd n.natAbs d.natAbs = g at *
      have e1' : (n.natAbs : Int) = g * x := by rw [← Int.natCast_mul, ← e1]
      have e2' : (d.natAbs : Int) = g * y := by rw [← Int.natCast_mul, ← e2]
      by_cases h1 : n < 0 <;> by_cases h2 : d < 0 <;> simp [h1, h2]
      · rw [show n = -((g : Int) * x) by omega, show d = -((g : Int) * y) by omega]; simp only [Int.neg_mul, Int.mul_neg, Int.neg_neg, Int.neg_inj]; ac_rfl
      · rw [show n = -((g : Int) * x) by omega, show d = ((g : Int) * y) by omega]; simp only [Int.neg_mul, Int.mul_neg, Int.neg_neg, Int.neg_inj]; ac_rfl
      · rw [show n = ((g : Int) * x) by omega, show d = -((g : Int) * y) by omega]; simp only [Int.neg_mul, Int.mul_neg, Int.neg_neg, Int.neg_inj]; ac_rfl
      · rw [show n = ((g : Int) * x) by omega, show d = ((g : Int) * y) by omega]; ac_rfl
    have hI := fun W => is_any (decide (n < 0)) (decide (d < 0)) n.natAbs d.natAbs (half_small (abs_lt i)).fit (by omega) (half_small (abs_lt j)) _ (by rw [sg_of, sg_of]; exact R) W
    have hc : ∃ p q e, res (!(decide (n < 0)) == (decide (d < 0))) (n.natAbs / Int.gcd n d) (d.natAbs / Int.gcd n d) = (p, q, e) ∧ validB p q = true ∧ InI p ∧ InI q ∧ ((e = 0 ∧ 0 < q) ∨ e = 3) := by
      obtain ⟨p, q, q0, c, e, h⟩ := R
      rcases h with ⟨h, ip, iq⟩ | ⟨h, -⟩
      · exact ⟨p, q, 0, h, valid_of q0 c, ip, iq, .inl ⟨rfl, q0⟩⟩
      · exact ⟨0, 0, 3, h, by decide, ⟨by decide, by decide⟩, ⟨by decide, by decide⟩, .inr rfl⟩
    obtain ⟨p, q, e, hr, v, ip, iq, he⟩ := hc
    rw [hr] at hM hI
    have hV := valid_ext p q ip iq
    rw [v] at hV
    unfold RetR at hM
    have h1 := fun W => of_any n i W
    have h2 := fun W => of_any d j W
    unfold wv at *
    exact makes_walk n d p q e hd he _ _ _ _ _ _ w G hM h1 h2 hI hV

namespace ratioValid
open Go.ChangeShapes Go.WideShapes Go.ChangeAt Go.RowKit
open Go.ChangeMaps (open_string shut_string)
set_option maxRecDepth 100000 in
theorem lifted (os : Os) (started : os.Started) (H : Type) (enc : TypeId × Value → H) :
    ReturnsInHanded {} Tryd.checked os 4 .any (fun w args => (Rows.ratioValidSpec.pre enc Tryd.prog Tryd.f4 [] false w args ∧ laidMet Tryd.prog laids w) ∧ sizedMet enc Tryd.prog Tryd.f4 (OpenSpec.ofChange Rows.ratioValidSpec) false w args)
      (Rows.ratioValidSpec.post enc Tryd.prog Tryd.f4 false true false false) := by
  refine wrap (C := Tryd.checked) (X := fun w _ => laidMet Tryd.prog laids w) (fun _ _ _ hh h => h.of_heap hh) own started (by kernel_rfl) Tryd.func4
    (ChangeSpec.witness_shaped (enc := enc) (C := Tryd.checked) (os := os) (X := fun w _ => laidMet Tryd.prog laids w) false (World.laidAll Tryd.prog os laids) #[.agg #[.int .i64 0, .int .i64 0]] 8 (World.laidAll_os _ _ _) (laid_shaped os _) (by kernel_rfl) (by kernel_rfl) (by kernel_rfl) (laid_met os _)) ?_
  intro W base args ds gs before hval0 hW hL hS
  have G : Globs W := globs_of hL hS
  have hval : ∀ (j : Nat) t v, Tryd.f4.params[j]? = some t → args[j]? = some v → Value.okWide Tryd.prog W .any base t v := hval0
  have hW' := hW
  obtain ⟨p, q, hA0, hV, rfl, hfz, hnd⟩ := hW
  have hA : DataW.TrodAll enc Tryd.prog W 0 (fun _ => true) true Tryd.f4.params.toList args.toList ds p := hA0
  rw [Tryd.params4] at hA hval
  obtain ⟨v0, d0, rfl, rfl, h0⟩ := trodAll_one hA
  obtain ⟨rfl, rfl⟩ := trodVars_none hV
  obtain ⟨an, ad, rfl, rfl, rfl, ia, ja⟩ := open_ratio (hval 0 23 v0 rfl rfl) h0
  clear hA0 hval0
  simp only [List.append_nil] at hW'
  refine (lvalid an ad ia ja W G).mono fun e W' ⟨he, hg⟩ => ?_
  subst he
  refine ⟨_, rfl, _, _, _, [], [], [], hW', ?_, ?_, rfl, ext_kept hg _, fun h => by cases h⟩
  · exact trodAll_mk1 (shut_bool Tryd.underlying4 _)
  · exact trodAll_mk1 (shut_ratio ia ja)

theorem holds : Rows.RatioValidSaid :=
  OpenClaim.holds_of_wide 4 Tryd.f4 rfl rfl rfl rfl rfl rfl rfl ⟨rfl, rfl, rfl, rfl, rfl⟩ rfl rfl rfl rfl rfl (by kernel_rfl) Tryd.func4 (by kernel_rfl)
    (of_decide_eq_true (by kernel_rfl)) (by unfold Func.isWrapper; first | (rw [if_pos (by decide +kernel)]; kernel_rfl) | (rw [if_neg (by decide +kernel)]; exact ⟨rfl, rfl⟩))
    (fun os started H enc _ => lifted os started H enc)

theorem card_holds : Rows.RatioValidCardSaid :=
  Claim7.holds_tied_plain_at .later [] [.data, .data, .data, .sentinel, .sentinel] true (true, "bbbaab33fab55bd816ac80e1e0d782c1e88fb0bbc056c970f732e874dd844292") true
    holds (fun _ h => by cases h) (by kernel_rfl) (fun _ h => by cases h) ratioValid_row_tie rfl ⟨rfl, rfl⟩ (by kernel_rfl) rfl
    (fun f fn hf hfn => by
      obtain rfl : f = 4 := Option.some.inj ((show Tryd.prog.funcNamed "rootcause/rootcauselaw04.RatioValid" = some 4 by kernel_rfl).symm.trans hf) |>.symm
      obtain rfl : fn = Tryd.f4 := (Option.some.inj (Tryd.func4.symm.trans hfn)).symm
      exact ⟨by kernel_rfl, fun j t ht => by
        rw [Tryd.params4] at ht
        have h3 : t = 23 := by
          rcases j with _ | j
          · simpa using ht.symm
          · simp at ht
        subst h3
        exact (show Tryd.prog.wantsStandIn 23 = false by kernel_rfl)⟩)
    (by kernel_rfl)
#print axioms card_holds
end ratioValid

namespace ratioMakes
open Go.ChangeShapes Go.WideShapes Go.ChangeAt Go.RowKit
open Go.ChangeMaps (open_string shut_string)
set_option maxRecDepth 100000 in
theorem lifted (os : Os) (started : os.Started) (H : Type) (enc : TypeId × Value → H) :
    ReturnsInHanded {} Tryd.checked os 3 .any (fun w args => (Rows.ratioMakesSpec.pre enc Tryd.prog Tryd.f3 [] false w args ∧ laidMet Tryd.prog laids w) ∧ sizedMet enc Tryd.prog Tryd.f3 (OpenSpec.ofChange Rows.ratioMakesSpec) false w args)
      (Rows.ratioMakesSpec.post enc Tryd.prog Tryd.f3 false true false false) := by
  refine wrap (C := Tryd.checked) (X := fun w _ => laidMet Tryd.prog laids w) (fun _ _ _ hh h => h.of_heap hh) own started (by kernel_rfl) Tryd.func3
    (ChangeSpec.witness_shaped (enc := enc) (C := Tryd.checked) (os := os) (X := fun w _ => laidMet Tryd.prog laids w) false (World.laidAll Tryd.prog os laids) #[.int .i64 0, .int .i64 0] 8 (World.laidAll_os _ _ _) (laid_shaped os _) (by kernel_rfl) (by kernel_rfl) (by kernel_rfl) (laid_met os _)) ?_
  intro W base args ds gs before hval0 hW hL hS
  have G : Globs W := globs_of hL hS
  have hval : ∀ (j : Nat) t v, Tryd.f3.params[j]? = some t → args[j]? = some v → Value.okWide Tryd.prog W .any base t v := hval0
  have hW' := hW
  obtain ⟨p, q, hA0, hV, rfl, hfz, hnd⟩ := hW
  have hA : DataW.TrodAll enc Tryd.prog W 0 (fun _ => true) true Tryd.f3.params.toList args.toList ds p := hA0
  rw [Tryd.params3] at hA hval
  obtain ⟨v0, v1, d0, d1, p0, p1, rfl, rfl, rfl, h0, h1⟩ := trodAll_two hA
  obtain ⟨rfl, rfl⟩ := trodVars_none hV
  obtain ⟨n, rfl, rfl, rfl, wn⟩ := open_int Tryd.underlying2 (hval 0 2 v0 rfl rfl) h0
  obtain ⟨m, rfl, rfl, rfl, wm⟩ := open_int Tryd.underlying2 (hval 1 2 v1 rfl rfl) h1
  clear hA0 hval0
  simp only [List.append_nil] at hW'
  refine (lmakes n m (of_wf wn) (of_wf wm) W G).mono fun e W' ⟨he, hg⟩ => ?_
  subst he
  refine ⟨_, rfl, _, _, _, [], [], [], hW', ?_, ?_, rfl, ext_kept hg _, fun h => by cases h⟩
  · exact trodAll_mk1 (shut_bool Tryd.underlying4 _)
  · exact trodAll_mk2 (shut_int Tryd.underlying2 wn) (shut_int Tryd.underlying2 wm)

theorem holds : Rows.RatioMakesSaid :=
  OpenClaim.holds_of_wide 3 Tryd.f3 rfl rfl rfl rfl rfl rfl rfl ⟨rfl, rfl, rfl, rfl, rfl⟩ rfl rfl rfl rfl rfl (by kernel_rfl) Tryd.func3 (by kernel_rfl)
    (of_decide_eq_true (by kernel_rfl)) (by unfold Func.isWrapper; first | (rw [if_pos (by decide +kernel)]; kernel_rfl) | (rw [if_neg (by decide +kernel)]; exact ⟨rfl, rfl⟩))
    (fun os started H enc _ => lifted os started H enc)

theorem card_holds : Rows.RatioMakesCardSaid :=
  Claim7.holds_tied_plain_at .later [] [.data, .data, .data, .sentinel, .sentinel] true (true, "bbbaab33fab55bd816ac80e1e0d782c1e88fb0bbc056c970f732e874dd844292") true
    holds (fun _ h => by cases h) (by kernel_rfl) (fun _ h => by cases h) ratioMakes_row_tie rfl ⟨rfl, rfl⟩ (by kernel_rfl) rfl
    (fun f fn hf hfn => by
      obtain rfl : f = 3 := Option.some.inj ((show Tryd.prog.funcNamed "rootcause/rootcauselaw04.RatioMakes" = some 3 by kernel_rfl).symm.trans hf) |>.symm
      obtain rfl : fn = Tryd.f3 := (Option.some.inj (Tryd.func3.symm.trans hfn)).symm
      exact ⟨by kernel_rfl, fun j t ht => by
        rw [Tryd.params3] at ht
        have h3 : t = 2 := by
          rcases j with _ | _ | j
          · simpa using ht.symm
          · simpa using ht.symm
          · simp at ht
        subst h3
        exact (show Tryd.prog.wantsStandIn 2 = false by kernel_rfl)⟩)
    (by kernel_rfl)
#print axioms card_holds
end ratioMakes

end Go.Proofs.YtifhgkdajnngnaaDoor
