/- Proved: for every three fractions, rootcauselaw04.RatioOrder returns true, and its arguments read as they did (the tied card RatioOrderCardSaid). Its conditions: the card's own (five variables of the library read as the program's initialisers lay them, tied to the text), and no others. -/
import Derived.Test.YtifhgkdajnngnaaDoorRY
import Derived.Test.YtifhgkdajnngnaaDoorRX
import Derived.Test.YtifhgkdajnngnaaDoorCards
namespace Go.Proofs.YtifhgkdajnngnaaDoor
open Go.RowKit Go.Par

theorem order_walk (an ad bn bd cn cd : Int) (ia : InI an) (ja : InI ad) (ib : InI bn) (jb : InI bd) (ic : InI cn) (jc : InI cd) (w : World) (G : Globs w) :
    Calls Tryd.prog 11 #[.agg #[.int .i64 an, .int .i64 ad], .agg #[.int .i64 bn, .int .i64 bd], .agg #[.int .i64 cn, .int .i64 cd]] w fun e w' => e = .returned (.bool true) ∧ Ext w w' := by
  have hva := valid_ext an ad ia ja
  have hvb := valid_ext bn bd ib jb
  have hvc := valid_ext cn cd ic jc
  cases va : validB an ad with
  | false => rw [va] at hva; exact order_va an ad bn bd cn cd w G hva
  | true =>
  rw [va] at hva
  cases vb : validB bn bd with
  | false => rw [vb] at hvb; exact order_vb an ad bn bd cn cd w G hva hvb
  | true =>
  rw [vb] at hvb
  cases vc : validB cn cd with
  | false => rw [vc] at hvc; exact order_vc an ad bn bd cn cd w G hva hvb hvc
  | true =>
  rw [vc] at hvc
  have hab := cmp_ext an ad bn bd va vb ia ja ib jb
  have hbc := cmp_ext bn bd cn cd vb vc ib jb ic jc
  have hac := cmp_ext an ad cn cd va vc ia ja ic jc
  have haa := cmp_ext an ad an ad va va ia ja ia ja
  rw [cmp_self] at haa
  have hs := sub_ext an ad bn bd va vb ia ja ib jb
  obtain ⟨a0, ca⟩ := valid_one va
  obtain ⟨b0, cb⟩ := valid_one vb
  obtain ⟨c0, cc⟩ := valid_one vc
  have R := sum_rat (oneP an ad).1 (oneP an ad).2 (oneP bn bd).1 (oneP bn bd).2 true a0 b0 ca cb
  obtain ⟨p, q, q0, cpq, e, h⟩ := R
  rcases h with ⟨hr, ip, iq⟩ | ⟨hr, -⟩
  · rw [hr] at hs
    have vd : validB p q = true := valid_of q0 cpq
    have hd := cmp_ext p q 0 0 vd (by decide) ip iq ⟨by decide, by decide⟩ ⟨by decide, by decide⟩
    have ed : cmpP p q 0 0 = cmpP an ad bn bd := sub_sign q0 a0 b0 e
    rw [ed] at hd
    by_cases t1 : cmpP an ad bn bd ≤ 0
    · by_cases t2 : cmpP bn bd cn cd ≤ 0
      · exact order_3f an ad bn bd cn cd _ _ _ p q w G hva hvb hvc hab hbc hac haa hs hd t1 t2 (cmp_trans a0 b0 c0 t1 t2)
      · exact order_2f an ad bn bd cn cd _ _ p q w G hva hvb hvc hab hbc haa hs hd t1 t2
    · exact order_1f an ad bn bd cn cd _ p q w G hva hvb hvc hab haa hs hd t1
  · rw [hr] at hs
    by_cases t1 : cmpP an ad bn bd ≤ 0
    · by_cases t2 : cmpP bn bd cn cd ≤ 0
      · exact order_3n an ad bn bd cn cd _ _ _ w G hva hvb hvc hab hbc hac haa hs t1 t2 (cmp_trans a0 b0 c0 t1 t2)
      · exact order_2n an ad bn bd cn cd _ _ w G hva hvb hvc hab hbc haa hs t1 t2
    · exact order_1n an ad bn bd cn cd _ w G hva hvb hvc hab haa hs t1

namespace ratioOrder
open Go.ChangeShapes Go.WideShapes Go.ChangeAt Go.RowKit
open Go.ChangeMaps (open_string shut_string)
set_option maxRecDepth 100000 in
theorem lifted (os : Os) (started : os.Started) (H : Type) (enc : TypeId × Value → H) :
    ReturnsInHanded {} Tryd.checked os 11 .any (fun w args => (Rows.ratioOrderSpec.pre enc Tryd.prog Tryd.f11 [] false w args ∧ laidMet Tryd.prog laids w) ∧ sizedMet enc Tryd.prog Tryd.f11 (OpenSpec.ofChange Rows.ratioOrderSpec) false w args)
      (Rows.ratioOrderSpec.post enc Tryd.prog Tryd.f11 false true false false) := by
  refine wrap (C := Tryd.checked) (X := fun w _ => laidMet Tryd.prog laids w) (fun _ _ _ hh h => h.of_heap hh) own started (by kernel_rfl) Tryd.func11
    (ChangeSpec.witness_shaped (enc := enc) (C := Tryd.checked) (os := os) (X := fun w _ => laidMet Tryd.prog laids w) false (World.laidAll Tryd.prog os laids) #[.agg #[.int .i64 0, .int .i64 0], .agg #[.int .i64 0, .int .i64 0], .agg #[.int .i64 0, .int .i64 0]] 8 (World.laidAll_os _ _ _) (laid_shaped os _) (by kernel_rfl) (by kernel_rfl) (by kernel_rfl) (laid_met os _)) ?_
  intro W base args ds gs before hval0 hW hL hS
  have G : Globs W := globs_of hL hS
  have hval : ∀ (j : Nat) t v, Tryd.f11.params[j]? = some t → args[j]? = some v → Value.okWide Tryd.prog W .any base t v := hval0
  have hW' := hW
  obtain ⟨p, q, hA0, hV, rfl, hfz, hnd⟩ := hW
  have hA : DataW.TrodAll enc Tryd.prog W 0 (fun _ => true) true Tryd.f11.params.toList args.toList ds p := hA0
  rw [Tryd.params11] at hA hval
  obtain ⟨v0, v1, v2, d0, d1, d2, p0, p1, p2, rfl, rfl, rfl, h0, h1, h2⟩ := trodAll_three hA
  obtain ⟨rfl, rfl⟩ := trodVars_none hV
  obtain ⟨an, ad, rfl, rfl, rfl, ia, ja⟩ := open_ratio (hval 0 23 v0 rfl rfl) h0
  obtain ⟨bn, bd, rfl, rfl, rfl, ib, jb⟩ := open_ratio (hval 1 23 v1 rfl rfl) h1
  obtain ⟨cn, cd, rfl, rfl, rfl, ic, jc⟩ := open_ratio (hval 2 23 v2 rfl rfl) h2
  clear hA0 hval0
  simp only [List.append_nil] at hW'
  refine (order_walk an ad bn bd cn cd ia ja ib jb ic jc W G).mono fun e W' ⟨he, hg⟩ => ?_
  subst he
  refine ⟨_, rfl, _, _, _, [], [], [], hW', ?_, ?_, rfl, ext_kept hg _, fun h => by cases h⟩
  · exact trodAll_mk1 (shut_bool Tryd.underlying4 _)
  · exact trodAll_mk3 (shut_ratio ia ja) (shut_ratio ib jb) (shut_ratio ic jc)

theorem holds : Rows.RatioOrderSaid :=
  OpenClaim.holds_of_wide 11 Tryd.f11 rfl rfl rfl rfl rfl rfl rfl ⟨rfl, rfl, rfl, rfl, rfl⟩ rfl rfl rfl rfl rfl (by kernel_rfl) Tryd.func11 (by kernel_rfl)
    (of_decide_eq_true (by kernel_rfl)) (by unfold Func.isWrapper; first | (rw [if_pos (by decide +kernel)]; kernel_rfl) | (rw [if_neg (by decide +kernel)]; exact ⟨rfl, rfl⟩))
    (fun os started H enc _ => lifted os started H enc)

theorem card_holds : Rows.RatioOrderCardSaid :=
  Claim7.holds_tied_plain_at .later [] [.data, .data, .data, .sentinel, .sentinel] true (true, "bbbaab33fab55bd816ac80e1e0d782c1e88fb0bbc056c970f732e874dd844292") true
    holds (fun _ h => by cases h) (by kernel_rfl) (fun _ h => by cases h) ratioOrder_row_tie rfl ⟨rfl, rfl⟩ (by kernel_rfl) rfl
    (fun f fn hf hfn => by
      obtain rfl : f = 11 := Option.some.inj ((show Tryd.prog.funcNamed "rootcause/rootcauselaw04.RatioOrder" = some 11 by kernel_rfl).symm.trans hf) |>.symm
      obtain rfl : fn = Tryd.f11 := (Option.some.inj (Tryd.func11.symm.trans hfn)).symm
      exact ⟨by kernel_rfl, fun j t ht => by
        rw [Tryd.params11] at ht
        have h3 : t = 23 := by
          rcases j with _ | _ | _ | j
          · simpa using ht.symm
          · simpa using ht.symm
          · simpa using ht.symm
          · simp at ht
        subst h3
        exact (show Tryd.prog.wantsStandIn 23 = false by kernel_rfl)⟩)
    (by kernel_rfl)
#print axioms card_holds
end ratioOrder

end Go.Proofs.YtifhgkdajnngnaaDoor
