/- Proved: for every input, rootcauselaw04.RatioCompares (RatioMuls, RatioAdds) returns true, and its arguments read as they did (the tied cards). Conditions: the cards' own (five variables of the library read as the program's initialisers lay them, tied to the text), and no others. -/
import Derived.Test.YtifhgkdajnngnaaDoorRM2
import Derived.Test.YtifhgkdajnngnaaDoorRM3
import Derived.Test.YtifhgkdajnngnaaDoorRY
import Derived.Test.YtifhgkdajnngnaaDoorCards
namespace Go.Proofs.YtifhgkdajnngnaaDoor
open Go.RowKit Go.Par

theorem plain_one {n d : Int} (v : validB n d = true) : ((if d = 0 then 0 else n), (if d = 0 then 1 else d)) = oneP n d := by
  unfold oneP
  by_cases h : d = 0
  · subst h
    have : n = 0 := by simpa [validB] using v
    subst this; simp
  · simp [h]
theorem one_in {n d : Int} (i : InI n) (j : InI d) : InI (oneP n d).1 ∧ InI (oneP n d).2 := by
  unfold oneP
  split
  · exact ⟨⟨by decide, by decide⟩, ⟨by decide, by decide⟩⟩
  · exact ⟨i, j⟩
theorem plain_ext {n d : Int} (v : validB n d = true) (W : World) :
    Calls Tryd.prog 22 #[.agg #[.int .i64 n, .int .i64 d]] W fun e w' => e = .returned (.agg #[.int .i64 (oneP n d).1, .int .i64 (oneP n d).2]) ∧ Ext W w' := by
  rw [← plain_one v]
  exact plain_any n d W
theorem cmpI_bd (x y : Int) : -1 ≤ cmpI x y ∧ cmpI x y ≤ 1 := by unfold cmpI; split <;> (try split) <;> omega
theorem cmpI_neg (x y : Int) : cmpI y x = -cmpI x y := by
  unfold cmpI
  by_cases h1 : x < y
  · rw [if_pos h1, if_neg (by omega), if_neg (by omega)]; rfl
  · by_cases h2 : x = y
    · subst h2; rw [if_neg h1, if_pos rfl]; rfl
    · rw [if_neg h1, if_neg h2, if_pos (by omega)]
theorem lcompares (an ad bn bd : Int) (ia : InI an) (ja : InI ad) (ib : InI bn) (jb : InI bd) (w : World) (G : Globs w) :
    Calls Tryd.prog 10 #[.agg #[.int .i64 an, .int .i64 ad], .agg #[.int .i64 bn, .int .i64 bd]] w fun e w' => e = .returned (.bool true) ∧ Ext w w' := by
  have hva := fun W => validref_any an ad ia ja W
  have hvb := fun W => validref_any bn bd ib jb W
  cases va : validB an ad with
  | false => rw [va] at hva; exact compares_bad1 an ad bn bd w G (fun W => cmp_bad an ad bn bd W (.inl va) ia ja ib jb) hva
  | true =>
  rw [va] at hva
  cases vb : validB bn bd with
  | false => rw [vb] at hvb; exact compares_bad2 an ad bn bd w G (fun W => cmp_bad an ad bn bd W (.inr vb) ia ja ib jb) hva hvb
  | true =>
  rw [vb] at hvb
  have hc := cmp_ext an ad bn bd va vb ia ja ib jb
  have hd := cmp_ext bn bd an ad vb va ib jb ia ja
  obtain ⟨ox, oy⟩ := one_in ia ja
  obtain ⟨px, py⟩ := one_in ib jb
  have hr := fun W => cmpref_any _ _ _ _ ox oy px py W
  have e : cmpP bn bd an ad = -cmpP an ad bn bd := cmpI_neg _ _
  rw [e] at hd
  obtain ⟨b0, b1⟩ := cmpI_bd ((oneP an ad).1 * (oneP bn bd).2) ((oneP bn bd).1 * (oneP an ad).2)
  exact compares_walk an ad bn bd _ _ _ _ (cmpP an ad bn bd) b0 b1 w G hc hva hvb (plain_ext va) (plain_ext vb) hr hd
def mulQ (an ad bn bd : Int) : Int × Int × Int :=
  res (!(decide ((oneP an ad).1 < 0)) == (decide ((oneP bn bd).1 < 0))) (((oneP an ad).1.natAbs : Int) / Nat.gcd (oneP an ad).1.natAbs (oneP bn bd).2.natAbs * ((oneP bn bd).1.natAbs / Nat.gcd (oneP bn bd).1.natAbs (oneP an ad).2.natAbs))
        (((oneP an ad).2.natAbs : Int) / Nat.gcd (oneP bn bd).1.natAbs (oneP an ad).2.natAbs * ((oneP bn bd).2.natAbs / Nat.gcd (oneP an ad).1.natAbs (oneP bn bd).2.natAbs))
theorem lmuls (an ad bn bd : Int) (ia : InI an) (ja : InI ad) (ib : InI bn) (jb : InI bd) (w : World) (G : Globs w) :
    Calls Tryd.prog 8 #[.agg #[.int .i64 an, .int .i64 ad], .agg #[.int .i64 bn, .int .i64 bd]] w fun e w' => e = .returned (.bool true) ∧ Ext w w' := by
  have hva := fun W => validref_any an ad ia ja W
  have hvb := fun W => validref_any bn bd ib jb W
  cases va : validB an ad with
  | false => rw [va] at hva; exact muls_bad1 an ad bn bd w G (fun W => mul_bad an ad bn bd W (.inl va) ia ja ib jb) hva
  | true =>
  rw [va] at hva
  cases vb : validB bn bd with
  | false => rw [vb] at hvb; exact muls_bad2 an ad bn bd w G (fun W => mul_bad an ad bn bd W (.inr vb) ia ja ib jb) hva hvb
  | true =>
  rw [vb] at hvb
  have hM : ∀ W : World, Calls Tryd.prog 27 #[.agg #[.int .i64 an, .int .i64 ad], .agg #[.int .i64 bn, .int .i64 bd]] W (RetR (mulQ an ad bn bd) W) := fun W => mul_ok an ad bn bd W va vb ia ja ib jb _ rfl
  obtain ⟨a0, ca⟩ := valid_one va
  obtain ⟨b0, cb⟩ := valid_one vb
  have R : Rat ((oneP an ad).1 * (oneP bn bd).1) ((oneP an ad).2 * (oneP bn bd).2) (mulQ an ad bn bd) := mul_rat _ _ _ _ a0 b0 ca cb _ rfl
  have hPa := plain_ext va
  have hPb := plain_ext vb
  obtain ⟨ox, oy⟩ := one_in ia ja
  obtain ⟨px, py⟩ := one_in ib jb
  generalize mulQ an ad bn bd = r at *
  obtain ⟨p, q, r⟩ := r
  unfold RetR at hM
  generalize (oneP an ad).1 = x1 at *
  generalize (oneP an ad).2 = x2 at *
  generalize (oneP bn bd).1 = y1 at *
  generalize (oneP bn bd).2 = y2 at *
  have hI := fun W => is_any (!(decide (x1 < 0)) == decide (y1 < 0)) (!(decide (x2 < 0)) == decide (y2 < 0)) (x1.natAbs * y1.natAbs) (x2.natAbs * y2.natAbs) (half_prod (abs_lt ox) (abs_lt px)).fit
    (Nat.mul_pos (by omega) (by omega)) (half_prod (abs_lt oy) (abs_lt py)) _ (by rw [sg_mul, sg_mul]; exact R) W
  have hM1 := fun W => mulw_any (decide (x1 < 0)) (decide (y1 < 0)) x1.natAbs y1.natAbs (abs_lt ox) (abs_lt px) W
  have hM2 := fun W => mulw_any (decide (x2 < 0)) (decide (y2 < 0)) x2.natAbs y2.natAbs (abs_lt oy) (abs_lt py) W
  have o1 := fun W => of_any x1 ox W
  have o2 := fun W => of_any y1 px W
  have o3 := fun W => of_any x2 oy W
  have o4 := fun W => of_any y2 py W
  unfold wv at *
  exact muls_walk an ad bn bd x1 x2 y1 y2 p q r _ _ _ _ _ _ _ _ _ _ _ _ _ _ _ _ _ _ w G hM hva hvb hPa hPb o1 o2 o3 o4 hM1 hM2 hI
theorem pmag_nat (s t : Bool) (m n : Nat) : ∃ k : Nat, pmag s t m n = k ∧ k ≤ m + n := by
  refine ⟨(pmag s t m n).toNat, ?_, ?_⟩ <;> unfold pmag <;> split <;> omega
theorem ladds (an ad bn bd : Int) (ia : InI an) (ja : InI ad) (ib : InI bn) (jb : InI bd) (w : World) (G : Globs w) :
    Calls Tryd.prog 7 #[.agg #[.int .i64 an, .int .i64 ad], .agg #[.int .i64 bn, .int .i64 bd]] w fun e w' => e = .returned (.bool true) ∧ Ext w w' := by
  have hva := fun W => validref_any an ad ia ja W
  have hvb := fun W => validref_any bn bd ib jb W
  cases va : validB an ad with
  | false => rw [va] at hva; exact adds_bad1 an ad bn bd w G (fun W => add_bad an ad bn bd W (.inl va) ia ja ib jb) (fun W => sub_bad an ad bn bd W (.inl va) ia ja ib jb) hva
  | true =>
  rw [va] at hva
  cases vb : validB bn bd with
  | false => rw [vb] at hvb; exact adds_bad2 an ad bn bd w G (fun W => add_bad an ad bn bd W (.inr vb) ia ja ib jb) (fun W => sub_bad an ad bn bd W (.inr vb) ia ja ib jb) hva hvb
  | true =>
  rw [vb] at hvb
  have hS := fun W => add_ok an ad bn bd W va vb ia ja ib jb
  have hD := fun W => sub_ok an ad bn bd W va vb ia ja ib jb
  obtain ⟨a0, ca⟩ := valid_one va
  obtain ⟨b0, cb⟩ := valid_one vb
  have R := sum_rat _ _ _ _ false a0 b0 ca cb
  have R' := sum_rat _ _ _ _ true a0 b0 ca cb
  have hPa := plain_ext va
  have hPb := plain_ext vb
  obtain ⟨ox, oy⟩ := one_in ia ja
  obtain ⟨px, py⟩ := one_in ib jb
  generalize (oneP an ad).1 = x1 at *
  generalize (oneP an ad).2 = x2 at *
  generalize (oneP bn bd).1 = y1 at *
  generalize (oneP bn bd).2 = y2 at *
  generalize sumR x1 x2 y1 y2 false = r at *
  generalize sumR x1 x2 y1 y2 true = r' at *
  obtain ⟨p, q, r⟩ := r
  obtain ⟨t, u, v⟩ := r'
  unfold RetR at hS hD
  simp only [Bool.false_eq_true, if_false, if_true] at R R'
  have hM1 := fun W => mulw_any (decide (x1 < 0)) (decide (y2 < 0)) x1.natAbs y2.natAbs (abs_lt ox) (abs_lt py) W
  have hM2 := fun W => mulw_any (decide (y1 < 0)) (decide (x2 < 0)) y1.natAbs x2.natAbs (abs_lt px) (abs_lt oy) W
  have hM3 := fun W => mulw_any (decide (x2 < 0)) (decide (y2 < 0)) x2.natAbs y2.natAbs (abs_lt oy) (abs_lt py) W
  have s1 := sg_mul x1 y2
  have s2 := sg_mul y1 x2
  have s3 := sg_mul x2 y2
  have q1 := prod_half (abs_lt ox) (abs_lt py)
  have q2 := prod_half (abs_lt px) (abs_lt oy)
  have n0 : 0 < x2.natAbs * y2.natAbs := Nat.mul_pos (by omega) (by omega)
  have hn := half_prod (abs_lt oy) (abs_lt py)
  have o1 := fun W => of_any x1 ox W
  have o2 := fun W => of_any y2 py W
  have o3 := fun W => of_any y1 px W
  have o4 := fun W => of_any x2 oy W
  generalize (!(decide (x1 < 0)) == decide (y2 < 0)) = c5 at *
  generalize (!(decide (y1 < 0)) == decide (x2 < 0)) = c6 at *
  generalize (!(decide (x2 < 0)) == decide (y2 < 0)) = c7 at *
  generalize x1.natAbs * y2.natAbs = m5 at *
  generalize y1.natAbs * x2.natAbs = m6 at *
  generalize x2.natAbs * y2.natAbs = m7 at *
  have f5 : Fits (m5 : Int) := by unfold Fits; omega
  have f6 : Fits (m6 : Int) := by unfold Fits; omega
  have f56 : Fits ((m5 : Int) + m6) := by unfold Fits; omega
  have hA1 := fun W => add_w c5 c6 m5 m6 f5 f6 f56 W
  have hA2 := fun W => add_w c5 (!c6) m5 m6 f5 f6 f56 W
  obtain ⟨-, g1⟩ := plus_signed c5 c6 m5 m6 (by omega) (by omega)
  obtain ⟨-, g2⟩ := plus_signed c5 (!c6) m5 m6 (by omega) (by omega)
  obtain ⟨k1, e1, z1⟩ := pmag_nat c5 c6 m5 m6
  obtain ⟨k2, e2, z2⟩ := pmag_nat c5 (!c6) m5 m6
  rw [e1] at hA1 g1
  rw [e2] at hA2 g2
  generalize psgn c5 c6 (m5 : Int) m6 = c8 at *
  generalize psgn c5 (!c6) (m5 : Int) m6 = c9 at *
  have h8 : sgI c8 k1 = x1 * y2 + y1 * x2 := by
    rw [← s1, ← s2]; exact g1
  have h9 : sgI c9 k2 = x1 * y2 + -y1 * x2 := by
    rw [Int.neg_mul, ← s1, ← s2]
    refine g2.trans ?_
    unfold sgI
    cases c6 <;> simp
  have l1 : FitN k1 := by unfold FitN; omega
  have l2 : FitN k2 := by unfold FitN; omega
  have hI1 := fun W => is_any c8 c7 k1 m7 l1 n0 hn _ (by rw [h8, s3]; exact R) W
  have hI2 := fun W => is_any c9 c7 k2 m7 l2 n0 hn _ (by rw [h9, s3]; exact R') W
  unfold wv at *
  exact adds_walk an ad bn bd x1 x2 y1 y2 p q r t u v _ _ _ _ _ _ _ _ _ _ _ _ _ _ _ _ _ _ _ _ _ _ _ _ _ _ _ w G hS hD hva hvb hPa hPb o1 o2 o3 o4 hM1 hM2 hM3 hA1 hA2 hI1 hI2

namespace ratioCompares
open Go.ChangeShapes Go.WideShapes Go.ChangeAt Go.RowKit
open Go.ChangeMaps (open_string shut_string)
set_option maxRecDepth 100000 in
theorem lifted (os : Os) (started : os.Started) (H : Type) (enc : TypeId × Value → H) :
    ReturnsInHanded {} Tryd.checked os 10 .any (fun w args => (Rows.ratioComparesSpec.pre enc Tryd.prog Tryd.f10 [] false w args ∧ laidMet Tryd.prog laids w) ∧ sizedMet enc Tryd.prog Tryd.f10 (OpenSpec.ofChange Rows.ratioComparesSpec) false w args)
      (Rows.ratioComparesSpec.post enc Tryd.prog Tryd.f10 false true false false) := by
  refine wrap (C := Tryd.checked) (X := fun w _ => laidMet Tryd.prog laids w) (fun _ _ _ hh h => h.of_heap hh) own started (by kernel_rfl) Tryd.func10
    (ChangeSpec.witness_shaped (enc := enc) (C := Tryd.checked) (os := os) (X := fun w _ => laidMet Tryd.prog laids w) false (World.laidAll Tryd.prog os laids) #[.agg #[.int .i64 0, .int .i64 0], .agg #[.int .i64 0, .int .i64 0]] 8 (World.laidAll_os _ _ _) (laid_shaped os _) (by kernel_rfl) (by kernel_rfl) (by kernel_rfl) (laid_met os _)) ?_
  intro W base args ds gs before hval0 hW hL hS
  have G : Globs W := globs_of hL hS
  have hval : ∀ (j : Nat) t v, Tryd.f10.params[j]? = some t → args[j]? = some v → Value.okWide Tryd.prog W .any base t v := hval0
  have hW' := hW
  obtain ⟨p, q, hA0, hV, rfl, hfz, hnd⟩ := hW
  have hA : DataW.TrodAll enc Tryd.prog W 0 (fun _ => true) true Tryd.f10.params.toList args.toList ds p := hA0
  rw [Tryd.params10] at hA hval
  obtain ⟨v0, v1, d0, d1, p0, p1, rfl, rfl, rfl, h0, h1⟩ := trodAll_two hA
  obtain ⟨rfl, rfl⟩ := trodVars_none hV
  obtain ⟨an, ad, rfl, rfl, rfl, ia, ja⟩ := open_ratio (hval 0 23 v0 rfl rfl) h0
  obtain ⟨bn, bd, rfl, rfl, rfl, ib, jb⟩ := open_ratio (hval 1 23 v1 rfl rfl) h1
  clear hA0 hval0
  simp only [List.append_nil] at hW'
  refine (lcompares an ad bn bd ia ja ib jb W G).mono fun e W' ⟨he, hg⟩ => ?_
  subst he
  refine ⟨_, rfl, _, _, _, [], [], [], hW', ?_, ?_, rfl, ext_kept hg _, fun h => by cases h⟩
  · exact trodAll_mk1 (shut_bool Tryd.underlying4 _)
  · exact trodAll_mk2 (shut_ratio ia ja) (shut_ratio ib jb)

theorem holds : Rows.RatioComparesSaid :=
  OpenClaim.holds_of_wide 10 Tryd.f10 rfl rfl rfl rfl rfl rfl rfl ⟨rfl, rfl, rfl, rfl, rfl⟩ rfl rfl rfl rfl rfl (by kernel_rfl) Tryd.func10 (by kernel_rfl)
    (of_decide_eq_true (by kernel_rfl)) (by unfold Func.isWrapper; first | (rw [if_pos (by decide +kernel)]; kernel_rfl) | (rw [if_neg (by decide +kernel)]; exact ⟨rfl, rfl⟩))
    (fun os started H enc _ => lifted os started H enc)

theorem card_holds : Rows.RatioComparesCardSaid :=
  Claim7.holds_tied_plain_at .later [] [.data, .data, .data, .sentinel, .sentinel] true (true, "bbbaab33fab55bd816ac80e1e0d782c1e88fb0bbc056c970f732e874dd844292") true
    holds (fun _ h => by cases h) (by kernel_rfl) (fun _ h => by cases h) ratioCompares_row_tie rfl ⟨rfl, rfl⟩ (by kernel_rfl) rfl
    (fun f fn hf hfn => by
      obtain rfl : f = 10 := Option.some.inj ((show Tryd.prog.funcNamed "rootcause/rootcauselaw04.RatioCompares" = some 10 by kernel_rfl).symm.trans hf) |>.symm
      obtain rfl : fn = Tryd.f10 := (Option.some.inj (Tryd.func10.symm.trans hfn)).symm
      exact ⟨by kernel_rfl, fun j t ht => by
        rw [Tryd.params10] at ht
        have h3 : t = 23 := by
          rcases j with _ | _ | j
          · simpa using ht.symm
          · simpa using ht.symm
          · simp at ht
        subst h3
        exact (show Tryd.prog.wantsStandIn 23 = false by kernel_rfl)⟩)
    (by kernel_rfl)
#print axioms card_holds
end ratioCompares

namespace ratioMuls
open Go.ChangeShapes Go.WideShapes Go.ChangeAt Go.RowKit
open Go.ChangeMaps (open_string shut_string)
set_option maxRecDepth 100000 in
theorem lifted (os : Os) (started : os.Started) (H : Type) (enc : TypeId × Value → H) :
    ReturnsInHanded {} Tryd.checked os 8 .any (fun w args => (Rows.ratioMulsSpec.pre enc Tryd.prog Tryd.f8 [] false w args ∧ laidMet Tryd.prog laids w) ∧ sizedMet enc Tryd.prog Tryd.f8 (OpenSpec.ofChange Rows.ratioMulsSpec) false w args)
      (Rows.ratioMulsSpec.post enc Tryd.prog Tryd.f8 false true false false) := by
  refine wrap (C := Tryd.checked) (X := fun w _ => laidMet Tryd.prog laids w) (fun _ _ _ hh h => h.of_heap hh) own started (by kernel_rfl) Tryd.func8
    (ChangeSpec.witness_shaped (enc := enc) (C := Tryd.checked) (os := os) (X := fun w _ => laidMet Tryd.prog laids w) false (World.laidAll Tryd.prog os laids) #[.agg #[.int .i64 0, .int .i64 0], .agg #[.int .i64 0, .int .i64 0]] 8 (World.laidAll_os _ _ _) (laid_shaped os _) (by kernel_rfl) (by kernel_rfl) (by kernel_rfl) (laid_met os _)) ?_
  intro W base args ds gs before hval0 hW hL hS
  have G : Globs W := globs_of hL hS
  have hval : ∀ (j : Nat) t v, Tryd.f8.params[j]? = some t → args[j]? = some v → Value.okWide Tryd.prog W .any base t v := hval0
  have hW' := hW
  obtain ⟨p, q, hA0, hV, rfl, hfz, hnd⟩ := hW
  have hA : DataW.TrodAll enc Tryd.prog W 0 (fun _ => true) true Tryd.f8.params.toList args.toList ds p := hA0
  rw [Tryd.params8] at hA hval
  obtain ⟨v0, v1, d0, d1, p0, p1, rfl, rfl, rfl, h0, h1⟩ := trodAll_two hA
  obtain ⟨rfl, rfl⟩ := trodVars_none hV
  obtain ⟨an, ad, rfl, rfl, rfl, ia, ja⟩ := open_ratio (hval 0 23 v0 rfl rfl) h0
  obtain ⟨bn, bd, rfl, rfl, rfl, ib, jb⟩ := open_ratio (hval 1 23 v1 rfl rfl) h1
  clear hA0 hval0
  simp only [List.append_nil] at hW'
  refine (lmuls an ad bn bd ia ja ib jb W G).mono fun e W' ⟨he, hg⟩ => ?_
  subst he
  refine ⟨_, rfl, _, _, _, [], [], [], hW', ?_, ?_, rfl, ext_kept hg _, fun h => by cases h⟩
  · exact trodAll_mk1 (shut_bool Tryd.underlying4 _)
  · exact trodAll_mk2 (shut_ratio ia ja) (shut_ratio ib jb)

theorem holds : Rows.RatioMulsSaid :=
  OpenClaim.holds_of_wide 8 Tryd.f8 rfl rfl rfl rfl rfl rfl rfl ⟨rfl, rfl, rfl, rfl, rfl⟩ rfl rfl rfl rfl rfl (by kernel_rfl) Tryd.func8 (by kernel_rfl)
    (of_decide_eq_true (by kernel_rfl)) (by unfold Func.isWrapper; first | (rw [if_pos (by decide +kernel)]; kernel_rfl) | (rw [if_neg (by decide +kernel)]; exact ⟨rfl, rfl⟩))
    (fun os started H enc _ => lifted os started H enc)

theorem card_holds : Rows.RatioMulsCardSaid :=
  Claim7.holds_tied_plain_at .later [] [.data, .data, .data, .sentinel, .sentinel] true (true, "bbbaab33fab55bd816ac80e1e0d782c1e88fb0bbc056c970f732e874dd844292") true
    holds (fun _ h => by cases h) (by kernel_rfl) (fun _ h => by cases h) ratioMuls_row_tie rfl ⟨rfl, rfl⟩ (by kernel_rfl) rfl
    (fun f fn hf hfn => by
      obtain rfl : f = 8 := Option.some.inj ((show Tryd.prog.funcNamed "rootcause/rootcauselaw04.RatioMuls" = some 8 by kernel_rfl).symm.trans hf) |>.symm
      obtain rfl : fn = Tryd.f8 := (Option.some.inj (Tryd.func8.symm.trans hfn)).symm
      exact ⟨by kernel_rfl, fun j t ht => by
        rw [Tryd.params8] at ht
        have h3 : t = 23 := by
          rcases j with _ | _ | j
          · simpa using ht.symm
          · simpa using ht.symm
          · simp at ht
        subst h3
        exact (show Tryd.prog.wantsStandIn 23 = false by kernel_rfl)⟩)
    (by kernel_rfl)
#print axioms card_holds
end ratioMuls

namespace ratioAdds
open Go.ChangeShapes Go.WideShapes Go.ChangeAt Go.RowKit
open Go.ChangeMaps (open_string shut_string)
set_option maxRecDepth 100000 in
theorem lifted (os : Os) (started : os.Started) (H : Type) (enc : TypeId × Value → H) :
    ReturnsInHanded {} Tryd.checked os 7 .any (fun w args => (Rows.ratioAddsSpec.pre enc Tryd.prog Tryd.f7 [] false w args ∧ laidMet Tryd.prog laids w) ∧ sizedMet enc Tryd.prog Tryd.f7 (OpenSpec.ofChange Rows.ratioAddsSpec) false w args)
      (Rows.ratioAddsSpec.post enc Tryd.prog Tryd.f7 false true false false) := by
  refine wrap (C := Tryd.checked) (X := fun w _ => laidMet Tryd.prog laids w) (fun _ _ _ hh h => h.of_heap hh) own started (by kernel_rfl) Tryd.func7
    (ChangeSpec.witness_shaped (enc := enc) (C := Tryd.checked) (os := os) (X := fun w _ => laidMet Tryd.prog laids w) false (World.laidAll Tryd.prog os laids) #[.agg #[.int .i64 0, .int .i64 0], .agg #[.int .i64 0, .int .i64 0]] 8 (World.laidAll_os _ _ _) (laid_shaped os _) (by kernel_rfl) (by kernel_rfl) (by kernel_rfl) (laid_met os _)) ?_
  intro W base args ds gs before hval0 hW hL hS
  have G : Globs W := globs_of hL hS
  have hval : ∀ (j : Nat) t v, Tryd.f7.params[j]? = some t → args[j]? = some v → Value.okWide Tryd.prog W .any base t v := hval0
  have hW' := hW
  obtain ⟨p, q, hA0, hV, rfl, hfz, hnd⟩ := hW
  have hA : DataW.TrodAll enc Tryd.prog W 0 (fun _ => true) true Tryd.f7.params.toList args.toList ds p := hA0
  rw [Tryd.params7] at hA hval
  obtain ⟨v0, v1, d0, d1, p0, p1, rfl, rfl, rfl, h0, h1⟩ := trodAll_two hA
  obtain ⟨rfl, rfl⟩ := trodVars_none hV
  obtain ⟨an, ad, rfl, rfl, rfl, ia, ja⟩ := open_ratio (hval 0 23 v0 rfl rfl) h0
  obtain ⟨bn, bd, rfl, rfl, rfl, ib, jb⟩ := open_ratio (hval 1 23 v1 rfl rfl) h1
  clear hA0 hval0
  simp only [List.append_nil] at hW'
  refine (ladds an ad bn bd ia ja ib jb W G).mono fun e W' ⟨he, hg⟩ => ?_
  subst he
  refine ⟨_, rfl, _, _, _, [], [], [], hW', ?_, ?_, rfl, ext_kept hg _, fun h => by cases h⟩
  · exact trodAll_mk1 (shut_bool Tryd.underlying4 _)
  · exact trodAll_mk2 (shut_ratio ia ja) (shut_ratio ib jb)

theorem holds : Rows.RatioAddsSaid :=
  OpenClaim.holds_of_wide 7 Tryd.f7 rfl rfl rfl rfl rfl rfl rfl ⟨rfl, rfl, rfl, rfl, rfl⟩ rfl rfl rfl rfl rfl (by kernel_rfl) Tryd.func7 (by kernel_rfl)
    (of_decide_eq_true (by kernel_rfl)) (by unfold Func.isWrapper; first | (rw [if_pos (by decide +kernel)]; kernel_rfl) | (rw [if_neg (by decide +kernel)]; exact ⟨rfl, rfl⟩))
    (fun os started H enc _ => lifted os started H enc)

theorem card_holds : Rows.RatioAddsCardSaid :=
  Claim7.holds_tied_plain_at .later [] [.data, .data, .data, .sentinel, .sentinel] true (true, "bbbaab33fab55bd816ac80e1e0d782c1e88fb0bbc056c970f732e874dd844292") true
    holds (fun _ h => by cases h) (by kernel_rfl) (fun _ h => by cases h) ratioAdds_row_tie rfl ⟨rfl, rfl⟩ (by kernel_rfl) rfl
    (fun f fn hf hfn => by
      obtain rfl : f = 7 := Option.some.inj ((show Tryd.prog.funcNamed "rootcause/rootcauselaw04.RatioAdds" = some 7 by kernel_rfl).symm.trans hf) |>.symm
      obtain rfl : fn = Tryd.f7 := (Option.some.inj (Tryd.func7.symm.trans hfn)).symm
      exact ⟨by kernel_rfl, fun j t ht => by
        rw [Tryd.params7] at ht
        have h3 : t = 23 := by
          rcases j with _ | _ | j
          · simpa using ht.symm
          · simpa using ht.symm
          · simp at ht
        subst h3
        exact (show Tryd.prog.wantsStandIn 23 = false by kernel_rfl)⟩)
    (by kernel_rfl)
#print axioms card_holds
end ratioAdds

end Go.Proofs.YtifhgkdajnngnaaDoor
