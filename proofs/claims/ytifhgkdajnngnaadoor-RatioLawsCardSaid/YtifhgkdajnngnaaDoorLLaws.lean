/- Proved: for every three fractions, rootcauselaw04.RatioLaws returns true, and its arguments read as they did (the tied card RatioLawsCardSaid). Its conditions: the card's own (five variables of the library read as the program's initialisers lay them, tied to the text), and no others. -/
import Derived.Test.YtifhgkdajnngnaaDoorRY
import Derived.Test.YtifhgkdajnngnaaDoorRZ1
import Derived.Test.YtifhgkdajnngnaaDoorRZ2
import Derived.Test.YtifhgkdajnngnaaDoorCards
namespace Go.Proofs.YtifhgkdajnngnaaDoor
open Go.RowKit Go.Par

def addR (an ad bn bd : Int) : Int × Int × Int := sumR (oneP an ad).1 (oneP an ad).2 (oneP bn bd).1 (oneP bn bd).2 false
def mulR (an ad bn bd : Int) : Int × Int × Int :=
  res (!(decide ((oneP an ad).1 < 0)) == (decide ((oneP bn bd).1 < 0))) (((oneP an ad).1.natAbs : Int) / Nat.gcd (oneP an ad).1.natAbs (oneP bn bd).2.natAbs * ((oneP bn bd).1.natAbs / Nat.gcd (oneP bn bd).1.natAbs (oneP an ad).2.natAbs))
        (((oneP an ad).2.natAbs : Int) / Nat.gcd (oneP bn bd).1.natAbs (oneP an ad).2.natAbs * ((oneP bn bd).2.natAbs / Nat.gcd (oneP an ad).1.natAbs (oneP bn bd).2.natAbs))
theorem add_ext (an ad bn bd : Int) (va : validB an ad = true) (vb : validB bn bd = true) (ia : InI an) (ja : InI ad) (ib : InI bn) (jb : InI bd) (W : World) :
    Calls Tryd.prog 23 #[.agg #[.int .i64 an, .int .i64 ad], .agg #[.int .i64 bn, .int .i64 bd]] W fun e w' =>
      e = .returned (.tuple #[.agg #[.int .i64 (addR an ad bn bd).1, .int .i64 (addR an ad bn bd).2.1], .int .i64 (addR an ad bn bd).2.2]) ∧ Ext W w' :=
  add_ok an ad bn bd W va vb ia ja ib jb
theorem mul_ext (an ad bn bd : Int) (va : validB an ad = true) (vb : validB bn bd = true) (ia : InI an) (ja : InI ad) (ib : InI bn) (jb : InI bd) (W : World) :
    Calls Tryd.prog 27 #[.agg #[.int .i64 an, .int .i64 ad], .agg #[.int .i64 bn, .int .i64 bd]] W fun e w' =>
      e = .returned (.tuple #[.agg #[.int .i64 (mulR an ad bn bd).1, .int .i64 (mulR an ad bn bd).2.1], .int .i64 (mulR an ad bn bd).2.2]) ∧ Ext W w' :=
  mul_ok an ad bn bd W va vb ia ja ib jb _ rfl
theorem add_rat {an ad bn bd : Int} (va : validB an ad = true) (vb : validB bn bd = true) :
    Rat ((oneP an ad).1 * (oneP bn bd).2 + (oneP bn bd).1 * (oneP an ad).2) ((oneP an ad).2 * (oneP bn bd).2) (addR an ad bn bd) := by
  obtain ⟨a0, ca⟩ := valid_one va
  obtain ⟨b0, cb⟩ := valid_one vb
  exact sum_rat _ _ _ _ false a0 b0 ca cb
theorem mulR_rat {an ad bn bd : Int} (va : validB an ad = true) (vb : validB bn bd = true) :
    Rat ((oneP an ad).1 * (oneP bn bd).1) ((oneP an ad).2 * (oneP bn bd).2) (mulR an ad bn bd) := by
  obtain ⟨a0, ca⟩ := valid_one va
  obtain ⟨b0, cb⟩ := valid_one vb
  exact mul_rat _ _ _ _ a0 b0 ca cb _ rfl
theorem rat_cases {N D : Int} {r : Int × Int × Int} (h : Rat N D r) : ∃ p q e, r = (p, q, e) ∧ validB p q = true ∧ InI p ∧ InI q ∧ (e = 3 ∨ (e = 0 ∧ oneP p q = (p, q) ∧ 0 < q ∧ p * D = N * q)) := by
  obtain ⟨p, q, q0, c, e, h⟩ := h
  rcases h with ⟨rfl, ip, iq⟩ | ⟨rfl, -⟩
  · exact ⟨p, q, 0, rfl, valid_of q0 c, ip, iq, .inr ⟨rfl, one_of_pos q0, q0, e⟩⟩
  · exact ⟨0, 0, 3, rfl, by decide, ⟨by decide, by decide⟩, ⟨by decide, by decide⟩, .inl rfl⟩
theorem distr {a1 a2 b1 b2 c1 c2 s1 s2 y1 y2 z1 z2 : Int} (a0 : 0 < a2) (b0 : 0 < b2) (c0 : 0 < c2)
    (es : s1 * (a2 * b2) = (a1 * b2 + b1 * a2) * s2) (ey : y1 * (a2 * c2) = (a1 * c1) * y2) (ez : z1 * (b2 * c2) = (b1 * c1) * z2) :
    (s1 * c1) * (y2 * z2) = (y1 * z2 + z1 * y2) * (s2 * c2) := by
  have hD : a2 * b2 * c2 ≠ 0 := Int.ne_of_gt (Int.mul_pos (Int.mul_pos a0 b0) c0)
  apply Int.eq_of_mul_eq_mul_right (a := a2 * b2 * c2) hD
  calc (s1 * c1) * (y2 * z2) * (a2 * b2 * c2) = (s1 * (a2 * b2)) * (c1 * c2 * (y2 * z2)) := by ac_rfl
    _ = (a1 * b2 + b1 * a2) * s2 * (c1 * c2 * (y2 * z2)) := by rw [es]
    _ = (a1 * b2 + b1 * a2) * (s2 * (c1 * c2 * (y2 * z2))) := by ac_rfl
    _ = (a1 * c1) * y2 * (z2 * b2 * (s2 * c2)) + (b1 * c1) * z2 * (y2 * a2 * (s2 * c2)) := by rw [Int.add_mul]; congr 1 <;> ac_rfl
    _ = y1 * (a2 * c2) * (z2 * b2 * (s2 * c2)) + z1 * (b2 * c2) * (y2 * a2 * (s2 * c2)) := by rw [ey, ez]
    _ = (y1 * z2) * (a2 * b2 * c2 * (s2 * c2)) + (z1 * y2) * (a2 * b2 * c2 * (s2 * c2)) := by congr 1 <;> ac_rfl
    _ = (y1 * z2 + z1 * y2) * (a2 * b2 * c2 * (s2 * c2)) := by rw [← Int.add_mul]
    _ = (y1 * z2 + z1 * y2) * (s2 * c2) * (a2 * b2 * c2) := by ac_rfl

theorem laws_walk (an ad bn bd cn cd : Int) (ia : InI an) (ja : InI ad) (ib : InI bn) (jb : InI bd) (ic : InI cn) (jc : InI cd) (w : World) (G : Globs w) :
    Calls Tryd.prog 9 #[.agg #[.int .i64 an, .int .i64 ad], .agg #[.int .i64 bn, .int .i64 bd], .agg #[.int .i64 cn, .int .i64 cd]] w fun e w' => e = .returned (.bool true) ∧ Ext w w' := by
  have hva := valid_ext an ad ia ja
  have hvb := valid_ext bn bd ib jb
  have hvc := valid_ext cn cd ic jc
  cases va : validB an ad with
  | false => rw [va] at hva; exact laws_va an ad bn bd cn cd w G hva
  | true =>
  rw [va] at hva
  cases vb : validB bn bd with
  | false => rw [vb] at hvb; exact laws_vb an ad bn bd cn cd w G hva hvb
  | true =>
  rw [vb] at hvb
  cases vc : validB cn cd with
  | false => rw [vc] at hvc; exact laws_vc an ad bn bd cn cd w G hva hvb hvc
  | true =>
  rw [vc] at hvc
  have a0 := (valid_one va).1
  have b0 := (valid_one vb).1
  have c0 := (valid_one vc).1
  have hab := add_ext an ad bn bd va vb ia ja ib jb
  have hba := add_ext bn bd an ad vb va ib jb ia ja
  have pab := mul_ext an ad bn bd va vb ia ja ib jb
  have pba := mul_ext bn bd an ad vb va ib jb ia ja
  have e1 : addR bn bd an ad = addR an ad bn bd := Rat.same (Int.mul_pos b0 a0) (Int.mul_pos a0 b0) (by rw [Int.add_comm]; ac_rfl) (add_rat vb va) (add_rat va vb)
  have e2 : mulR bn bd an ad = mulR an ad bn bd := Rat.same (Int.mul_pos b0 a0) (Int.mul_pos a0 b0) (by ac_rfl) (mulR_rat vb va) (mulR_rat va vb)
  rw [e1] at hba
  rw [e2] at pba
  obtain ⟨s1, s2, se, hS, vs, is, js, cs⟩ := rat_cases (add_rat va vb)
  obtain ⟨p1, p2, pe, hP, vp, ip, jp, cp⟩ := rat_cases (mulR_rat va vb)
  rw [hS] at hab hba
  rw [hP] at pab pba
  obtain ⟨x1, x2, xe, hX, vx, ix, jx, cx⟩ := rat_cases (mulR_rat vs vc)
  obtain ⟨y1, y2, ye, hY, vy, iy, jy, cy⟩ := rat_cases (mulR_rat va vc)
  obtain ⟨z1, z2, ze, hZ, vz, iz, jz, cz⟩ := rat_cases (mulR_rat vb vc)
  have mx := mul_ext s1 s2 cn cd vs vc is js ic jc
  have my := mul_ext an ad cn cd va vc ia ja ic jc
  have mz := mul_ext bn bd cn cd vb vc ib jb ic jc
  have av := add_ext y1 y2 z1 z2 vy vz iy jy iz jz
  rw [hX] at mx
  rw [hY] at my
  rw [hZ] at mz
  obtain ⟨v1, v2, ve, hV, vv, iv, jv, cv⟩ := rat_cases (add_rat vy vz)
  rw [hV] at av
  rcases cs with rfl | ⟨rfl, os, qs, es⟩
  · exact laws_0 an ad bn bd cn cd s1 s2 p1 p2 pe x1 x2 y1 y2 z1 z2 v1 v2 xe ye ze ve w G hva hvb hvc hab hba pab pba mx my mz av
  rcases cx with rfl | ⟨rfl, ox, qx, ex⟩
  · exact laws_1 an ad bn bd cn cd s1 s2 p1 p2 pe x1 x2 y1 y2 z1 z2 v1 v2 ye ze ve w G hva hvb hvc hab hba pab pba mx my mz av
  rcases cy with rfl | ⟨rfl, oy, qy, ey⟩
  · exact laws_2 an ad bn bd cn cd s1 s2 p1 p2 pe x1 x2 y1 y2 z1 z2 v1 v2 ze ve w G hva hvb hvc hab hba pab pba mx my mz av
  rcases cz with rfl | ⟨rfl, oz, qz, ez⟩
  · exact laws_3 an ad bn bd cn cd s1 s2 p1 p2 pe x1 x2 y1 y2 z1 z2 v1 v2 ve w G hva hvb hvc hab hba pab pba mx my mz av
  rcases cv with rfl | ⟨rfl, ov, qv, ev⟩
  · exact laws_4 an ad bn bd cn cd s1 s2 p1 p2 pe x1 x2 y1 y2 z1 z2 v1 v2 w G hva hvb hvc hab hba pab pba mx my mz av
  have same : mulR s1 s2 cn cd = addR y1 y2 z1 z2 := by
    have r1 := mulR_rat vs vc
    have r2 := add_rat vy vz
    rw [os] at r1
    rw [oy, oz] at r2
    exact Rat.same (Int.mul_pos qs c0) (Int.mul_pos qy qz) (distr a0 b0 c0 es ey ez) r1 r2
  have : (v1, v2, (0 : Int)) = (x1, x2, 0) := by rw [← hV, ← same, hX]
  rw [this] at av
  exact laws_5 an ad bn bd cn cd s1 s2 p1 p2 pe x1 x2 y1 y2 z1 z2 w G hva hvb hvc hab hba pab pba mx my mz av

namespace ratioLaws
open Go.ChangeShapes Go.WideShapes Go.ChangeAt Go.RowKit
open Go.ChangeMaps (open_string shut_string)
set_option maxRecDepth 100000 in
theorem lifted (os : Os) (started : os.Started) (H : Type) (enc : TypeId × Value → H) :
    ReturnsInHanded {} Tryd.checked os 9 .any (fun w args => (Rows.ratioLawsSpec.pre enc Tryd.prog Tryd.f9 [] false w args ∧ laidMet Tryd.prog laids w) ∧ sizedMet enc Tryd.prog Tryd.f9 (OpenSpec.ofChange Rows.ratioLawsSpec) false w args)
      (Rows.ratioLawsSpec.post enc Tryd.prog Tryd.f9 false true false false) := by
  refine wrap (C := Tryd.checked) (X := fun w _ => laidMet Tryd.prog laids w) (fun _ _ _ hh h => h.of_heap hh) own started (by kernel_rfl) Tryd.func9
    (ChangeSpec.witness_shaped (enc := enc) (C := Tryd.checked) (os := os) (X := fun w _ => laidMet Tryd.prog laids w) false (World.laidAll Tryd.prog os laids) #[.agg #[.int .i64 0, .int .i64 0], .agg #[.int .i64 0, .int .i64 0], .agg #[.int .i64 0, .int .i64 0]] 8 (World.laidAll_os _ _ _) (laid_shaped os _) (by kernel_rfl) (by kernel_rfl) (by kernel_rfl) (laid_met os _)) ?_
  intro W base args ds gs before hval0 hW hL hS
  have G : Globs W := globs_of hL hS
  have hval : ∀ (j : Nat) t v, Tryd.f9.params[j]? = some t → args[j]? = some v → Value.okWide Tryd.prog W .any base t v := hval0
  have hW' := hW
  obtain ⟨p, q, hA0, hV, rfl, hfz, hnd⟩ := hW
  have hA : DataW.TrodAll enc Tryd.prog W 0 (fun _ => true) true Tryd.f9.params.toList args.toList ds p := hA0
  rw [Tryd.params9] at hA hval
  obtain ⟨v0, v1, v2, d0, d1, d2, p0, p1, p2, rfl, rfl, rfl, h0, h1, h2⟩ := trodAll_three hA
  obtain ⟨rfl, rfl⟩ := trodVars_none hV
  obtain ⟨an, ad, rfl, rfl, rfl, ia, ja⟩ := open_ratio (hval 0 23 v0 rfl rfl) h0
  obtain ⟨bn, bd, rfl, rfl, rfl, ib, jb⟩ := open_ratio (hval 1 23 v1 rfl rfl) h1
  obtain ⟨cn, cd, rfl, rfl, rfl, ic, jc⟩ := open_ratio (hval 2 23 v2 rfl rfl) h2
  clear hA0 hval0
  simp only [List.append_nil] at hW'
  refine (laws_walk an ad bn bd cn cd ia ja ib jb ic jc W G).mono fun e W' ⟨he, hg⟩ => ?_
  subst he
  refine ⟨_, rfl, _, _, _, [], [], [], hW', ?_, ?_, rfl, ext_kept hg _, fun h => by cases h⟩
  · exact trodAll_mk1 (shut_bool Tryd.underlying4 _)
  · exact trodAll_mk3 (shut_ratio ia ja) (shut_ratio ib jb) (shut_ratio ic jc)

theorem holds : Rows.RatioLawsSaid :=
  OpenClaim.holds_of_wide 9 Tryd.f9 rfl rfl rfl rfl rfl rfl rfl ⟨rfl, rfl, rfl, rfl, rfl⟩ rfl rfl rfl rfl rfl (by kernel_rfl) Tryd.func9 (by kernel_rfl)
    (of_decide_eq_true (by kernel_rfl)) (by unfold Func.isWrapper; first | (rw [if_pos (by decide +kernel)]; kernel_rfl) | (rw [if_neg (by decide +kernel)]; exact ⟨rfl, rfl⟩))
    (fun os started H enc _ => lifted os started H enc)

theorem card_holds : Rows.RatioLawsCardSaid :=
  Claim7.holds_tied_plain_at .later [] [.data, .data, .data, .sentinel, .sentinel] true (true, "bbbaab33fab55bd816ac80e1e0d782c1e88fb0bbc056c970f732e874dd844292") true
    holds (fun _ h => by cases h) (by kernel_rfl) (fun _ h => by cases h) ratioLaws_row_tie rfl ⟨rfl, rfl⟩ (by kernel_rfl) rfl
    (fun f fn hf hfn => by
      obtain rfl : f = 9 := Option.some.inj ((show Tryd.prog.funcNamed "rootcause/rootcauselaw04.RatioLaws" = some 9 by kernel_rfl).symm.trans hf) |>.symm
      obtain rfl : fn = Tryd.f9 := (Option.some.inj (Tryd.func9.symm.trans hfn)).symm
      exact ⟨by kernel_rfl, fun j t ht => by
        rw [Tryd.params9] at ht
        have h3 : t = 23 := by
          rcases j with _ | _ | _ | j
          · simpa using ht.symm
          · simpa using ht.symm
          · simpa using ht.symm
          · simp at ht
        subst h3
        exact (show Tryd.prog.wantsStandIn 23 = false by kernel_rfl)⟩)
    (by kernel_rfl)
#print axioms card_holds
end ratioLaws

end Go.Proofs.YtifhgkdajnngnaaDoor
