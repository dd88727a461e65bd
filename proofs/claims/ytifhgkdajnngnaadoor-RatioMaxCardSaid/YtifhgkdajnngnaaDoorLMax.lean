/- Proved: for every input, rootcauselaw04.RatioMax returns true, and its arguments read as they did (the tied cards). Conditions: the cards' own (five variables of the library read as the program's initialisers lay them, tied to the text), and no others. -/
import Derived.Test.YtifhgkdajnngnaaDoorRP
import Derived.Test.YtifhgkdajnngnaaDoorRY
import Derived.Test.YtifhgkdajnngnaaDoorCards
namespace Go.Proofs.YtifhgkdajnngnaaDoor
open Go.RowKit Go.Par

theorem laidOut : laidOutB Tryd.prog = true := by kernel_rfl
theorem cell_lt {W : World} {a : Addr} {v : Value} (h : W.cell? a = some v) : a.block < W.heap.size := by
  apply Classical.byContradiction
  intro hn
  have e : W.heap[a.block]? = none := by simp; omega
  simp [World.cell?, e] at h
theorem add_block (a : Addr) (m : Nat) : (a.add m).block = a.block := by unfold Addr.add; split <;> rfl
theorem add_succ (a : Addr) (m : Nat) : a.add (m + 1) = ⟨(a.add m).block, (a.add m).off + 1, none⟩ := by
  unfold Addr.add
  by_cases h : m = 0
  · subst h; simp
  · simp [h, Nat.add_assoc]
section
open Go.ChangeShapes Go.WideShapes Go.Deep
variable {H : Type} {enc : TypeId × Value → H}
set_option maxRecDepth 100000 in
theorem open_ratios {W : World} {b base : Nat} {sp : Nat → Bool} {held : Bool} {v : Value} {d : DataW H} {p : List MemPlace}
    (hv : Value.okWide Tryd.prog W .any b 46 v) (h : DataW.Trod enc Tryd.prog W base sp held 46 v d p) :
    ∃ (A : Option Addr) (n c : Nat) (L : List (Int × Int)), v = .slice A n c ∧ n ≤ c ∧ c ≤ maxLen ∧ RSl W A n L := by
  obtain ⟨a0, n0, c0, rfl⟩ := okWide_slice Tryd.underlying46 hv
  obtain ⟨fuel, hf⟩ := h
  rcases Go.Deep.open_slice Tryd.underlying46 hf with ⟨hc, -⟩ | ⟨a, len, cap, m, n, D, Pl, hc, -, hl, hm, hmm, -, hi⟩
  · simp only [Value.cells, List.cons.injEq, Value.slice.injEq, and_true] at hc
    obtain ⟨rfl, rfl, rfl⟩ := hc
    exact ⟨none, 0, 0, [], rfl, Nat.le_refl _, Nat.zero_le _, rfl, fun i hi => absurd hi (by omega)⟩
  · simp only [Value.cells, List.cons.injEq, Value.slice.injEq, and_true] at hc
    obtain ⟨rfl, rfl, rfl⟩ := hc
    have hlm : n0 ≤ m := by rw [hmm]; split <;> omega
    have key : ∀ i, i < n0 → ∃ x y : Int, W.cell? (a.add (i * 2)) = some (.int .i64 x) ∧ W.cell? ⟨(a.add (i * 2)).block, (a.add (i * 2)).off + 1, none⟩ = some (.int .i64 y) ∧ InI x ∧ InI y := by
      intro i hil
      obtain ⟨cs, hcs, ht⟩ := hi i (by omega)
      rw [cells23] at hcs
      obtain ⟨_, hcl, hat⟩ := World.cells?_some hcs
      obtain ⟨y0, y1, n', -, -, h0, h1⟩ := trod_struct2 Tryd.underlying23 ht
      match cs, hcl with
      | [c0, c1], _ =>
        have e0 : DataW.trod enc Tryd.prog W base sp held n' 2 [c0] = some y0 := h0
        have e1 : DataW.trod enc Tryd.prog W base sp held n' 2 [c1] = some y1 := h1
        obtain ⟨x, ex, -, wx⟩ := DataW.trod_int Tryd.underlying2 e0
        obtain ⟨y, ey, -, wy⟩ := DataW.trod_int Tryd.underlying2 e1
        simp only [List.cons.injEq, and_true] at ex ey
        subst ex ey
        have a0 := hat 0 (by omega)
        have a1 := hat 1 (by omega)
        refine ⟨x, y, ?_, ?_, of_wf wx, of_wf wy⟩
        · have : (a.add (i * 2)).add 0 = a.add (i * 2) := by simp [Addr.add]
          rw [this] at a0
          exact a0
        · have : (a.add (i * 2)).add 1 = ⟨(a.add (i * 2)).block, (a.add (i * 2)).off + 1, none⟩ := by simp [Addr.add]
          rw [this] at a1
          exact a1
    let X : Nat → Int × Int := fun i => (match W.cell? (a.add (i * 2)) with | some (.int _ x) => x | _ => 0, match W.cell? ⟨(a.add (i * 2)).block, (a.add (i * 2)).off + 1, none⟩ with | some (.int _ y) => y | _ => 0)
    refine ⟨some a, n0, c0, (List.range n0).map X, rfl, hl, hm, by simp, fun i hil => ?_⟩
    obtain ⟨x, y, h0, h1, ix, iy⟩ := key i hil
    refine ⟨a, x, y, rfl, ?_, ?_, h0, h1, ix, iy⟩
    · rw [List.getElem?_map, List.getElem?_range hil]
      simp only [Option.map_some, X, h0, h1]
    · have := cell_lt h0
      rwa [add_block] at this
end
theorem cmpI_neg (x y : Int) : cmpI y x = -cmpI x y := by
  unfold cmpI
  by_cases h1 : x < y
  · rw [if_pos h1, if_neg (by omega), if_neg (by omega)]; rfl
  · by_cases h2 : x = y
    · subst h2; rw [if_neg h1, if_pos rfl]; rfl
    · rw [if_neg h1, if_neg h2, if_pos (by omega)]
theorem one_one {n d : Int} (v : validB n d = true) : oneP (oneP n d).1 (oneP n d).2 = oneP n d := one_of_pos (valid_one v).1
theorem cmp_one {a b n d : Int} (v : validB n d = true) : cmpP a b (oneP n d).1 (oneP n d).2 = cmpP a b n d := by
  unfold cmpP; rw [one_one v]
def Best (L : List (Int × Int)) (b : Int × Int) : Prop :=
  (b = (0, 0) ∧ ∀ r ∈ L, validB r.1 r.2 = false) ∨ ∃ r ∈ L, validB r.1 r.2 = true ∧ b = oneP r.1 r.2 ∧ ∀ s ∈ L, validB s.1 s.2 = true → cmpP s.1 s.2 r.1 r.2 ≤ 0
theorem best_step {L : List (Int × Int)} {b r : Int × Int} (h : Best L b) : Best (L ++ [r]) (bestF b r) := by
  unfold bestF better
  cases v : validB r.1 r.2 with
  | false =>
    simp only [Bool.false_and, Bool.false_eq_true, if_false]
    rcases h with ⟨rfl, h⟩ | ⟨q, hq, vq, e, hs⟩
    · refine .inl ⟨rfl, fun s hs => ?_⟩
      rcases List.mem_append.1 hs with hs | hs
      · exact h s hs
      · obtain rfl := List.mem_singleton.1 hs; exact v
    · refine .inr ⟨q, List.mem_append.2 (.inl hq), vq, e, fun s hs' vs => ?_⟩
      rcases List.mem_append.1 hs' with hs' | hs'
      · exact hs s hs' vs
      · obtain rfl := List.mem_singleton.1 hs'; rw [v] at vs; cases vs
  | true =>
    simp only [Bool.true_and]
    rcases h with ⟨rfl, h⟩ | ⟨q, hq, vq, rfl, hs⟩
    · simp only [decide_true, Bool.true_or, if_true]
      refine .inr ⟨r, by simp, v, rfl, fun s hs vs => ?_⟩
      rcases List.mem_append.1 hs with hs | hs
      · rw [h s hs] at vs; cases vs
      · obtain rfl := List.mem_singleton.1 hs; rw [cmp_self]; exact Int.le_refl _
    · have hne : ¬ oneP q.1 q.2 = (0, 0) := by
        intro e
        have := (valid_one vq).1
        rw [e] at this
        exact absurd this (by decide)
      have hne' : decide (oneP q.1 q.2 = (0, 0)) = false := by simp [hne]
      rw [hne', cmp_one vq, Bool.false_or]
      have r0 := (valid_one v).1
      have q0 := (valid_one vq).1
      by_cases hc : 0 < cmpP r.1 r.2 q.1 q.2
      · simp only [hc, decide_true, if_true]
        refine .inr ⟨r, by simp, v, rfl, fun s hs' vs => ?_⟩
        rcases List.mem_append.1 hs' with hs' | hs'
        · have h1 := hs s hs' vs
          have h2 : cmpP q.1 q.2 r.1 r.2 ≤ 0 := by
            have : cmpP q.1 q.2 r.1 r.2 = -cmpP r.1 r.2 q.1 q.2 := cmpI_neg _ _
            omega
          have := cmp_trans (valid_one vs).1 q0 r0 h1 h2
          omega
        · obtain rfl := List.mem_singleton.1 hs'; rw [cmp_self]; exact Int.le_refl _
      · simp only [hc, decide_false, Bool.false_eq_true, if_false]
        refine .inr ⟨q, List.mem_append.2 (.inl hq), vq, rfl, fun s hs' vs => ?_⟩
        rcases List.mem_append.1 hs' with hs' | hs'
        · exact hs s hs' vs
        · obtain rfl := List.mem_singleton.1 hs'; omega
theorem best_fold : ∀ (L P : List (Int × Int)) (b : Int × Int), Best P b → Best (P ++ L) (L.foldl bestF b)
  | [], P, b, h => by simpa using h
  | r :: L, P, b, h => by
    have := best_fold L (P ++ [r]) (bestF b r) (best_step h)
    simpa using this
theorem best_is (L : List (Int × Int)) : Best L (bestL L) := by
  have := best_fold L [] (0, 0) (.inl ⟨rfl, by simp⟩)
  simpa [bestL] using this
theorem best_facts (L : List (Int × Int)) (hL : ∀ r ∈ L, InI r.1 ∧ InI r.2) :
    let m := oneP (bestL L).1 (bestL L).2
    InI m.1 ∧ InI m.2 ∧ validB m.1 m.2 = true ∧ (∀ r ∈ L, validB r.1 r.2 = true → cmpP r.1 r.2 m.1 m.2 ≤ 0) ∧ (someL (m.1, m.2) L = true ∨ (m.1 = 0 ∧ m.2 = 1)) := by
  intro m
  rcases best_is L with ⟨hb, h⟩ | ⟨q, hq, vq, hb, hs⟩
  · have hm : m = (0, 1) := by show oneP (bestL L).1 (bestL L).2 = (0, 1); rw [hb]; rfl
    rw [hm]
    exact ⟨⟨by decide, by decide⟩, ⟨by decide, by decide⟩, by decide, (fun r hr v => by rw [h r hr] at v; cases v), .inr ⟨rfl, rfl⟩⟩
  · have hm : m = oneP q.1 q.2 := by show oneP (bestL L).1 (bestL L).2 = _; rw [hb, one_one vq]
    rw [hm]
    obtain ⟨o0, oc⟩ := valid_one vq
    have hi : InI (oneP q.1 q.2).1 ∧ InI (oneP q.1 q.2).2 := by
      unfold oneP; split
      · exact ⟨⟨by decide, by decide⟩, ⟨by decide, by decide⟩⟩
      · exact hL q hq
    refine ⟨hi.1, hi.2, valid_of o0 oc, (fun r hr v => by rw [cmp_one vq]; exact hs r hr v), .inl ?_⟩
    unfold someL
    rw [List.any_eq_true]
    refine ⟨q, hq, ?_⟩
    have hp : plainP q.1 q.2 = oneP q.1 q.2 := by
      unfold plainP oneP
      by_cases h : q.2 = 0
      · have : q.1 = 0 := by simpa [validB, h] using vq
        simp [h, this]
      · simp [h]
    unfold hit
    rw [cmp_one vq, cmp_self, hp, vq]
    simp
theorem rsl_in {W : World} {A : Option Addr} {n : Nat} {L : List (Int × Int)} (h : RSl W A n L) : ∀ r ∈ L, InI r.1 ∧ InI r.2 := by
  intro r hr
  obtain ⟨i, hi, rfl⟩ := List.mem_iff_getElem.1 hr
  obtain ⟨a, x, y, -, e, -, -, -, ix, iy⟩ := h.2 i (by rw [← h.1]; exact hi)
  rw [List.getElem?_eq_getElem hi] at e
  rw [Option.some.inj e]
  exact ⟨ix, iy⟩
theorem lmax {w : World} (A : Option Addr) (n c : Nat) (L : List (Int × Int)) (hn : n ≤ c) (hc : c ≤ maxLen) (hS : RSl w A n L) (G : Globs w) :
    Calls Tryd.prog 12 #[.slice A n c] w fun e w' => e = .returned (.bool true) ∧ Ext w w' := by
  by_cases h20 : n ≤ 20
  · obtain ⟨im, jm, vm, hle, hs⟩ := best_facts L (rsl_in hS)
    exact lmax_short A n c L w G h20 hn hc hS _ _ im jm vm (fun W hW => max_any A n c L W (by unfold maxLen at *; omega) hW) hle hs
  · obtain ⟨im, jm, vm, hle, hs⟩ := best_facts (L.take 20) (fun r hr => rsl_in hS r (List.mem_of_mem_take hr))
    exact lmax_long A n c L w G (by omega) (by unfold maxLen at *; omega) hn hc hS _ _ im jm vm (fun W hW => max_any A 20 c (L.take 20) W (by unfold maxLen; omega) hW) hle hs

namespace ratioMax
open Go.ChangeShapes Go.WideShapes Go.ChangeAt Go.RowKit
open Go.ChangeMaps (open_string shut_string)
set_option maxRecDepth 100000 in
theorem lifted (os : Os) (started : os.Started) (H : Type) (enc : TypeId × Value → H) :
    ReturnsInHanded {} Tryd.checked os 12 .any (fun w args => (Rows.ratioMaxSpec.pre enc Tryd.prog Tryd.f12 [] false w args ∧ laidMet Tryd.prog laids w) ∧ sizedMet enc Tryd.prog Tryd.f12 (OpenSpec.ofChange Rows.ratioMaxSpec) false w args)
      (Rows.ratioMaxSpec.post enc Tryd.prog Tryd.f12 false true false false) := by
  refine wrap (C := Tryd.checked) (X := fun w _ => laidMet Tryd.prog laids w) (fun _ _ _ hh h => h.of_heap hh) own started (by kernel_rfl) Tryd.func12
    (ChangeSpec.witness_shaped (enc := enc) (C := Tryd.checked) (os := os) (X := fun w _ => laidMet Tryd.prog laids w) false (World.laidAll Tryd.prog os laids) #[.slice none 0 0] 8 (World.laidAll_os _ _ _) (laid_shaped os _) (by kernel_rfl) (by kernel_rfl) (by kernel_rfl) (laid_met os _)) ?_
  intro W base args ds gs before hval0 hW hL hS
  have G : Globs W := globs_of hL hS
  have hval : ∀ (j : Nat) t v, Tryd.f12.params[j]? = some t → args[j]? = some v → Value.okWide Tryd.prog W .any base t v := hval0
  have hW' := hW
  obtain ⟨p, q, hA0, hV, rfl, hfz, hnd⟩ := hW
  have hA : DataW.TrodAll enc Tryd.prog W 0 (fun _ => true) true Tryd.f12.params.toList args.toList ds p := hA0
  rw [Tryd.params12] at hA hval
  obtain ⟨v0, d0, rfl, rfl, h0⟩ := trodAll_one hA
  obtain ⟨rfl, rfl⟩ := trodVars_none hV
  have h0k := h0
  obtain ⟨A, n, c, L, rfl, hn, hc, hS⟩ := open_ratios (hval 0 46 v0 rfl rfl) h0
  have hlt : ∀ x ∈ p, x.block < W.heap.size := fun x hx => hW'.lt x (by simpa using hx)
  clear hA0 hval0
  simp only [List.append_nil] at hW'
  refine ((fun (_ : World) G => lmax A n c L hn hc hS G) W G).mono fun e W' ⟨he, hg⟩ => ?_
  subst he
  refine ⟨_, rfl, _, _, _, [], p, [], hW', ?_, ?_, rfl, ext_kept hg _, fun h => by cases h⟩
  · exact trodAll_mk1 (shut_bool Tryd.underlying4 _)
  · exact trodAll_mk1 (Below.trod laidOut (by kernel_rfl) (of_decide_eq_true (by kernel_rfl)) h0k hg.below hlt)

theorem holds : Rows.RatioMaxSaid :=
  OpenClaim.holds_of_wide 12 Tryd.f12 rfl rfl rfl rfl rfl rfl rfl ⟨rfl, rfl, rfl, rfl, rfl⟩ rfl rfl rfl rfl rfl (by kernel_rfl) Tryd.func12 (by kernel_rfl)
    (of_decide_eq_true (by kernel_rfl)) (by unfold Func.isWrapper; first | (rw [if_pos (by decide +kernel)]; kernel_rfl) | (rw [if_neg (by decide +kernel)]; exact ⟨rfl, rfl⟩))
    (fun os started H enc _ => lifted os started H enc)

theorem card_holds : Rows.RatioMaxCardSaid :=
  Claim7.holds_tied_plain_at .later [] [.data, .data, .data, .sentinel, .sentinel] true (true, "bbbaab33fab55bd816ac80e1e0d782c1e88fb0bbc056c970f732e874dd844292") true
    holds (fun _ h => by cases h) (by kernel_rfl) (fun _ h => by cases h) ratioMax_row_tie rfl ⟨rfl, rfl⟩ (by kernel_rfl) rfl
    (fun f fn hf hfn => by
      obtain rfl : f = 12 := Option.some.inj ((show Tryd.prog.funcNamed "rootcause/rootcauselaw04.RatioMax" = some 12 by kernel_rfl).symm.trans hf) |>.symm
      obtain rfl : fn = Tryd.f12 := (Option.some.inj (Tryd.func12.symm.trans hfn)).symm
      exact ⟨by kernel_rfl, fun j t ht => by
        rw [Tryd.params12] at ht
        have h3 : t = 46 := by
          rcases j with _ | j
          · simpa using ht.symm
          · simp at ht
        subst h3
        exact (show Tryd.prog.wantsStandIn 46 = false by kernel_rfl)⟩)
    (by kernel_rfl)
#print axioms card_holds
end ratioMax

end Go.Proofs.YtifhgkdajnngnaaDoor
