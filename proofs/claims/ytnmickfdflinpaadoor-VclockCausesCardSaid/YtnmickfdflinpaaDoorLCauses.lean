/- Proved: for every input, rootcauselaw23.VclockCauses returns true, and its arguments read as they did (the tied card VclockCausesCardSaid). Conditions: the card's own (seven variables of the library read as the program's initialisers lay them, tied to the text), and no others. -/
import Derived.Test.YtnmickfdflinpaaDoorCR
import Derived.Test.YtnmickfdflinpaaDoorW0
import Derived.Test.YtnmickfdflinpaaDoorCards
namespace Go.Proofs.YtnmickfdflinpaaDoor
open Go.RowKit Go.Par Go.Sx
section
open Go.ChangeShapes Go.WideShapes Go.Deep
variable {H : Type} {enc : TypeId × Value → H}
theorem cells50 : Tryd.prog.cellsOf 50 = 3 := by kernel_rfl
set_option maxRecDepth 100000 in
theorem step_cells {W : World} {base : Nat} {sp : Nat → Bool} {held : Bool} {fuel : Nat} {cs : List Value} {x : DataW H × List MemPlace} (h : DataW.trod enc Tryd.prog W base sp held fuel 50 cs = some x) : ∀ c, c ∈ cs → ∃ x : Int, c = .int .u8 x ∧ 0 ≤ x ∧ x < 256 := by
  obtain ⟨xs, n, _, rfl, hl, hlen, hf⟩ := DataW.trod_struct Tryd.underlying50 h
  rw [cells50] at hl
  match cs, hl with
  | [c0, c1, c2], _ =>
    have hx : xs.length = 3 := hlen
    match xs, hx with
    | [y0, y1, y2], _ =>
      have k0 : DataW.trod enc Tryd.prog W base sp held n 5 (([c0, c1, c2].drop 0).take (Tryd.prog.cellsOf 5)) = some y0 := hf 0 _ rfl
      have k1 : DataW.trod enc Tryd.prog W base sp held n 5 (([c0, c1, c2].drop 1).take (Tryd.prog.cellsOf 5)) = some y1 := hf 1 _ rfl
      have k2 : DataW.trod enc Tryd.prog W base sp held n 5 (([c0, c1, c2].drop 2).take (Tryd.prog.cellsOf 5)) = some y2 := hf 2 _ rfl
      rw [cells5] at k0 k1 k2
      obtain ⟨i0, e0, -, w0⟩ := DataW.trod_int Tryd.underlying5 k0
      obtain ⟨i1, e1, -, w1⟩ := DataW.trod_int Tryd.underlying5 k1
      obtain ⟨i2, e2, -, w2⟩ := DataW.trod_int Tryd.underlying5 k2
      simp at e0 e1 e2
      subst e0 e1 e2
      intro c hc
      simp at hc
      rcases hc with rfl | rfl | rfl
      · exact ⟨_, rfl, of_wf8 w0⟩
      · exact ⟨_, rfl, of_wf8 w1⟩
      · exact ⟨_, rfl, of_wf8 w2⟩
set_option maxRecDepth 100000 in
theorem open_steps {W : World} {b base : Nat} {sp : Nat → Bool} {held : Bool} {v : Value} {d : DataW H} {p : List MemPlace}
    (hv : Value.okWide Tryd.prog W .any b 45 v) (h : DataW.Trod enc Tryd.prog W base sp held 45 v d p) :
    ∃ (q : Option Addr) (n c : Nat) (st : Nat → Nat → UInt8), v = .slice q n c ∧ n ≤ c ∧ c ≤ maxLen ∧ (n = 0 ∨ ∃ b off arr t m, q = some (⟨b, off, none⟩ : Addr) ∧ all W b = some (.cells arr t m) ∧ ∀ (i k : Nat), i < n → k < 3 → arr[off + i * 3 + k]? = some (byteV (st i k))) := by
  obtain ⟨a0, n0, c0, rfl⟩ := okWide_slice Tryd.underlying45 hv
  obtain ⟨fuel, hf⟩ := h
  rcases Go.Deep.open_slice Tryd.underlying45 hf with ⟨hc, -⟩ | ⟨a, len, cap, m, n, D, Pl, hc, -, hl, hm, hmm, -, hi⟩
  · simp only [Value.cells, List.cons.injEq, Value.slice.injEq, and_true] at hc
    obtain ⟨rfl, rfl, rfl⟩ := hc
    exact ⟨none, 0, 0, fun _ _ => 0, rfl, Nat.le_refl _, Nat.zero_le _, .inl rfl⟩
  · simp only [Value.cells, List.cons.injEq, Value.slice.injEq, and_true] at hc
    obtain ⟨rfl, rfl, rfl⟩ := hc
    have hlm : n0 ≤ m := by rw [hmm]; split <;> omega
    have key : ∀ i k, i < n0 → k < 3 → ∃ x : UInt8, W.cell? (a.add (i * 3 + k)) = some (byteV x) := by
      intro i k hil hk
      obtain ⟨cs, hcs, ht⟩ := hi i (by omega)
      rw [cells50] at hcs
      obtain ⟨_, hcl, hat⟩ := World.cells?_some hcs
      have hb : ∀ c, c ∈ cs → ∃ x : Int, c = .int .u8 x ∧ 0 ≤ x ∧ x < 256 := step_cells ht
      have hkl : k < cs.length := by omega
      have a0 := hat k hk
      obtain ⟨x, ex, h1, h2⟩ := hb cs[k] (List.getElem_mem hkl)
      refine ⟨UInt8.ofNat x.toNat, ?_⟩
      have e1 : (a.add (i * 3)).add k = a.add (i * 3 + k) := by
        unfold Addr.add
        by_cases h1 : k = 0 <;> by_cases h2 : i * 3 = 0 <;> simp [h1, h2, Nat.add_assoc]
      rw [e1] at a0
      rw [a0, List.getElem?_eq_getElem hkl, ex, byteV]
      congr 2
      rw [UInt8.toNat_ofNat']
      omega
    by_cases h0 : n0 = 0
    · exact ⟨some a, n0, c0, fun _ _ => 0, rfl, hl, hm, .inl h0⟩
    let f : Nat → Nat → UInt8 := fun i k => match W.cell? (a.add (i * 3 + k)) with | some (.int _ x) => UInt8.ofNat x.toNat | _ => 0
    have hf : ∀ i k, i < n0 → k < 3 → W.cell? (a.add (i * 3 + k)) = some (byteV (f i k)) := fun i k hi hk => by
      obtain ⟨x, hx⟩ := key i k hi hk
      have e : f i k = x := by
        simp only [f, hx, byteV]
        apply UInt8.toNat_inj.1
        rw [UInt8.toNat_ofNat']
        have := x.toNat_lt
        simp
      rw [e]; exact hx
    obtain ⟨cs, t, mm, hb, hs, _⟩ := cell_block (hf 0 0 (by omega) (by omega))
    obtain ⟨ab, ao, ap⟩ := a
    simp only [Addr.add] at hs hb
    subst hs
    refine ⟨some ⟨ab, ao, none⟩, n0, c0, f, rfl, hl, hm, .inr ⟨ab, ao, cs, t, mm, rfl, hb, fun i k hi hk => ?_⟩⟩
    have h2 := hf i k hi hk
    rw [Addr.add_lit] at h2
    obtain ⟨cs', t', m', hb', _, h3⟩ := cell_block h2
    have e2 := Option.some.inj (hb.symm.trans hb')
    injection e2 with e3
    subst e3
    rw [Nat.add_assoc]; exact h3
end
namespace vclockCauses
open Go.ChangeShapes Go.WideShapes Go.ChangeAt Go.RowKit
open Go.ChangeMaps (open_string shut_string)
set_option maxRecDepth 100000 in
theorem lifted (os : Os) (started : os.Started) (H : Type) (enc : TypeId × Value → H) :
    ReturnsInHanded {} Tryd.checked os 7 .any (fun w args => (Rows.vclockCausesSpec.pre enc Tryd.prog Tryd.f7 [] false w args ∧ laidMet Tryd.prog laids w) ∧ sizedMet enc Tryd.prog Tryd.f7 (OpenSpec.ofChange Rows.vclockCausesSpec) false w args)
      (Rows.vclockCausesSpec.post enc Tryd.prog Tryd.f7 false true false false) := by
  refine wrap (C := Tryd.checked) (X := fun w _ => laidMet Tryd.prog laids w) (fun _ _ _ hh h => h.of_heap hh) own started (by kernel_rfl) Tryd.func7
    (ChangeSpec.witness_shaped (enc := enc) (C := Tryd.checked) (os := os) (X := fun w _ => laidMet Tryd.prog laids w) false (World.laidAll Tryd.prog os laids) #[.slice none 0 0] 8 (World.laidAll_os _ _ _) (laid_shaped os _) (by kernel_rfl) (by kernel_rfl) (by kernel_rfl) (laid_met os _)) ?_
  intro W base args ds gs before hval0 hW hL hS
  have G : Globs W := globs_of hL hS
  have hval : ∀ (j : Nat) t v, Tryd.f7.params[j]? = some t → args[j]? = some v → Value.okWide Tryd.prog W .any base t v := hval0
  have hW' := hW
  obtain ⟨p, q, hA0, hV, rfl, hfz, hnd⟩ := hW
  have hA : DataW.TrodAll enc Tryd.prog W 0 (fun _ => true) true Tryd.f7.params.toList args.toList ds p := hA0
  rw [Tryd.params7] at hA hval
  obtain ⟨v0, d0, rfl, rfl, h0⟩ := trodAll_one hA
  obtain ⟨rfl, rfl⟩ := trodVars_none hV
  have k0 := h0
  have hlt0 : ∀ x ∈ p, x.block < W.heap.size := fun x hx => hW'.lt x (by simp [hx])
  obtain ⟨q0, n0, c0, st0, rfl, hc0, hcm0, hs0⟩ := open_steps (hval 0 45 v0 rfl rfl) h0
  clear hA0 hval0
  simp only [List.append_nil] at hW'
  refine (causes_any (all W) q0 n0 c0 st0 hc0 hcm0 hs0 W (all_agr W) G).mono fun e W' ⟨he, hg⟩ => ?_
  subst he
  refine ⟨_, rfl, _, _, _, [], p, [], hW', ?_, ?_, rfl, ext_kept hg _, fun h => by cases h⟩
  · exact trodAll_mk1 (shut_bool Tryd.underlying4 _)
  · exact trodAll_mk1 (Below.trod laidOut (by kernel_rfl) (of_decide_eq_true (by kernel_rfl)) k0 hg.below hlt0)

theorem holds : Rows.VclockCausesSaid :=
  OpenClaim.holds_of_wide 7 Tryd.f7 rfl rfl rfl rfl rfl rfl rfl ⟨rfl, rfl, rfl, rfl, rfl⟩ rfl rfl rfl rfl rfl (by kernel_rfl) Tryd.func7 (by kernel_rfl)
    (of_decide_eq_true (by kernel_rfl)) (by unfold Func.isWrapper; first | (rw [if_pos (by decide +kernel)]; kernel_rfl) | (rw [if_neg (by decide +kernel)]; exact ⟨rfl, rfl⟩))
    (fun os started H enc _ => lifted os started H enc)

theorem card_holds : Rows.VclockCausesCardSaid :=
  Claim7.holds_tied_plain_at .later [] [.data, .data, .data, .data, .sentinel, .sentinel, .pinned] true (true, "fef0a28907a101c8cdd0a8453dd32babd4b404979dd6f6ee4eb1d9acfe976716") true
    holds (fun _ h => by cases h) (by kernel_rfl) (fun _ h => by cases h) vclockCauses_row_tie rfl ⟨rfl, rfl⟩ (by kernel_rfl) rfl
    (fun f fn hf hfn => by
      obtain rfl : f = 7 := Option.some.inj ((show Tryd.prog.funcNamed "rootcause/rootcauselaw23.VclockCauses" = some 7 by kernel_rfl).symm.trans hf) |>.symm
      obtain rfl : fn = Tryd.f7 := (Option.some.inj (Tryd.func7.symm.trans hfn)).symm
      exact ⟨by kernel_rfl, fun j t ht => by
        rw [Tryd.params7] at ht
        rcases j with _ | j
        · obtain rfl : t = 45 := by simpa using ht.symm
          exact (show Tryd.prog.wantsStandIn 45 = false by kernel_rfl)
        · simp at ht⟩)
    (by kernel_rfl)
#print axioms card_holds
end vclockCauses
end Go.Proofs.YtnmickfdflinpaaDoor
