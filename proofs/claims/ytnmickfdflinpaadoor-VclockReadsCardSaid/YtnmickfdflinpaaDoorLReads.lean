/- Proved: for every input, rootcauselaw23.VclockReads returns true, and its arguments read as they did (the tied card VclockReadsCardSaid). Conditions: the card's own (seven variables of the library read as the program's initialisers lay them, tied to the text), and no others. -/
import Derived.Test.YtnmickfdflinpaaDoorUH
import Derived.Test.YtnmickfdflinpaaDoorW0
import Derived.Test.YtnmickfdflinpaaDoorCards
namespace Go.Proofs.YtnmickfdflinpaaDoor
open Go.RowKit Go.Par Go.Sx
section
open Go.ChangeShapes Go.WideShapes Go.Deep
variable {H : Type} {enc : TypeId × Value → H}
set_option maxRecDepth 100000 in
theorem open_bytes {W : World} {b base : Nat} {sp : Nat → Bool} {held : Bool} {v : Value} {d : DataW H} {p : List MemPlace}
    (hv : Value.okWide Tryd.prog W .any b 62 v) (h : DataW.Trod enc Tryd.prog W base sp held 62 v d p) :
    ∃ (n : Nat) (l : List UInt8), SlAt (all W) v n (l.map byteV) := by
  obtain ⟨a0, n0, c0, rfl⟩ := okWide_slice Tryd.underlying62 hv
  obtain ⟨fuel, hf⟩ := h
  rcases Go.Deep.open_slice Tryd.underlying62 hf with ⟨hc, -⟩ | ⟨a, len, cap, m, n, D, Pl, hc, -, hl, hm, hmm, -, hi⟩
  · simp only [Value.cells, List.cons.injEq, Value.slice.injEq, and_true] at hc
    obtain ⟨rfl, rfl, rfl⟩ := hc
    exact ⟨0, [], ⟨rfl, _, _, rfl, Nat.le_refl _, Nat.zero_le _, .inl rfl⟩⟩
  · simp only [Value.cells, List.cons.injEq, Value.slice.injEq, and_true] at hc
    obtain ⟨rfl, rfl, rfl⟩ := hc
    have hlm : n0 ≤ m := by rw [hmm]; split <;> omega
    have key : ∀ i, i < n0 → ∃ x : UInt8, W.cell? (a.add i) = some (byteV x) := by
      intro i hil
      obtain ⟨cs, hcs, ht⟩ := hi i (by omega)
      rw [cells5] at hcs
      obtain ⟨_, hcl, hat⟩ := World.cells?_some hcs
      match cs, hcl with
      | [c0], _ =>
        obtain ⟨x, ex, -, wx⟩ := DataW.trod_int Tryd.underlying5 ht
        simp only [List.cons.injEq, and_true] at ex
        subst ex
        have a0 := hat 0 (by omega)
        have hw := of_wf8 wx
        refine ⟨UInt8.ofNat x.toNat, ?_⟩
        have : (a.add (i * 1)).add 0 = a.add i := by simp [Addr.add]
        rw [this] at a0
        have e : byteV (UInt8.ofNat x.toNat) = .int .u8 x := by
          unfold byteV
          simp
          omega
        rw [e]
        exact a0
    let f : Nat → UInt8 := fun i => match W.cell? (a.add i) with | some (.int _ x) => UInt8.ofNat x.toNat | _ => 0
    have hf : ∀ i, i < n0 → W.cell? (a.add i) = some (byteV (f i)) := fun i hi => by
      obtain ⟨x, hx⟩ := key i hi
      have e : f i = x := by simp only [f, hx, byteV]; simp
      rw [e]; exact hx
    refine ⟨n0, (List.range n0).map f, ?_⟩
    rw [List.map_map]
    exact sl_of hl hm _ fun i hi => ⟨a, rfl, hf i hi⟩
end
namespace vclockReads
open Go.ChangeShapes Go.WideShapes Go.ChangeAt Go.RowKit
open Go.ChangeMaps (open_string shut_string)
set_option maxRecDepth 100000 in
theorem lifted (os : Os) (started : os.Started) (H : Type) (enc : TypeId × Value → H) :
    ReturnsInHanded {} Tryd.checked os 11 .any (fun w args => (Rows.vclockReadsSpec.pre enc Tryd.prog Tryd.f11 [] false w args ∧ laidMet Tryd.prog laids w) ∧ sizedMet enc Tryd.prog Tryd.f11 (OpenSpec.ofChange Rows.vclockReadsSpec) false w args)
      (Rows.vclockReadsSpec.post enc Tryd.prog Tryd.f11 false true false false) := by
  refine wrap (C := Tryd.checked) (X := fun w _ => laidMet Tryd.prog laids w) (fun _ _ _ hh h => h.of_heap hh) own started (by kernel_rfl) Tryd.func11
    (ChangeSpec.witness_shaped (enc := enc) (C := Tryd.checked) (os := os) (X := fun w _ => laidMet Tryd.prog laids w) false (World.laidAll Tryd.prog os laids) #[.slice none 0 0] 8 (World.laidAll_os _ _ _) (laid_shaped os _) (by kernel_rfl) (by kernel_rfl) (by kernel_rfl) (laid_met os _)) ?_
  intro W base args ds gs before hval0 hW hL hS
  have G : Globs W := globs_of hL hS
  have hval : ∀ (j : Nat) t v, Tryd.f11.params[j]? = some t → args[j]? = some v → Value.okWide Tryd.prog W .any base t v := hval0
  have hW' := hW
  obtain ⟨p, q, hA0, hV, rfl, hfz, hnd⟩ := hW
  have hA : DataW.TrodAll enc Tryd.prog W 0 (fun _ => true) true Tryd.f11.params.toList args.toList ds p := hA0
  rw [Tryd.params11] at hA hval
  obtain ⟨v0, d0, rfl, rfl, h0⟩ := trodAll_one hA
  obtain ⟨rfl, rfl⟩ := trodVars_none hV
  have k0 := h0
  have hlt0 : ∀ x ∈ p, x.block < W.heap.size := fun x hx => hW'.lt x (by simp [hx])
  obtain ⟨n0, l0, hs0⟩ := open_bytes (hval 0 62 v0 rfl rfl) h0
  clear hA0 hval0
  simp only [List.append_nil] at hW'
  refine (reads_any (all W) v0 n0 l0 hs0 W (all_agr W) G).mono fun e W' ⟨he, hg⟩ => ?_
  subst he
  refine ⟨_, rfl, _, _, _, [], p, [], hW', ?_, ?_, rfl, ext_kept hg _, fun h => by cases h⟩
  · exact trodAll_mk1 (shut_bool Tryd.underlying4 _)
  · exact trodAll_mk1 (Below.trod laidOut (by kernel_rfl) (of_decide_eq_true (by kernel_rfl)) k0 hg.below hlt0)

theorem holds : Rows.VclockReadsSaid :=
  OpenClaim.holds_of_wide 11 Tryd.f11 rfl rfl rfl rfl rfl rfl rfl ⟨rfl, rfl, rfl, rfl, rfl⟩ rfl rfl rfl rfl rfl (by kernel_rfl) Tryd.func11 (by kernel_rfl)
    (of_decide_eq_true (by kernel_rfl)) (by unfold Func.isWrapper; first | (rw [if_pos (by decide +kernel)]; kernel_rfl) | (rw [if_neg (by decide +kernel)]; exact ⟨rfl, rfl⟩))
    (fun os started H enc _ => lifted os started H enc)

theorem card_holds : Rows.VclockReadsCardSaid :=
  Claim7.holds_tied_plain_at .later [] [.data, .data, .data, .data, .sentinel, .sentinel, .pinned] true (true, "fef0a28907a101c8cdd0a8453dd32babd4b404979dd6f6ee4eb1d9acfe976716") true
    holds (fun _ h => by cases h) (by kernel_rfl) (fun _ h => by cases h) vclockReads_row_tie rfl ⟨rfl, rfl⟩ (by kernel_rfl) rfl
    (fun f fn hf hfn => by
      obtain rfl : f = 11 := Option.some.inj ((show Tryd.prog.funcNamed "rootcause/rootcauselaw23.VclockReads" = some 11 by kernel_rfl).symm.trans hf) |>.symm
      obtain rfl : fn = Tryd.f11 := (Option.some.inj (Tryd.func11.symm.trans hfn)).symm
      exact ⟨by kernel_rfl, fun j t ht => by
        rw [Tryd.params11] at ht
        rcases j with _ | j
        · obtain rfl : t = 62 := by simpa using ht.symm
          exact (show Tryd.prog.wantsStandIn 62 = false by kernel_rfl)
        · simp at ht⟩)
    (by kernel_rfl)
#print axioms card_holds
end vclockReads
end Go.Proofs.YtnmickfdflinpaaDoor
