/- Proved: for every input, rootcauselaw23.VclockBytes returns true, and its arguments read as they did (the tied card VclockBytesCardSaid). Conditions: the card's own (seven variables of the library read as the program's initialisers lay them, tied to the text), and no others. -/
import Derived.Test.YtnmickfdflinpaaDoorUI
import Derived.Test.YtnmickfdflinpaaDoorW0
import Derived.Test.YtnmickfdflinpaaDoorCards
namespace Go.Proofs.YtnmickfdflinpaaDoor
open Go.RowKit Go.Par Go.Sx
section
open Go.ChangeShapes Go.WideShapes Go.Deep
variable {H : Type} {enc : TypeId × Value → H}
set_option maxRecDepth 100000 in
theorem open_src {W : World} {b base : Nat} {sp : Nat → Bool} {held : Bool} {v : Value} {d : DataW H} {p : List MemPlace}
    (hv : Value.okWide Tryd.prog W .any b 62 v) (h : DataW.Trod enc Tryd.prog W base sp held 62 v d p) :
    ∃ (p : Option Addr) (n c : Nat) (l : List UInt8), v = .slice p n c ∧ SrcP (all W) p n c l := by
  obtain ⟨a0, n0, c0, rfl⟩ := okWide_slice Tryd.underlying62 hv
  obtain ⟨fuel, hf⟩ := h
  rcases Go.Deep.open_slice Tryd.underlying62 hf with ⟨hc, -⟩ | ⟨a, len, cap, m, n, D, Pl, hc, -, hl, hm, hmm, -, hi⟩
  · simp only [Value.cells, List.cons.injEq, Value.slice.injEq, and_true] at hc
    obtain ⟨rfl, rfl, rfl⟩ := hc
    exact ⟨none, 0, 0, [], rfl, rfl, Nat.le_refl _, Nat.zero_le _, .inl ⟨rfl, rfl, rfl⟩⟩
  · simp only [Value.cells, List.cons.injEq, Value.slice.injEq, and_true] at hc
    obtain ⟨rfl, rfl, rfl⟩ := hc
    have hlm : n0 ≤ m := by rw [hmm]; split <;> omega
    have key : ∀ i, i < n0 → ∃ x : UInt8, W.cell? (a.add i) = some (byteV x) := by
      intro i hil
      obtain ⟨cs, hcs, ht⟩ := hi i (by omega)
      rw [cells5] at hcs
      obtain ⟨_, hcl, hat⟩ := World.cells?_some hcs
      match cs, hcl with
      | [c0], _ =>
        obtain ⟨x, ex, -, wx⟩ := DataW.trod_int Tryd.underlying5 ht
        simp only [List.cons.injEq, and_true] at ex
        subst ex
        have a0 := hat 0 (by omega)
        have hw := of_wf8 wx
        refine ⟨UInt8.ofNat x.toNat, ?_⟩
        have : (a.add (i * 1)).add 0 = a.add i := by simp [Addr.add]
        rw [this] at a0
        have e : byteV (UInt8.ofNat x.toNat) = .int .u8 x := by
          unfold byteV
          simp
          omega
        rw [e]
        exact a0
    let f : Nat → UInt8 := fun i => match W.cell? (a.add i) with | some (.int _ x) => UInt8.ofNat x.toNat | _ => 0
    have hf : ∀ i, i < n0 → W.cell? (a.add i) = some (byteV (f i)) := fun i hi => by
      obtain ⟨x, hx⟩ := key i hi
      have e : f i = x := by simp only [f, hx, byteV]; simp
      rw [e]; exact hx
    refine ⟨some a, n0, c0, (List.range n0).map f, rfl, by simp, hl, hm, .inr ⟨a, rfl, ?_⟩⟩
    have hsl : SlAt (all W) (.slice (some a) n0 c0) n0 ((List.range n0).map (fun i => byteV (f i))) := sl_of hl hm _ fun i hi => ⟨a, rfl, hf i hi⟩
    obtain ⟨-, p', c', e, -, -, hs⟩ := hsl
    injection e with e1 e2 e3
    subst e1
    rcases hs with hs | ⟨b', off, arr, t, m', e, hb, ha⟩
    · left
      have := congrArg List.length hs
      simp at this
      rw [this]; rfl
    · right
      exact ⟨b', off, arr, t, m', Option.some.inj e, hb, by rw [List.map_map]; exact ha⟩
end
namespace vclockBytes
open Go.ChangeShapes Go.WideShapes Go.ChangeAt Go.RowKit
open Go.ChangeMaps (open_string shut_string)
set_option maxRecDepth 100000 in
theorem lifted (os : Os) (started : os.Started) (H : Type) (enc : TypeId × Value → H) :
    ReturnsInHanded {} Tryd.checked os 12 .any (fun w args => (Rows.vclockBytesSpec.pre enc Tryd.prog Tryd.f12 [] false w args ∧ laidMet Tryd.prog laids w) ∧ sizedMet enc Tryd.prog Tryd.f12 (OpenSpec.ofChange Rows.vclockBytesSpec) false w args)
      (Rows.vclockBytesSpec.post enc Tryd.prog Tryd.f12 false true false false) := by
  refine wrap (C := Tryd.checked) (X := fun w _ => laidMet Tryd.prog laids w) (fun _ _ _ hh h => h.of_heap hh) own started (by kernel_rfl) Tryd.func12
    (ChangeSpec.witness_shaped (enc := enc) (C := Tryd.checked) (os := os) (X := fun w _ => laidMet Tryd.prog laids w) false (World.laidAll Tryd.prog os laids) #[.slice none 0 0, .slice none 0 0, .slice none 0 0] 8 (World.laidAll_os _ _ _) (laid_shaped os _) (by kernel_rfl) (by kernel_rfl) (by kernel_rfl) (laid_met os _)) ?_
  intro W base args ds gs before hval0 hW hL hS
  have G : Globs W := globs_of hL hS
  have hval : ∀ (j : Nat) t v, Tryd.f12.params[j]? = some t → args[j]? = some v → Value.okWide Tryd.prog W .any base t v := hval0
  have hW' := hW
  obtain ⟨p, q, hA0, hV, rfl, hfz, hnd⟩ := hW
  have hA : DataW.TrodAll enc Tryd.prog W 0 (fun _ => true) true Tryd.f12.params.toList args.toList ds p := hA0
  rw [Tryd.params12] at hA hval
  obtain ⟨v0, v1, v2, d0, d1, d2, p0, p1, p2, rfl, rfl, rfl, h0, h1, h2⟩ := trodAll_three hA
  obtain ⟨rfl, rfl⟩ := trodVars_none hV
  have k0 := h0
  have hlt0 : ∀ x ∈ p0, x.block < W.heap.size := fun x hx => hW'.lt x (by simp [hx])
  have k1 := h1
  have hlt1 : ∀ x ∈ p1, x.block < W.heap.size := fun x hx => hW'.lt x (by simp [hx])
  have k2 := h2
  have hlt2 : ∀ x ∈ p2, x.block < W.heap.size := fun x hx => hW'.lt x (by simp [hx])
  obtain ⟨n0, xs0, hs0, hr0⟩ := open_u64s (hval 0 22 v0 rfl rfl) h0
  obtain ⟨q1, n1, c1, l1, rfl, hp1⟩ := open_src (hval 1 62 v1 rfl rfl) h1
  obtain ⟨q2, n2, c2, l2, rfl, hp2⟩ := open_src (hval 2 62 v2 rfl rfl) h2
  clear hA0 hval0
  simp only [List.append_nil, List.append_assoc] at hW'
  refine (bytes_law (all W) v0 n0 xs0 hs0 hr0 q1 n1 c1 l1 hp1 q2 n2 c2 l2 hp2 W (all_agr W) G).mono fun e W' ⟨he, hg⟩ => ?_
  subst he
  refine ⟨_, rfl, _, _, _, [], (p0 ++ (p1 ++ p2)), [], hW', ?_, ?_, rfl, ext_kept hg _, fun h => by cases h⟩
  · exact trodAll_mk1 (shut_bool Tryd.underlying4 _)
  · exact trodAll_mk3 (Below.trod laidOut (by kernel_rfl) (of_decide_eq_true (by kernel_rfl)) k0 hg.below hlt0) (Below.trod laidOut (by kernel_rfl) (of_decide_eq_true (by kernel_rfl)) k1 hg.below hlt1) (Below.trod laidOut (by kernel_rfl) (of_decide_eq_true (by kernel_rfl)) k2 hg.below hlt2)

theorem holds : Rows.VclockBytesSaid :=
  OpenClaim.holds_of_wide 12 Tryd.f12 rfl rfl rfl rfl rfl rfl rfl ⟨rfl, rfl, rfl, rfl, rfl⟩ rfl rfl rfl rfl rfl (by kernel_rfl) Tryd.func12 (by kernel_rfl)
    (of_decide_eq_true (by kernel_rfl)) (by unfold Func.isWrapper; first | (rw [if_pos (by decide +kernel)]; kernel_rfl) | (rw [if_neg (by decide +kernel)]; exact ⟨rfl, rfl⟩))
    (fun os started H enc _ => lifted os started H enc)

theorem card_holds : Rows.VclockBytesCardSaid :=
  Claim7.holds_tied_plain_at .later [] [.data, .data, .data, .data, .sentinel, .sentinel, .pinned] true (true, "fef0a28907a101c8cdd0a8453dd32babd4b404979dd6f6ee4eb1d9acfe976716") true
    holds (fun _ h => by cases h) (by kernel_rfl) (fun _ h => by cases h) vclockBytes_row_tie rfl ⟨rfl, rfl⟩ (by kernel_rfl) rfl
    (fun f fn hf hfn => by
      obtain rfl : f = 12 := Option.some.inj ((show Tryd.prog.funcNamed "rootcause/rootcauselaw23.VclockBytes" = some 12 by kernel_rfl).symm.trans hf) |>.symm
      obtain rfl : fn = Tryd.f12 := (Option.some.inj (Tryd.func12.symm.trans hfn)).symm
      exact ⟨by kernel_rfl, fun j t ht => by
        rw [Tryd.params12] at ht
        rcases j with _ | _ | _ | j
        · obtain rfl : t = 22 := by simpa using ht.symm
          exact (show Tryd.prog.wantsStandIn 22 = false by kernel_rfl)
        · obtain rfl : t = 62 := by simpa using ht.symm
          exact (show Tryd.prog.wantsStandIn 62 = false by kernel_rfl)
        · obtain rfl : t = 62 := by simpa using ht.symm
          exact (show Tryd.prog.wantsStandIn 62 = false by kernel_rfl)
        · simp at ht⟩)
    (by kernel_rfl)
#print axioms card_holds
end vclockBytes
end Go.Proofs.YtnmickfdflinpaaDoor
