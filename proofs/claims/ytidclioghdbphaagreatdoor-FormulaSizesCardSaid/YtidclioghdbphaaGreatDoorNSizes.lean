/- Proved: for every input, rootcauselaw34.FormulaSizes returns true, and its arguments read as they did (the tied card FormulaSizesCardSaid). Conditions: the card's own (the listed package variables read as the program's initialisers lay them, tied to the text), and no others. -/
import Derived.Test.YtidclioghdbphaaGreatDoorMh
import Derived.Test.YtidclioghdbphaaGreatDoorCards
set_option linter.all false
namespace Go.Proofs.YtidclioghdbphaaGreatDoor
open Go.RowKit Go.Par Go.Sx
theorem node_of {x : D} (h : Ty.has (.str [.int .u8, .int .u8, .int .u8, .bool, .int .i64]) x) : ∃ y : Nd, x = dNd y := by
  simp only [Ty.has, Ty.hasL] at h
  obtain ⟨_, rfl, _, _, rfl, ⟨a, rfl, ha⟩, _, _, rfl, ⟨b, rfl, hb⟩, _, _, rfl, ⟨c, rfl, hc⟩, _, _, rfl, ⟨o, rfl⟩, _, _, rfl, ⟨n, rfl, hn⟩, rfl⟩ := h
  obtain ⟨a, rfl⟩ := has_u8 ha
  obtain ⟨b, rfl⟩ := has_u8 hb
  obtain ⟨c, rfl⟩ := has_u8 hc
  obtain ⟨n, rfl⟩ := has_i64 hn
  exact ⟨⟨a, b, c, o, n⟩, rfl⟩
theorem u8d_of {x : D} (h : Ty.has (.int .u8) x) : ∃ y : UInt8, x = .val (.int .u8 y.toNat) := by
  simp only [Ty.has] at h
  obtain ⟨n, rfl, hn⟩ := h
  obtain ⟨a, rfl⟩ := has_u8 hn
  exact ⟨a, rfl⟩
theorem i64_of {x : D} (h : Ty.has (.int .i64) x) : ∃ y : Int64, x = .val (.int .i64 y.toInt) := by
  simp only [Ty.has] at h
  obtain ⟨n, rfl, hn⟩ := h
  obtain ⟨a, rfl⟩ := has_i64 hn
  exact ⟨a, rfl⟩
theorem seq_of {α : Type} {f : α → D} {τ : Ty} {x : D} (k : ∀ y, Ty.has τ y → ∃ z, y = f z) (h : Ty.has (.seq τ) x) : ∃ l : List α, x = .seq τ.cells (l.map f) := by
  unfold Ty.has at h
  obtain ⟨ds, rfl, h1⟩ := h
  obtain ⟨l, rfl⟩ := list_of (f := f) fun x hx => k x (h1 x hx)
  exact ⟨l, rfl⟩
theorem nf_of {x : D} (h : Ty.has (.str [.int .u8, .int .u8, .int .u8, .int .u8, .bool, .int .i64, .int .i64, .seq (.str [.int .u8, .int .u8, .int .u8, .bool, .int .i64])]) x) : ∃ y : Nf, x = dNf y := by
  rw [Ty.has] at h
  obtain ⟨ds, rfl, h⟩ := h
  simp only [Ty.hasL] at h
  obtain ⟨_, _, rfl, h1, _, _, rfl, h2, _, _, rfl, h3, _, _, rfl, h4, _, _, rfl, h5, _, _, rfl, h6, _, _, rfl, h7, _, _, rfl, h8, rfl⟩ := h
  obtain ⟨a, rfl⟩ := u8d_of h1
  obtain ⟨b, rfl⟩ := u8d_of h2
  obtain ⟨c, rfl⟩ := u8d_of h3
  obtain ⟨d, rfl⟩ := u8d_of h4
  simp only [Ty.has] at h5
  obtain ⟨o, rfl⟩ := h5
  obtain ⟨m, rfl⟩ := i64_of h6
  obtain ⟨n, rfl⟩ := i64_of h7
  obtain ⟨l, rfl⟩ := seq_of (f := dNd) (fun _ => node_of) h8
  exact ⟨⟨a, b, c, d, o, m, n, l⟩, rfl⟩
set_option maxRecDepth 100000 in
theorem open_nodes {H : Type} {enc : TypeId × Value → H} {W : World} {b base : Nat} {sp : Nat → Bool} {held : Bool} {v : Value} {d : DataW H} {p : List MemPlace} (hv : Value.okWide Tryz.prog W .any b 22 v) (h : DataW.Trod enc Tryz.prog W base sp held 22 v d p) :
    ∃ l : List Nf, Rep (allH W) (.seq 8 (l.map dNf)) [v] := by
  obtain ⟨a0, n0, c0, rfl⟩ := Go.WideShapes.okWide_slice Tryz.underlying22 hv
  obtain ⟨fuel, hf⟩ := h
  obtain ⟨d, hd, hr⟩ := Ty.opens W (.seq (.str [.int .u8, .int .u8, .int .u8, .int .u8, .bool, .int .i64, .int .i64, .seq (.str [.int .u8, .int .u8, .int .u8, .bool, .int .i64])])) 22 fuel _ _ (by kernel_rfl) (by kernel_rfl) hf
  obtain ⟨l, rfl⟩ := seq_of (f := dNf) (fun _ => nf_of) hd
  exact ⟨l, hr⟩
set_option maxRecDepth 100000 in
theorem open_strS {H : Type} {enc : TypeId × Value → H} {W : World} {b base : Nat} {sp : Nat → Bool} {held : Bool} {v : Value} {d : DataW H} {p : List MemPlace} (hv : Value.okWide Tryz.prog W .any b 9 v) (h : DataW.Trod enc Tryz.prog W base sp held 9 v d p) :
    ∃ l : Str, v = strV l ∧ l.length ≤ 9223372036854775807 := by
  obtain ⟨s, rfl, _, _, hs⟩ := Go.ChangeMaps.open_string Tryz.underlying9 hv h
  exact ⟨s.data.toList, rfl, Nat.le_trans (Nat.le_of_eq (by simp)) hs⟩
namespace formulaSizes
open Go.ChangeShapes Go.WideShapes Go.ChangeAt Go.RowKit
open Go.ChangeMaps (open_string shut_string)
set_option maxRecDepth 100000 in
theorem lifted (os : Os) (started : os.Started) (H : Type) (enc : TypeId × Value → H) :
    ReturnsInHanded {} Tryz.checked os 5 .any (fun w args => (Rows.formulaSizesSpec.pre enc Tryz.prog Tryz.f5 [] false w args ∧ laidMet Tryz.prog laids w) ∧ sizedMet enc Tryz.prog Tryz.f5 (OpenSpec.ofChange Rows.formulaSizesSpec) false w args)
      (Rows.formulaSizesSpec.post enc Tryz.prog Tryz.f5 false true false false) := by
  refine wrap (C := Tryz.checked) (X := fun w _ => laidMet Tryz.prog laids w) (fun _ _ _ hh h => h.of_heap hh) own started (by kernel_rfl) Tryz.func5
    (ChangeSpec.witness_shaped (enc := enc) (C := Tryz.checked) (os := os) (X := fun w _ => laidMet Tryz.prog laids w) false (World.laidAll Tryz.prog os laids) #[.slice none 0 0, .string ⟨#[]⟩] 8 (World.laidAll_os _ _ _) (laid_shaped os _) (by kernel_rfl) (by kernel_rfl) (by kernel_rfl) (laid_met os _)) ?_
  intro W base args ds gs before hval0 hW hL hS
  have GL := gl_of hL
  have G := gf_of hL
  have gq := gt_of hL
  have hval : ∀ (j : Nat) t v, Tryz.f5.params[j]? = some t → args[j]? = some v → Value.okWide Tryz.prog W .any base t v := hval0
  have hW' := hW
  obtain ⟨p, q, hA0, hV, rfl, hfz, hnd⟩ := hW
  have hA : DataW.TrodAll enc Tryz.prog W 0 (fun _ => true) true Tryz.f5.params.toList args.toList ds p := hA0
  rw [Tryz.params5] at hA hval
  obtain ⟨v0, v1, d0, d1, p0, p1, rfl, rfl, rfl, h0, h1⟩ := trodAll_two hA
  obtain ⟨rfl, rfl⟩ := trodVars_none hV
  have k0 := h0
  have hlt0 : ∀ x ∈ p0, x.block < W.heap.size := fun x hx => hW'.lt x (by simp [hx])
  have k1 := h1
  have hlt1 : ∀ x ∈ p1, x.block < W.heap.size := fun x hx => hW'.lt x (by simp [hx])
  obtain ⟨l0, hr0⟩ := open_nodes (hval 0 22 v0 rfl rfl) h0
  obtain ⟨l1, e1, hl1⟩ := open_strS (hval 1 9 v1 rfl rfl) h1
  subst e1
  clear hA0 hval0
  simp only [List.append_nil] at hW'
  refine (formulaSizes_any (allH W) GL G gq l0 l1 v0 hr0 hl1 W (allH_agr W)).mono fun e W' ⟨he, hg⟩ => ?_
  subst he
  refine ⟨_, rfl, _, _, _, [], (p0 ++ p1), [], hW', ?_, ?_, rfl, ext_kept hg _, fun h => by cases h⟩
  · exact trodAll_mk1 (shut_bool Tryz.underlying4 _)
  · exact trodAll_mk2 (Below.trod laidOut (by kernel_rfl) (of_decide_eq_true (by kernel_rfl)) k0 hg.below hlt0) (Below.trod laidOut (by kernel_rfl) (of_decide_eq_true (by kernel_rfl)) k1 hg.below hlt1)
theorem holds : Rows.FormulaSizesSaid :=
  OpenClaim.holds_of_wide 5 Tryz.f5 rfl rfl rfl rfl rfl rfl rfl ⟨rfl, rfl, rfl, rfl, rfl⟩ rfl rfl rfl rfl rfl (by kernel_rfl) Tryz.func5 (by kernel_rfl)
    (of_decide_eq_true (by kernel_rfl)) (by unfold Func.isWrapper; first | (rw [if_pos (by decide +kernel)]; kernel_rfl) | (rw [if_neg (by decide +kernel)]; exact ⟨rfl, rfl⟩))
    (fun os started H enc _ => lifted os started H enc)
theorem card_holds : Rows.FormulaSizesCardSaid :=
  Claim7.holds_tied_plain_at .later [] [.data, .data, .data, .data, .data, .data, .data, .data] true (true, "11d25c0aecf79e7f29c6342849afa29d2e84c39be2954fcd1078741698f25d8c") false
    holds (fun _ h => by cases h) (by kernel_rfl) (fun _ h => by cases h) formulaSizes_row_tie rfl ⟨rfl, rfl⟩ (by kernel_rfl) rfl
    (fun f fn hf hfn => by
      obtain rfl : f = 5 := Option.some.inj ((show Tryz.prog.funcNamed "rootcause/rootcauselaw34.FormulaSizes" = some 5 by kernel_rfl).symm.trans hf) |>.symm
      obtain rfl : fn = Tryz.f5 := (Option.some.inj (Tryz.func5.symm.trans hfn)).symm
      exact ⟨by kernel_rfl, fun j t ht => by
        rw [Tryz.params5] at ht
        rcases j with _ | _ | j
        · obtain rfl : t = 22 := by simpa using ht.symm
          exact (show Tryz.prog.wantsStandIn 22 = false by kernel_rfl)
        · obtain rfl : t = 9 := by simpa using ht.symm
          exact (show Tryz.prog.wantsStandIn 9 = false by kernel_rfl)
        · simp at ht⟩)
    (by kernel_rfl)
#print axioms card_holds
end formulaSizes
end Go.Proofs.YtidclioghdbphaaGreatDoor
