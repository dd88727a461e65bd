/- What every row of this seat needs: the wrap that keeps the world's shape beside what the row lists, the witness's world, and what the walks are told of the package variables. -/
import Derived.Test.YtnmickfdflinpaaDoorUB
import Derived.Test.YtnmickfdflinpaaDoorTie
import Derived.ProofKit
import Derived.OpenShut
import Derived.ShutString
import Derived.Lay
import Derived.Stop.LaidErr
import Derived.Stop.Joined
import Derived.Shelf.Vars
import Derived.Lib.LaidTab
import Derived.Lib.SmallJoins
import Derived.SevenTiedAt
namespace Go.Proofs.YtnmickfdflinpaaDoor
open Go.RowKit Go.Par Go.Sx
variable {H : Type} {enc : TypeId × Value → H}

/-- The wrap: what the row lists, and the world's shape. -/
theorem wrap {a : Assume} {C : Checked} {os : Os} {f : FuncId} {fn : Func} {s : ChangeSpec} {conds : List PathCond} {apart fresh handsOn again : Bool} {X : World → Array Value → Prop}
    (hX : ∀ (w w' : World) (args : Array Value), w.heap = w'.heap → X w args → X w' args)
    (own : ownKnob C.prog.godebug = none) (started : os.Started) (noInit : C.prog.inits.idxOf? f = none) (hfn : C.prog.funcs[f]? = some fn)
    (witness : ∃ (w : World) (tape : Tape) (i : Input), w.os = os ∧ (w.forCall tape i).Shaped C.prog ∧ i.vars = [] ∧ Input.okWide C.prog (w.forCall tape i) .any w.heap.size f i ∧
      ((s.pre enc C.prog fn conds apart (w.forCall tape i).memory i.args ∧ X (w.forCall tape i).memory i.args) ∧ sizedMet enc C.prog fn (OpenSpec.ofChange s) apart (w.forCall tape i).memory i.args) ∧ a.holds C.prog (lone (Frame.enter C.prog f i.args .normal) [] (w.forCall tape i)))
    (contract : ∀ (W : World) (base : Nat) (args : Array Value) (ds gs : List (DataW H)) (before : List MemPlace),
      (∀ (j : Nat) t v, fn.params[j]? = some t → args[j]? = some v → Value.okWide C.prog W .any base t v) →
      DataW.Whole enc C.prog fn.params.toList s.vars apart W args.toList ds gs before →
      X W args → W.ShapedOpen C.prog →
      Calls C.prog f args W fun e W' => ∃ v, e = .returned v ∧ s.post enc C.prog fn apart fresh handsOn again W args v W') :
    ReturnsInHanded a C os f .any (fun w args => (s.pre enc C.prog fn conds apart w args ∧ X w args) ∧ sizedMet enc C.prog fn (OpenSpec.ofChange s) apart w args) (s.post enc C.prog fn apart fresh handsOn again) := by
  refine returnsInHanded_of_calls own started noInit witness ?_
  intro w tape i _ hsh _ hok hpre _
  obtain ⟨_, _, _, fn', hfn', _, _, _, _, hval⟩ := hok
  have e : fn' = fn := Option.some.inj (hfn'.symm.trans hfn)
  subst e
  obtain ⟨⟨⟨ds, gs, before, hw, _⟩, hx⟩, _⟩ := hpre
  have hw' := DataW.Whole.of_heap (w' := w.forCall tape i) (by rfl) hw
  refine (contract (w.forCall tape i) w.heap.size i.args ds gs before hval hw' (hX _ _ _ (by rfl) hx) hsh).mono fun e W' ⟨v, he, hp⟩ => ?_
  subst he
  exact ChangeSpec.post_blind hp

theorem own : ownKnob Tryd.prog.godebug = none := by kernel_rfl

/-- What the rows of this seat list. -/
def laids : List (String × DataW Unit) := [("math/bits.deBruijn32tab", Rows.laid_math_bits_deBruijn32tab), ("math/bits.deBruijn64tab", Rows.laid_math_bits_deBruijn64tab), ("internal/strconv.uint64pow10", Rows.laid_internal_strconv_uint64pow10), ("unicode/utf8.acceptRanges", Rows.laid_unicode_utf8_acceptRanges), ("strconv.ErrRange", Rows.laid_strconv_ErrRange), ("strconv.ErrSyntax", Rows.laid_strconv_ErrSyntax), ("unicode/utf8.first", Rows.laid_unicode_utf8_first)]

theorem gTab : Tryd.prog.globalNamed "internal/strconv.uint64pow10" = some 1 := by kernel_rfl
theorem gTabT : (Tryd.prog.globals[1]?).map (·.type) = some 111 := by kernel_rfl
theorem gES : Tryd.prog.globalNamed "strconv.ErrSyntax" = some 2 := by kernel_rfl
theorem gEST : (Tryd.prog.globals[2]?).map (·.type) = some 76 := by kernel_rfl
theorem gER : Tryd.prog.globalNamed "strconv.ErrRange" = some 3 := by kernel_rfl
theorem gERT : (Tryd.prog.globals[3]?).map (·.type) = some 76 := by kernel_rfl
theorem cells111 : Tryd.prog.cellsOf 111 = 20 := by kernel_rfl
theorem cells23 : Tryd.prog.cellsOf 23 = 1 := by kernel_rfl
theorem cells5 : Tryd.prog.cellsOf 5 = 1 := by kernel_rfl
theorem cells130 : Tryd.prog.cellsOf 130 = 1 := by kernel_rfl
theorem cells9 : Tryd.prog.cellsOf 9 = 1 := by kernel_rfl
theorem star : "*" ++ "errors.errorString" = "*errors.errorString" := by decide
theorem row128 (u : TypeId) (h : Tryd.prog.typeName? 3 u = some "*errors.errorString") : u = 128 :=
  typeName_ptr_named (nm := "errors.errorString") (by rw [star]; kernel_rfl) (by kernel_rfl) (by decide) u (by rw [star]; exact h)
theorem tabEq : (Rows.laid_internal_strconv_uint64pow10 : DataW Unit) = Lib.tabData .u64 Lib.pow10Tab := by kernel_rfl

theorem globs_of {W : World} (hL : laidMet Tryd.prog laids W) (hS : W.ShapedOpen Tryd.prog) : Globs W := by
  have h2 := hL.tail.tail
  have h3 := h2.tail.tail
  have h4 := h3.tail
  obtain ⟨a3, s3, hv3, -, -, -⟩ := laid_sentinel h3 gER gERT Tryd.underlying76 row128 Tryd.underlying128 Tryd.underlying130 rfl rfl Tryd.underlying9 cells130 cells9
  obtain ⟨a4, s4, hv4, -, -, -⟩ := laid_sentinel h4 gES gEST Tryd.underlying76 row128 Tryd.underlying128 Tryd.underlying130 rfl rfl Tryd.underlying9 cells130 cells9
  refine ⟨?_, ?_, ⟨_, _, hv4⟩, ⟨_, _, hv3⟩, ?_⟩
  · exact Lib.tabIs_of_head gTab gTabT Tryd.underlying111 Tryd.underlying23 cells23 cells111 (tabEq ▸ h2)
  · exact cell_of_shapedOpen_int (g := 0) (t := 3) (zero := #[.int .i64 0]) hS (Nat.le_of_ble_eq_true (by kernel_rfl)) (by kernel_rfl) rfl (by kernel_rfl) (by kernel_rfl) Tryd.underlying3
  · obtain ⟨o, _, h, _⟩ := hS.2 8 (Nat.le_of_ble_eq_true (by kernel_rfl)) (Nat.le_of_ble_eq_true (by kernel_rfl))
    have := (Array.getElem?_eq_some_iff.1 h).1
    omega

/-- The witness's world meets the list. -/
theorem laid_met (os : Os) (args : Array Value) : laidMet Tryd.prog laids ((World.laidAll Tryd.prog os laids).forCall (fun _ _ => 0) ⟨#[], args, []⟩).memory :=
  laidMet_laidAll _ (by kernel_rfl) (by kernel_rfl)
theorem laid_shaped (os : Os) (args : Array Value) : ((World.laidAll Tryd.prog os laids).forCall (fun _ _ => 0) ⟨#[], args, []⟩).Shaped Tryd.prog :=
  World.shaped_of_ZipB (by kernel_rfl) (by kernel_rfl)
theorem ext_kept {W W' : World} (h : Ext W W') : ∀ may, W.keptBut W' may := fun may => (Ext.below h).frame may

theorem laidOut : laidOutB Tryd.prog = true := by kernel_rfl
theorem cell_block {W : World} {a : Addr} {v : Value} (h : W.cell? a = some v) : ∃ cs t m, W.heap[a.block]? = some (.cells cs t m) ∧ a.spot = Option.none ∧ cs[a.off]? = some v := by
  unfold World.cell? at h
  split at h
  · rename_i cs t m e
    split at h
    · cases h
    · rename_i hs
      exact ⟨cs, t, m, e, by simpa using hs, h⟩
  · cases h
/-- The whole memory of a world. -/
def all (W : World) : Hp := fun b => W.heap[b]?
theorem all_agr (W : World) : Agr (all W) W := fun _ _ h => h
theorem sl_of {W : World} {A : Option Addr} {n c : Nat} (hn : n ≤ c) (hc : c ≤ maxLen) (f : Nat → Value) (h : ∀ i, i < n → ∃ a, A = some a ∧ W.cell? (a.add i) = some (f i)) : SlAt (all W) (.slice A n c) n ((List.range n).map f) := by
  refine ⟨by simp, A, c, rfl, hn, hc, ?_⟩
  by_cases h0 : n = 0
  · subst h0; left; rfl
  · right
    obtain ⟨a, rfl, h1⟩ := h 0 (by omega)
    have e0 : a.add 0 = a := by simp [Addr.add]
    rw [e0] at h1
    obtain ⟨cs, t, m, hb, hs, _⟩ := cell_block h1
    obtain ⟨ab, ao, ap⟩ := a
    simp only at hs hb
    subst hs
    refine ⟨ab, ao, cs, t, m, rfl, hb, fun j u hu => ?_⟩
    have hj : j < n := by
      have := (List.getElem?_eq_some_iff.1 hu).1
      simpa using this
    obtain ⟨a', e, h2⟩ := h j hj
    obtain rfl := Option.some.inj e
    rw [Addr.add_lit] at h2
    obtain ⟨cs', t', m', hb', _, h3⟩ := cell_block h2
    have e2 := Option.some.inj (hb.symm.trans hb')
    injection e2 with e3
    subst e3
    rw [h3, ← hu]
    simp [hj]
theorem of_wf64 {n : Int} (h : (Lit.int .u64 n).wf = true) : 0 ≤ n ∧ n < 18446744073709551616 := by
  have e1 : IntKind.u64.min = 0 := rfl
  have e2 : IntKind.u64.max = 18446744073709551615 := rfl
  simp only [Lit.wf, e1, e2, Bool.and_eq_true, decide_eq_true_eq] at h
  omega
theorem of_wf8 {n : Int} (h : (Lit.int .u8 n).wf = true) : 0 ≤ n ∧ n < 256 := by
  have e1 : IntKind.u8.min = 0 := rfl
  have e2 : IntKind.u8.max = 255 := rfl
  simp only [Lit.wf, e1, e2, Bool.and_eq_true, decide_eq_true_eq] at h
  omega
theorem of_wfi {n : Int} (h : (Lit.int .i64 n).wf = true) : -9223372036854775808 ≤ n ∧ n ≤ 9223372036854775807 := by
  have e1 : IntKind.i64.min = -9223372036854775808 := rfl
  have e2 : IntKind.i64.max = 9223372036854775807 := rfl
  simp only [Lit.wf, e1, e2, Bool.and_eq_true, decide_eq_true_eq] at h
  omega
section
open Go.ChangeShapes Go.WideShapes Go.Deep
variable {H : Type} {enc : TypeId × Value → H}
set_option maxRecDepth 100000 in
theorem open_u64s {W : World} {b base : Nat} {sp : Nat → Bool} {held : Bool} {v : Value} {d : DataW H} {p : List MemPlace}
    (hv : Value.okWide Tryd.prog W .any b 22 v) (h : DataW.Trod enc Tryd.prog W base sp held 22 v d p) :
    ∃ (n : Nat) (xs : List Int), SlAt (all W) v n (u64L xs) ∧ ∀ a ∈ xs, 0 ≤ a ∧ a < 18446744073709551616 := by
  obtain ⟨a0, n0, c0, rfl⟩ := okWide_slice Tryd.underlying22 hv
  obtain ⟨fuel, hf⟩ := h
  rcases Go.Deep.open_slice Tryd.underlying22 hf with ⟨hc, -⟩ | ⟨a, len, cap, m, n, D, Pl, hc, -, hl, hm, hmm, -, hi⟩
  · simp only [Value.cells, List.cons.injEq, Value.slice.injEq, and_true] at hc
    obtain ⟨rfl, rfl, rfl⟩ := hc
    exact ⟨0, [], ⟨rfl, _, _, rfl, Nat.le_refl _, Nat.zero_le _, .inl rfl⟩, by simp⟩
  · simp only [Value.cells, List.cons.injEq, Value.slice.injEq, and_true] at hc
    obtain ⟨rfl, rfl, rfl⟩ := hc
    have hlm : n0 ≤ m := by rw [hmm]; split <;> omega
    have key : ∀ i, i < n0 → ∃ x : Int, W.cell? (a.add i) = some (.int .u64 x) ∧ 0 ≤ x ∧ x < 18446744073709551616 := by
      intro i hil
      obtain ⟨cs, hcs, ht⟩ := hi i (by omega)
      rw [cells23] at hcs
      obtain ⟨_, hcl, hat⟩ := World.cells?_some hcs
      match cs, hcl with
      | [c0], _ =>
        obtain ⟨x, ex, -, wx⟩ := DataW.trod_int Tryd.underlying23 ht
        simp only [List.cons.injEq, and_true] at ex
        subst ex
        have a0 := hat 0 (by omega)
        refine ⟨x, ?_, ?_⟩
        · have : (a.add (i * 1)).add 0 = a.add i := by simp [Addr.add]
          rw [this] at a0
          exact a0
        · exact of_wf64 wx
    let f : Nat → Int := fun i => match W.cell? (a.add i) with | some (.int _ x) => x | _ => 0
    have hf : ∀ i, i < n0 → W.cell? (a.add i) = some (.int .u64 (f i)) ∧ 0 ≤ f i ∧ f i < 18446744073709551616 := fun i hi => by
      obtain ⟨x, hx, hr⟩ := key i hi
      have e : f i = x := by simp only [f, hx]
      rw [e]; exact ⟨hx, hr⟩
    refine ⟨n0, (List.range n0).map f, ?_, ?_⟩
    · have e : u64L ((List.range n0).map f) = (List.range n0).map (fun i => Value.int .u64 (f i)) := by simp [u64L]
      rw [e]
      exact sl_of hl hm _ fun i hi => ⟨a, rfl, (hf i hi).1⟩
    · intro y hy
      obtain ⟨i, hi, rfl⟩ := List.mem_map.1 hy
      exact (hf i (by simpa using hi)).2
end
end Go.Proofs.YtnmickfdflinpaaDoor
