/- Whole clocks loaded and stored; Compare. -/
import Derived.Test.YtnmickfdflinpaaDoorVB
import Derived.Laws.IdiomCopy
import Derived.ChangeKeysEq
import Derived.Laws.StructEq
namespace Go.Proofs.YtnmickfdflinpaaDoor
open Go.RowKit Go.Par
theorem ck_load {W : World} {b : Nat} {x : Nat → Int} (h : CkAt W b x) : (loadCells ⟨b, 0, none⟩ 16).run Tryd.prog W = .ok (ckA x) W := by
  have := run_loadCells_list (P := Tryd.prog) W ⟨b, 0, none⟩ (ckA x).toList (fun j v hj => by
    have hl : j < 16 := by
      have := (List.getElem?_eq_some_iff.1 hj).1
      simpa [ck_size] using this
    have h2 := ck_get x j hl
    rw [Array.getElem?_toList, h2] at hj
    obtain rfl := Option.some.inj hj
    rw [Addr.add_lit, Nat.zero_add]
    exact (h.1 j hl).1)
  simpa [ck_size] using this
theorem agg26 (W : World) : (isAgg 26).run Tryd.prog W = .ok true W := by simp [isAgg, go_sem]
theorem size26 (W : World) : (Go.sizeOf 26).run Tryd.prog W = .ok 16 W := by simp [go_sem]
theorem ck_loadAt {W : World} {b : Nat} {x : Nat → Int} (h : CkAt W b x) : (Instr.loadAt 26 (.pointer (some ⟨b, 0, none⟩))).run Tryd.prog W = .ok (.agg (ckA x)) W := by
  unfold Instr.loadAt Instr.sureAddr loadVar
  simp only [Sem.run_bind, Sem.run_pure, Result.andThen, agg26, size26, ck_load h, if_true]
def eqF (x y : Nat → Int) : Bool := (List.range 16).all fun i => x i == y i
theorem part23 (x : Nat → Int) (k : Nat) (hk : k < 16) (w : World) : (part 23 (ckA x) k).run Tryd.prog w = .ok (.int .u64 (x k)) w := by
  have h : (isAgg 23).run Tryd.prog w = .ok false w := by simp [isAgg, go_sem]
  unfold part
  simp only [Sem.run_bind, h, Result.andThen, Bool.false_eq_true, if_false, ck_get x k hk, Sem.run_pure]
theorem eq_items (x y : Nat → Int) (d : Nat) (w : World) : ∀ is : List Nat, (∀ i ∈ is, i < 16) → (Op.eqItems (d + 1) 23 1 (ckA x) (ckA y) is).run Tryd.prog w = .ok (is.all fun i => x i == y i) w
  | [], _ => by simp [Op.eqItems]
  | i :: is, h => by
    have hi := h i (by simp)
    simp only [Op.eqItems, Nat.mul_one, Sem.run_bind, part23 x i hi, part23 y i hi, Result.andThen, run_equalIn_int w d 23 .u64 .u64 (x i) (y i) Tryd.underlying23]
    cases e : (x i == y i)
    · simp [e]
    · simp only [Bool.not_true, Bool.false_eq_true, if_false, List.all_cons, e, Bool.true_and]
      exact eq_items x y d w is (fun j hj => h j (by simp [hj]))
theorem eq_arr (x y : Nat → Int) (d : Nat) (w : World) : (Op.equalIn (d + 2) 24 (.agg (ckA x)) (.agg (ckA y))).run Tryd.prog w = .ok (eqF x y) w := by
  obtain ⟨i, hi⟩ : ∃ i, Tryd.prog.info? 23 = some i := Option.isSome_iff_exists.1 (by kernel_rfl)
  rw [show d + 2 = (d + 1) + 1 from rfl, run_equalIn_array w (d + 1) (ckA x) (ckA y) Tryd.underlying24 hi, show Tryd.prog.cellsOf 23 = 1 by kernel_rfl]
  exact eq_items x y d w (List.range 16) (fun i hi => by simpa using hi)
theorem eq_clock (x y : Nat → Int) (w : World) : (binOp .eql 26 (.agg (ckA x)) (.agg (ckA y))).run Tryd.prog w = .ok (.bool (eqF x y)) w := by
  have h24 : (isAgg 24).run Tryd.prog w = .ok true w := by simp [isAgg, go_sem]
  have s24 : (Go.sizeOf 24).run Tryd.prog w = .ok 16 w := by simp [go_sem]
  have hp : ∀ z : Nat → Int, (part 24 (ckA z) 0).run Tryd.prog w = .ok (.agg (ckA z)) w := fun z => by
    unfold part
    simp only [Sem.run_bind, h24, s24, Result.andThen, if_true, Sem.run_pure]
    rfl
  have hf : Tryd.prog.fieldsOf 26 = #[{ name := "at", type := 24, offset := 0, embedded := false, tag := "", pkgPath := "rootcause/vclock", byteOffset := 0 }] := by unfold Program.fieldsOf; rw [Tryd.underlying26]
  rw [run_eql_struct, run_equalIn_struct w 9999 26 _ _ (by rw [hf]; exact Tryd.underlying26) (by kernel_rfl), hf]
  simp only [Op.eqFields, Sem.run_ite, Sem.run_bind, hp, Result.andThen]
  rw [eq_arr x y 9997 w]
  cases eqF x y <;> simp
section
variable {ops : Array Oper} {rest : List Oper} {o : Oper} {a : Act} {w : World} {Q : Exit → Act → World → Prop}
theorem wp_load26 (hg : o.guard = none) (s : Operand) (ho : o.op = .load 26 s) (b : Nat) (x : Nat → Int) (hp : a.eval s = .pointer (some ⟨b, 0, none⟩)) (hc : CkAt w b x)
    (h : wpList Tryd.prog ops Q rest (a.put o.dst (.agg (ckA x))) w) : wpList Tryd.prog ops Q (o :: rest) a w := by
  refine wpList_plain hg fun K hK => ?_
  have e : (execOp a.eval o).run Tryd.prog w = .ok (.value (.agg (ckA x))) w := by
    unfold execOp
    simp only [ho, hp, Sem.run_bind, Sem.run_pure, Result.andThen, ck_loadAt hc]
  show o.upon Tryd.prog a K Q ((execOp a.eval o).run Tryd.prog w)
  rw [e]
  exact hK _ _ h
theorem wp_eql26 (hg : o.guard = none) (s t : Operand) (ho : o.op = .binOp .eql 26 s t 26) (x y : Nat → Int) (hs : a.eval s = .agg (ckA x)) (ht : a.eval t = .agg (ckA y))
    (h : wpList Tryd.prog ops Q rest (a.put o.dst (.bool (eqF x y))) w) : wpList Tryd.prog ops Q (o :: rest) a w := by
  refine wpList_plain hg fun K hK => ?_
  have hgt : Tryd.prog.eqGuardType Tryd.prog.depth 26 = false := by kernel_rfl
  have hgd := run_eqGuard_agg (P := Tryd.prog) w .eql 26 s t (ckA x) (ckA y) hgt
  have e : (execOp a.eval o).run Tryd.prog w = .ok (.value (.bool (eqF x y))) w := by
    unfold execOp
    simp only [ho, hs, ht, Sem.run_bind, Sem.run_pure, Result.andThen, eq_clock, hgd]
  show o.upon Tryd.prog a K Q ((execOp a.eval o).run Tryd.prog w)
  rw [e]
  exact hK _ _ h
end
def cmpF (x y : Nat → Int) : Int := if eqF x y = true then 1 else if leqF x y = true then 2 else if leqF y x = true then 3 else 4
set_option maxRecDepth 100000 in
set_option maxHeartbeats 1000000 in
theorem compare_any (x y : Nat → Int) (w : World) :
    Calls Tryd.prog 18 #[ck x, ck y] w fun e w' => e = .returned (.int .u8 (cmpF x y)) ∧ Ext w w' := by
  have HL := Lib.hid (fun W : World => leq_any x y W)
  have HM := Lib.hid (fun W : World => leq_any y x W)
  unfold ck at *
  have h1 : CkAt ((w.alloc (.cells (ckA x) 26)).alloc (.cells (ckA y) 26)) w.heap.size x := (CkAt.new w x 26).ext ((Ext.refl _).alloc _)
  have h2 : CkAt ((w.alloc (.cells (ckA x) 26)).alloc (.cells (ckA y) 26)) (w.heap.size + 1) y := CkAt.at (CkAt.new _ y 26) (by simp)
  have H1 := Lib.hid h1
  have H2 := Lib.hid h2
  clear h1 h2
  unfold cmpF
  generalize leqF x y = p at *
  generalize leqF y x = q at *
  generalize he : eqF x y = e at *
  have HE := Lib.hid he
  clear he
  cases e
  · cases p
    · cases q
      · go_enter Tryd.func18, Tryd.ntmps18
        go_wp2_with (first | (with_reducible refine wp_load26 rfl _ rfl w.heap.size x rfl H1.out ?_) | (with_reducible refine wp_load26 rfl _ rfl (w.heap.size + 1) y rfl H2.out ?_) | ((with_reducible refine wp_eql26 rfl _ _ rfl x y rfl rfl ?_); rw [HE.out]))
        refine (HL.out _).mono ?_
        rintro e w1 ⟨rfl, hx⟩
        have K1 := Lib.hid (H1.out.ext hx)
        have K2 := Lib.hid (H2.out.ext hx)
        have X1 : Ext w w1 := Ext.trans (by repeat (first | (with_reducible exact Ext.refl _) | (with_reducible assumption) | (with_reducible refine Ext.alloc ?_ _) | (with_reducible refine Ext.drewN ?_ _) | (with_reducible refine Ext.drew ?_) | (with_reducible refine Ext.setCell ?_ (by simp <;> omega) _))) hx
        clear hx H1 H2
        go_wp2_with (first | (with_reducible refine wp_load26 rfl _ rfl w.heap.size x rfl K1.out ?_) | (with_reducible refine wp_load26 rfl _ rfl (w.heap.size + 1) y rfl K2.out ?_) | ((with_reducible refine wp_eql26 rfl _ _ rfl x y rfl rfl ?_); rw [HE.out]))
        refine (HM.out _).mono ?_
        rintro e w2 ⟨rfl, hx⟩
        have X2 : Ext w w2 := X1.trans hx
        go_wp2_with fail
        go_ret
        exact ⟨rfl, X2⟩
      · go_enter Tryd.func18, Tryd.ntmps18
        go_wp2_with (first | (with_reducible refine wp_load26 rfl _ rfl w.heap.size x rfl H1.out ?_) | (with_reducible refine wp_load26 rfl _ rfl (w.heap.size + 1) y rfl H2.out ?_) | ((with_reducible refine wp_eql26 rfl _ _ rfl x y rfl rfl ?_); rw [HE.out]))
        refine (HL.out _).mono ?_
        rintro e w1 ⟨rfl, hx⟩
        have K1 := Lib.hid (H1.out.ext hx)
        have K2 := Lib.hid (H2.out.ext hx)
        have X1 : Ext w w1 := Ext.trans (by repeat (first | (with_reducible exact Ext.refl _) | (with_reducible assumption) | (with_reducible refine Ext.alloc ?_ _) | (with_reducible refine Ext.drewN ?_ _) | (with_reducible refine Ext.drew ?_) | (with_reducible refine Ext.setCell ?_ (by simp <;> omega) _))) hx
        clear hx H1 H2
        go_wp2_with (first | (with_reducible refine wp_load26 rfl _ rfl w.heap.size x rfl K1.out ?_) | (with_reducible refine wp_load26 rfl _ rfl (w.heap.size + 1) y rfl K2.out ?_) | ((with_reducible refine wp_eql26 rfl _ _ rfl x y rfl rfl ?_); rw [HE.out]))
        refine (HM.out _).mono ?_
        rintro e w2 ⟨rfl, hx⟩
        have X2 : Ext w w2 := X1.trans hx
        go_wp2_with fail
        go_ret
        exact ⟨rfl, X2⟩
    · go_enter Tryd.func18, Tryd.ntmps18
      go_wp2_with (first | (with_reducible refine wp_load26 rfl _ rfl w.heap.size x rfl H1.out ?_) | (with_reducible refine wp_load26 rfl _ rfl (w.heap.size + 1) y rfl H2.out ?_) | ((with_reducible refine wp_eql26 rfl _ _ rfl x y rfl rfl ?_); rw [HE.out]))
      refine (HL.out _).mono ?_
      rintro e w1 ⟨rfl, hx⟩
      have K1 := Lib.hid (H1.out.ext hx)
      have K2 := Lib.hid (H2.out.ext hx)
      have X1 : Ext w w1 := Ext.trans (by repeat (first | (with_reducible exact Ext.refl _) | (with_reducible assumption) | (with_reducible refine Ext.alloc ?_ _) | (with_reducible refine Ext.drewN ?_ _) | (with_reducible refine Ext.drew ?_) | (with_reducible refine Ext.setCell ?_ (by simp <;> omega) _))) hx
      clear hx H1 H2
      go_wp2_with (first | (with_reducible refine wp_load26 rfl _ rfl w.heap.size x rfl K1.out ?_) | (with_reducible refine wp_load26 rfl _ rfl (w.heap.size + 1) y rfl K2.out ?_) | ((with_reducible refine wp_eql26 rfl _ _ rfl x y rfl rfl ?_); rw [HE.out]))
      go_ret
      exact ⟨rfl, X1⟩
  · go_enter Tryd.func18, Tryd.ntmps18
    go_wp2_with (first | (with_reducible refine wp_load26 rfl _ rfl w.heap.size x rfl H1.out ?_) | (with_reducible refine wp_load26 rfl _ rfl (w.heap.size + 1) y rfl H2.out ?_) | ((with_reducible refine wp_eql26 rfl _ _ rfl x y rfl rfl ?_); rw [HE.out]))
    go_ret
    exact ⟨rfl, (by repeat (first | (with_reducible exact Ext.refl _) | (with_reducible assumption) | (with_reducible refine Ext.alloc ?_ _) | (with_reducible refine Ext.drewN ?_ _) | (with_reducible refine Ext.drew ?_) | (with_reducible refine Ext.setCell ?_ (by simp <;> omega) _)))⟩
end Go.Proofs.YtnmickfdflinpaaDoor
