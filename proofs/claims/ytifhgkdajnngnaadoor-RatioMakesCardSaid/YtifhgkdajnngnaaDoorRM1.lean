/- The walks of RatioValid (4) and RatioMakes (3). -/
import Derived.Test.YtifhgkdajnngnaaDoorRR6
namespace Go.Proofs.YtifhgkdajnngnaaDoor
open Go.RowKit Go.Par
set_option maxRecDepth 100000 in
set_option maxHeartbeats 1000000 in
theorem lvalid_walk (n d : Int) (v : Bool) (w : World) (G : Globs w)
    (hV : ∀ W : World, Calls Tryd.prog 17 #[.agg #[.int .i64 n, .int .i64 d]] W fun e w' => e = .returned (.bool v) ∧ Ext W w')
    (hR : ∀ W : World, Calls Tryd.prog 18 #[.int .i64 n, .int .i64 d] W fun e w' => e = .returned (.bool v) ∧ Ext W w') :
    Calls Tryd.prog 4 #[.agg #[.int .i64 n, .int .i64 d]] w fun e w' => e = .returned (.bool true) ∧ Ext w w' := by
  have HA := Lib.hid (fun W (G : Globs W) => awake_any W G)
  have HG := Lib.hid G
  have HV := Lib.hid hV
  have HR := Lib.hid hR
  clear G hV hR
  go_enter Tryd.func4, Tryd.ntmps4
  go_wp2_with fail
  refine Go.Par.region 11 [] (by kernel_rfl) (by kernel_rfl) (fun _ _ _ _ _ h => h) ?_
  simp only [List.take_succ_cons, List.take_zero]
  repeat (first
    | (apply step_val; (case hf => rfl); (case hw => (go_simp; done)); (case h => (intro w' hx fc; go_simp; (first | exact rfl | (go_at_call 14; exact HA.out _ (HG.out.ext (Ext.trans (by repeat (first | (with_reducible exact Ext.refl _) | (with_reducible assumption) | (with_reducible refine Ext.alloc ?_ _) | (with_reducible refine Ext.drewN ?_ _) | (with_reducible refine Ext.drew ?_) | (with_reducible refine Ext.setCell ?_ (by simp <;> omega) _))) hx))) | (go_at_call 17; exact HV.out _) | (go_at_call 18; exact HR.out _)))); intro K hK; go_simp; refine hK _ ?_; clear hK K)
    | (apply Go.Par.step_skip; (case hw => (go_simp; first | done | (intro h; cases h))); intro K hK; go_simp; refine hK _ ?_; clear hK K)
    | (apply step_make (mk := fun b => Value.pointer (some ⟨b, 0, none⟩)); (case hf => rfl); (case hw => (go_simp; done)); (case h => (intro w' hx; go_simp; exact rfl)); (case hno => kernel_rfl); simp only [List.nil_append, List.cons_append]))
  refine fin_none (fun w1 hx => ?_)
  simp only [List.drop_succ_cons, List.drop_zero]
  go_wp2_with fail
  go_ret
  exact ⟨ret_bool (by simp), Ext.trans (by repeat (first | (with_reducible exact Ext.refl _) | (with_reducible assumption) | (with_reducible refine Ext.alloc ?_ _) | (with_reducible refine Ext.drewN ?_ _) | (with_reducible refine Ext.drew ?_) | (with_reducible refine Ext.setCell ?_ (by simp <;> omega) _))) hx⟩
set_option maxRecDepth 100000 in
set_option maxHeartbeats 1000000 in
theorem makes_zero (n : Int) (w : World) (G : Globs w)
    (hM : ∀ W : World, Calls Tryd.prog 13 #[.int .i64 n, .int .i64 0] W fun e w' => e = .returned (.tuple #[.agg #[.int .i64 0, .int .i64 0], .int .i64 1]) ∧ Ext W w') :
    Calls Tryd.prog 3 #[.int .i64 n, .int .i64 0] w fun e w' => e = .returned (.bool true) ∧ Ext w w' := by
  have HA := Lib.hid (fun W (G : Globs W) => awake_any W G)
  have HG := Lib.hid G
  have HM := Lib.hid hM
  clear G hM
  have X0 : Ext w w := Ext.refl w
  go_enter Tryd.func3, Tryd.ntmps3
  go_wp2_with fail
  refine (HM.out _).mono ?_
  rintro e w1 ⟨rfl, hx⟩
  have fs1 : w.heap.size ≤ w1.heap.size := by simpa using hx.size
  obtain ⟨fc, ff⟩ := And.intro hx.cells hx.marks
  clear fc ff
  have X1 : Ext w w1 := Ext.trans (by repeat (first | (with_reducible exact Ext.refl _) | (with_reducible assumption) | (with_reducible refine Ext.alloc ?_ _) | (with_reducible refine Ext.drewN ?_ _) | (with_reducible refine Ext.drew ?_) | (with_reducible refine Ext.setCell ?_ (by simp <;> omega) _))) hx
  clear hx 
  go_wp2_with fail
  refine (HA.out _ (HG.out.ext (by repeat (first | (with_reducible exact Ext.refl _) | (with_reducible assumption) | (with_reducible refine Ext.alloc ?_ _) | (with_reducible refine Ext.drewN ?_ _) | (with_reducible refine Ext.drew ?_) | (with_reducible refine Ext.setCell ?_ (by simp <;> omega) _))))).mono ?_
  rintro e w2 ⟨rfl, hx⟩
  have fs2 : w1.heap.size + 1 ≤ w2.heap.size := by simpa using hx.size
  obtain ⟨fc, ff⟩ := And.intro hx.cells hx.marks
  have C2r0 : w2.cell? ⟨w1.heap.size, 0, none⟩ = some (Value.int IntKind.i64 0) := by rw [fc _ _ (by first | omega | (simp; omega) | simp)]; simp [go_sem, *]
  have F2r0 : w2.frozen? ⟨w1.heap.size, 0, none⟩ = false := by rw [ff _ _ (by first | omega | (simp; omega) | simp)]; simp [go_sem, *]
  have C2r1 : w2.cell? ⟨w1.heap.size, 1, none⟩ = some (Value.int IntKind.i64 0) := by rw [fc _ _ (by first | omega | (simp; omega) | simp)]; simp [go_sem, *]
  have F2r1 : w2.frozen? ⟨w1.heap.size, 1, none⟩ = false := by rw [ff _ _ (by first | omega | (simp; omega) | simp)]; simp [go_sem, *]
  clear fc ff
  have X2 : Ext w w2 := Ext.trans (by repeat (first | (with_reducible exact Ext.refl _) | (with_reducible assumption) | (with_reducible refine Ext.alloc ?_ _) | (with_reducible refine Ext.drewN ?_ _) | (with_reducible refine Ext.drew ?_) | (with_reducible refine Ext.setCell ?_ (by simp <;> omega) _))) hx
  clear hx X1 
  have l2r : w1.heap.size < w2.heap.size := by omega
  go_wp2_with fail
  go_ret
  exact ⟨rfl, (by repeat (first | (with_reducible exact Ext.refl _) | (with_reducible assumption) | (with_reducible refine Ext.alloc ?_ _) | (with_reducible refine Ext.drewN ?_ _) | (with_reducible refine Ext.drew ?_) | (with_reducible refine Ext.setCell ?_ (by simp <;> omega) _)))⟩
set_option maxRecDepth 100000 in
set_option maxHeartbeats 1000000 in
theorem makes_walk (n d x y e : Int) (hd : ¬ d = 0) (he : (e = 0 ∧ 0 < y) ∨ e = 3) (s t : Bool) (nh nl dh dl : Int) (w : World) (G : Globs w)
    (hM : ∀ W : World, Calls Tryd.prog 13 #[.int .i64 n, .int .i64 d] W fun r w' => r = .returned (.tuple #[.agg #[.int .i64 x, .int .i64 y], .int .i64 e]) ∧ Ext W w')
    (h1 : ∀ W : World, Calls Tryd.prog 16 #[.int .i64 n] W fun e w' => e = .returned (.agg #[.bool s, .int .u64 nh, .int .u64 nl]) ∧ Ext W w')
    (h2 : ∀ W : World, Calls Tryd.prog 16 #[.int .i64 d] W fun e w' => e = .returned (.agg #[.bool t, .int .u64 dh, .int .u64 dl]) ∧ Ext W w')
    (hI : ∀ W : World, Calls Tryd.prog 15 #[.agg #[.int .i64 x, .int .i64 y], .int .i64 e, .agg #[.bool s, .int .u64 nh, .int .u64 nl], .agg #[.bool t, .int .u64 dh, .int .u64 dl]] W fun e w' => e = .returned (.bool true) ∧ Ext W w')
    (hV : ∀ W : World, Calls Tryd.prog 17 #[.agg #[.int .i64 x, .int .i64 y]] W fun e w' => e = .returned (.bool true) ∧ Ext W w') :
    Calls Tryd.prog 3 #[.int .i64 n, .int .i64 d] w fun e w' => e = .returned (.bool true) ∧ Ext w w' := by
  have HA := Lib.hid (fun W (G : Globs W) => awake_any W G)
  have HG := Lib.hid G
  have HM := Lib.hid hM
  have H1 := Lib.hid h1
  have H2 := Lib.hid h2
  have HI := Lib.hid hI
  have HV := Lib.hid hV
  clear G hM h1 h2 hI hV
  have X0 : Ext w w := Ext.refl w
  have hd' : (d == 0) = false := by simp [hd]
  rcases he with ⟨rfl, hy⟩ | rfl
  · go_enter Tryd.func3, Tryd.ntmps3
    go_wp2_with fail
    refine (HM.out _).mono ?_
    rintro e w1 ⟨rfl, hx⟩
    have fs1 : w.heap.size ≤ w1.heap.size := by simpa using hx.size
    obtain ⟨fc, ff⟩ := And.intro hx.cells hx.marks
    clear fc ff
    have X1 : Ext w w1 := Ext.trans (by repeat (first | (with_reducible exact Ext.refl _) | (with_reducible assumption) | (with_reducible refine Ext.alloc ?_ _) | (with_reducible refine Ext.drewN ?_ _) | (with_reducible refine Ext.drew ?_) | (with_reducible refine Ext.setCell ?_ (by simp <;> omega) _))) hx
    clear hx 
    go_wp2_with fail
    refine Go.Par.region 23 [] (by kernel_rfl) (by kernel_rfl) (fun _ _ _ _ _ h => h) ?_
    simp only [List.take_succ_cons, List.take_zero]
    repeat (first
      | (apply step_val; (case hf => rfl); (case hw => (go_simp; done)); (case h => (intro w' hx fc; go_simp; (first | exact rfl | (go_at_call 14; exact HA.out _ (HG.out.ext (Ext.trans (by repeat (first | (with_reducible exact Ext.refl _) | (with_reducible assumption) | (with_reducible refine Ext.alloc ?_ _) | (with_reducible refine Ext.drewN ?_ _) | (with_reducible refine Ext.drew ?_) | (with_reducible refine Ext.setCell ?_ (by simp <;> omega) _))) hx))) | (go_at_call_of 16 (Value.int IntKind.i64 n); exact H1.out _) | (go_at_call_of 16 (Value.int IntKind.i64 d); exact H2.out _) | (go_at_call 15; exact HI.out _) | (go_at_call 17; exact HV.out _)))); intro K hK; go_simp; refine hK _ ?_; clear hK K)
      | (apply Go.Par.step_skip; (case hw => (go_simp; first | done | (intro h; cases h))); intro K hK; go_simp; refine hK _ ?_; clear hK K)
      | (apply step_make (mk := fun b => Value.pointer (some ⟨b, 0, none⟩)); (case hf => rfl); (case hw => (go_simp; done)); (case h => (intro w' hx; go_simp; exact rfl)); (case hno => kernel_rfl); simp only [List.nil_append, List.cons_append]))
    refine fin_none (fun w2 hx => ?_)
    have fs2 : w1.heap.size + 1 ≤ w2.heap.size := by simpa using hx.size
    obtain ⟨fc, ff⟩ := And.intro hx.cells hx.marks
    have C2r0 : w2.cell? ⟨w1.heap.size, 0, none⟩ = some (Value.int IntKind.i64 x) := by rw [fc _ _ (by first | omega | (simp; omega) | simp)]; simp [go_sem, *]
    have F2r0 : w2.frozen? ⟨w1.heap.size, 0, none⟩ = false := by rw [ff _ _ (by first | omega | (simp; omega) | simp)]; simp [go_sem, *]
    have C2r1 : w2.cell? ⟨w1.heap.size, 1, none⟩ = some (Value.int IntKind.i64 y) := by rw [fc _ _ (by first | omega | (simp; omega) | simp)]; simp [go_sem, *]
    have F2r1 : w2.frozen? ⟨w1.heap.size, 1, none⟩ = false := by rw [ff _ _ (by first | omega | (simp; omega) | simp)]; simp [go_sem, *]
    clear fc ff
    have X2 : Ext w w2 := Ext.trans (by repeat (first | (with_reducible exact Ext.refl _) | (with_reducible assumption) | (with_reducible refine Ext.alloc ?_ _) | (with_reducible refine Ext.drewN ?_ _) | (with_reducible refine Ext.drew ?_) | (with_reducible refine Ext.setCell ?_ (by simp <;> omega) _))) hx
    clear hx X1 
    have l2r : w1.heap.size < w2.heap.size := by omega
    simp only [List.drop_succ_cons, List.drop_zero]
    go_wp2_with fail
    go_ret
    exact ⟨rfl, (by repeat (first | (with_reducible exact Ext.refl _) | (with_reducible assumption) | (with_reducible refine Ext.alloc ?_ _) | (with_reducible refine Ext.drewN ?_ _) | (with_reducible refine Ext.drew ?_) | (with_reducible refine Ext.setCell ?_ (by simp <;> omega) _)))⟩
  · go_enter Tryd.func3, Tryd.ntmps3
    go_wp2_with fail
    refine (HM.out _).mono ?_
    rintro e w1 ⟨rfl, hx⟩
    have fs1 : w.heap.size ≤ w1.heap.size := by simpa using hx.size
    obtain ⟨fc, ff⟩ := And.intro hx.cells hx.marks
    clear fc ff
    have X1 : Ext w w1 := Ext.trans (by repeat (first | (with_reducible exact Ext.refl _) | (with_reducible assumption) | (with_reducible refine Ext.alloc ?_ _) | (with_reducible refine Ext.drewN ?_ _) | (with_reducible refine Ext.drew ?_) | (with_reducible refine Ext.setCell ?_ (by simp <;> omega) _))) hx
    clear hx 
    go_wp2_with fail
    refine Go.Par.region 23 [] (by kernel_rfl) (by kernel_rfl) (fun _ _ _ _ _ h => h) ?_
    simp only [List.take_succ_cons, List.take_zero]
    repeat (first
      | (apply step_val; (case hf => rfl); (case hw => (go_simp; done)); (case h => (intro w' hx fc; go_simp; (first | exact rfl | (go_at_call 14; exact HA.out _ (HG.out.ext (Ext.trans (by repeat (first | (with_reducible exact Ext.refl _) | (with_reducible assumption) | (with_reducible refine Ext.alloc ?_ _) | (with_reducible refine Ext.drewN ?_ _) | (with_reducible refine Ext.drew ?_) | (with_reducible refine Ext.setCell ?_ (by simp <;> omega) _))) hx))) | (go_at_call_of 16 (Value.int IntKind.i64 n); exact H1.out _) | (go_at_call_of 16 (Value.int IntKind.i64 d); exact H2.out _) | (go_at_call 15; exact HI.out _) | (go_at_call 17; exact HV.out _)))); intro K hK; go_simp; refine hK _ ?_; clear hK K)
      | (apply Go.Par.step_skip; (case hw => (go_simp; first | done | (intro h; cases h))); intro K hK; go_simp; refine hK _ ?_; clear hK K)
      | (apply step_make (mk := fun b => Value.pointer (some ⟨b, 0, none⟩)); (case hf => rfl); (case hw => (go_simp; done)); (case h => (intro w' hx; go_simp; exact rfl)); (case hno => kernel_rfl); simp only [List.nil_append, List.cons_append]))
    refine fin_none (fun w2 hx => ?_)
    have fs2 : w1.heap.size + 1 ≤ w2.heap.size := by simpa using hx.size
    obtain ⟨fc, ff⟩ := And.intro hx.cells hx.marks
    have C2r0 : w2.cell? ⟨w1.heap.size, 0, none⟩ = some (Value.int IntKind.i64 x) := by rw [fc _ _ (by first | omega | (simp; omega) | simp)]; simp [go_sem, *]
    have F2r0 : w2.frozen? ⟨w1.heap.size, 0, none⟩ = false := by rw [ff _ _ (by first | omega | (simp; omega) | simp)]; simp [go_sem, *]
    have C2r1 : w2.cell? ⟨w1.heap.size, 1, none⟩ = some (Value.int IntKind.i64 y) := by rw [fc _ _ (by first | omega | (simp; omega) | simp)]; simp [go_sem, *]
    have F2r1 : w2.frozen? ⟨w1.heap.size, 1, none⟩ = false := by rw [ff _ _ (by first | omega | (simp; omega) | simp)]; simp [go_sem, *]
    clear fc ff
    have X2 : Ext w w2 := Ext.trans (by repeat (first | (with_reducible exact Ext.refl _) | (with_reducible assumption) | (with_reducible refine Ext.alloc ?_ _) | (with_reducible refine Ext.drewN ?_ _) | (with_reducible refine Ext.drew ?_) | (with_reducible refine Ext.setCell ?_ (by simp <;> omega) _))) hx
    clear hx X1 
    have l2r : w1.heap.size < w2.heap.size := by omega
    simp only [List.drop_succ_cons, List.drop_zero]
    go_wp2_with fail
    go_ret
    exact ⟨rfl, (by repeat (first | (with_reducible exact Ext.refl _) | (with_reducible assumption) | (with_reducible refine Ext.alloc ?_ _) | (with_reducible refine Ext.drewN ?_ _) | (with_reducible refine Ext.drew ?_) | (with_reducible refine Ext.setCell ?_ (by simp <;> omega) _)))⟩
end Go.Proofs.YtifhgkdajnngnaaDoor
