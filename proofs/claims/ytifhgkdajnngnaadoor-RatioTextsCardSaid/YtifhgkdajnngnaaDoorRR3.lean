/- Contracts of the reference: divide. -/
import Derived.Test.YtifhgkdajnngnaaDoorRR2
import Derived.RegionTactic
import Derived.ChangeAlike
namespace Go.Proofs.YtifhgkdajnngnaaDoor
open Go.RowKit Go.Par
theorem Box3.id {W : World} {b : Nat} {x y z : Value} (h : Box3 W b x y z) : Box3 W b x y z := h
theorem Box3.set2 {W : World} {b : Nat} {x y z v : Value} (h : Box3 W b x y z) : Box3 (W.setCell ⟨b, 2, none⟩ v) b x y v := by
  obtain ⟨⟨a1, a2, a3⟩, ⟨b1, b2, b3⟩, c⟩ := h
  refine ⟨⟨?_, ?_, ?_⟩, ⟨?_, ?_, ?_⟩, ?_⟩ <;> simp [go_sem, a1, a2, a3, b1, b2, b3, c]
theorem Box3.set0 {W : World} {b : Nat} {x y z v : Value} (h : Box3 W b x y z) : Box3 (W.setCell ⟨b, 0, none⟩ v) b v y z := by
  obtain ⟨⟨a1, a2, a3⟩, ⟨b1, b2, b3⟩, c⟩ := h
  refine ⟨⟨?_, ?_, ?_⟩, ⟨?_, ?_, ?_⟩, ?_⟩ <;> simp [go_sem, a1, a2, a3, b1, b2, b3, c]
theorem bit_hi (ah al k : Nat) (hal : al < 18446744073709551616) (hk : 64 ≤ k) : (ah * 18446744073709551616 + al) / 2 ^ k % 2 = ah / 2 ^ (k - 64) % 2 := by
  obtain ⟨j, rfl⟩ : ∃ j, k = 64 + j := ⟨k - 64, by omega⟩
  rw [Nat.pow_add, ← Nat.div_div_eq_div_mul, show 64 + j - 64 = j by omega]
  have : (ah * 18446744073709551616 + al) / 2 ^ 64 = ah := by omega
  rw [this]
theorem bit_lo (ah al k : Nat) (hk : k < 64) : (ah * 18446744073709551616 + al) / 2 ^ k % 2 = al / 2 ^ (k % 64) % 2 := by
  rw [Nat.mod_eq_of_lt hk]
  obtain ⟨j, hj⟩ : ∃ j, 18446744073709551616 = 2 ^ k * (2 * 2 ^ j) := ⟨63 - k, by
    rw [← Nat.pow_succ', ← Nat.pow_add, show k + (63 - k + 1) = 64 by omega]⟩
  rw [hj, Nat.mul_left_comm, Nat.mul_add_div (Nat.two_pow_pos k), Nat.mul_left_comm, Nat.mul_add_mod]
theorem div_step (X Y B Q R b b' : Nat) (hs : X = 2 * Y + b) (hd : B * Q + R = Y) (h0 : 0 < B) (hR : R < B) (hb : b ≤ 1) (h1 : b' ≤ 1) (h2 : b' = 0 → 2 * R + b < B) (h3 : b' = 1 → B ≤ 2 * R + b) :
    X / B = 2 * Q + b' ∧ X % B = 2 * R + b - b' * B := by
  have l : 2 * R + b - b' * B < B := by
    rcases (show b' = 0 ∨ b' = 1 by omega) with rfl | rfl
    · have := h2 rfl; omega
    · omega
  have e : X = B * (2 * Q + b') + (2 * R + b - b' * B) := by
    have e1 : B * (2 * Q) = 2 * (B * Q) := Nat.mul_left_comm _ _ _
    rcases (show b' = 0 ∨ b' = 1 by omega) with rfl | rfl
    · rw [Nat.add_zero, Nat.zero_mul, Nat.sub_zero, e1]; omega
    · have := h3 rfl
      rw [Nat.mul_add, e1]; omega
  rw [e]
  exact ⟨by rw [Nat.mul_add_div h0, Nat.div_eq_of_lt l, Nat.add_zero], by rw [Nat.mul_add_mod, Nat.mod_eq_of_lt l]⟩
def bx (W : World) (b : Nat) (s : Bool) (m : Int) : Prop := Box3 W b (.bool s) (.int .u64 (hiW m)) (.int .u64 (loW m))

set_option maxRecDepth 100000 in
set_option maxHeartbeats 1000000 in
theorem divide_any (s t : Bool) (ah al B : Nat) (hah : ah < 18446744073709551616) (hal : al < 18446744073709551616) (hB0 : 0 < B) (hB1 : B ≤ 170141183460469231731687303715884105728) (w : World) :
    Calls Tryd.prog 50 #[.agg #[.bool s, .int .u64 ah, .int .u64 al], wv t B] w fun e w' => e = .returned (.tuple #[wv false ((ah * 18446744073709551616 + al) / B : Nat), wv false ((ah * 18446744073709551616 + al) % B : Nat)]) ∧ Ext w w' := by
  generalize hA : ah * 18446744073709551616 + al = A
  have HA := Lib.hid hA
  clear hA
  unfold wv
  generalize hbh : hiW B = bh
  generalize hbl : loW B = bl
  have Hbh := Lib.hid hbh
  have Hbl := Lib.hid hbl
  clear hbh hbl
  go_enter Tryd.func50, Tryd.ntmps50
  go_wp2
  go_loopw [8] (fun i W => ∃ k : Nat, k ≤ 128 ∧ i = .int .i64 ((k : Int) - 1) ∧ Ext w W ∧ Box3 W w.heap.size (.bool s) (.int .u64 ah) (.int .u64 al) ∧ Box3 W (w.heap.size + 1) (.bool t) (.int .u64 bh) (.int .u64 bl)
    ∧ Box3 W (w.heap.size + 1 + 1) (.bool false) (.int .u64 0) (.int .u64 0) ∧ Box3 W (w.heap.size + 1 + 1 + 1) (.bool false) (.int .u64 0) (.int .u64 0)
    ∧ bx W (w.heap.size + 1 + 1 + 1 + 1) false (A / 2 ^ k / B : Nat) ∧ bx W (w.heap.size + 1 + 1 + 1 + 1 + 1) false (A / 2 ^ k % B : Nat)) (fun i _ => (intOf i + 1).toNat)
  case atStart =>
    refine ⟨128, Nat.le_refl _, by simp, (by repeat (first | (with_reducible exact Ext.refl _) | (with_reducible assumption) | (with_reducible refine Ext.alloc ?_ _) | (with_reducible refine Ext.drewN ?_ _) | (with_reducible refine Ext.drew ?_) | (with_reducible refine Ext.setCell ?_ (by simp <;> omega) _))), ?_, ?_, ?_, ?_, ?_, ?_⟩
    · refine ⟨⟨?_, ?_, ?_⟩, ⟨?_, ?_, ?_⟩, ?_⟩ <;> simp [go_sem]
    · refine ⟨⟨?_, ?_, ?_⟩, ⟨?_, ?_, ?_⟩, ?_⟩ <;> simp [go_sem]
    · refine ⟨⟨?_, ?_, ?_⟩, ⟨?_, ?_, ?_⟩, ?_⟩ <;> simp [go_sem]
    · refine ⟨⟨?_, ?_, ?_⟩, ⟨?_, ?_, ?_⟩, ?_⟩ <;> simp [go_sem]
    · have : A / 2 ^ 128 = 0 := Nat.div_eq_of_lt (by have := HA.out; omega)
      unfold bx
      rw [this, Nat.zero_div]
      refine ⟨⟨?_, ?_, ?_⟩, ⟨?_, ?_, ?_⟩, ?_⟩ <;> simp [go_sem, hiW, loW]
    · have : A / 2 ^ 128 = 0 := Nat.div_eq_of_lt (by have := HA.out; omega)
      unfold bx
      rw [this, Nat.zero_mod]
      refine ⟨⟨?_, ?_, ?_⟩, ⟨?_, ?_, ?_⟩, ?_⟩ <;> simp [go_sem, hiW, loW]
  case round =>
    obtain ⟨k, hk, rfl, hE, hA, hB, hR, hS, hQ, hP⟩ := hrel
    unfold bx at hQ hP
    obtain rfl | ⟨k, rfl⟩ : k = 0 ∨ ∃ j, k = j + 1 := by cases k <;> simp
    · rw [Nat.pow_zero, Nat.div_one] at hQ hP
      obtain ⟨⟨ca0, ca1, ca2⟩, ⟨fa0, fa1, fa2⟩, la⟩ := hA
      obtain ⟨⟨cb0, cb1, cb2⟩, ⟨fb0, fb1, fb2⟩, lb⟩ := hB
      obtain ⟨⟨cr0, cr1, cr2⟩, ⟨fr0, fr1, fr2⟩, lr⟩ := hR
      obtain ⟨⟨cs0, cs1, cs2⟩, ⟨fs0, fs1, fs2⟩, ls⟩ := hS
      obtain ⟨⟨cq0, cq1, cq2⟩, ⟨fq0, fq1, fq2⟩, lq⟩ := hQ
      obtain ⟨⟨cp0, cp1, cp2⟩, ⟨fp0, fp1, fp2⟩, lp⟩ := hP
      go_wp2_with fail
      go_region
      all_goals
        go_wp2_with fail
        refine bodyPost_ret (v := .tuple #[wv false (A / B : Nat), wv false (A % B : Nat)]) ?_ rfl ⟨rfl, (by repeat (first | (with_reducible exact Ext.refl _) | (with_reducible assumption) | (with_reducible refine Ext.alloc ?_ _) | (with_reducible refine Ext.drewN ?_ _) | (with_reducible refine Ext.drew ?_) | (with_reducible refine Ext.setCell ?_ (by simp <;> omega) _)))⟩
        simp [results, Tryd.results50, go_sem, wv, cr0, cr1, cr2, cs0, cs1, cs2]
    · obtain ⟨b, hb1, hstep, hAk, hQ2, hRB⟩ : ∃ b : Nat, b ≤ 1 ∧ A / 2 ^ k = 2 * (A / 2 ^ (k + 1)) + b ∧ A / 2 ^ k % 2 = b ∧ 2 * (A / 2 ^ (k + 1) / B) + 1 < 340282366920938463463374607431768211456 ∧ A / 2 ^ (k + 1) % B < B := by
        have h1 := bit_step A k
        have h2 : A / 2 ^ (k + 1) / B ≤ A / 2 ^ (k + 1) := Nat.div_le_self _ _
        have h3 : A / 2 ^ (k + 1) ≤ A / 2 := by
          rw [Nat.pow_succ, Nat.mul_comm, ← Nat.div_div_eq_div_mul]; exact Nat.div_le_self _ _
        have h4 := HA.out
        exact ⟨A / 2 ^ k % 2, by omega, h1, rfl, by omega, Nat.mod_lt _ hB0⟩
      have hdiv := Nat.div_add_mod (A / 2 ^ (k + 1)) B
      generalize hq : A / 2 ^ (k + 1) / B = Q at *
      generalize hr : A / 2 ^ (k + 1) % B = R at *
      have HT1 := Lib.hid (fun W : World => twice_any false (Q : Int) ⟨by omega, by omega⟩ ⟨by omega, by omega⟩ W)
      have HT2 := Lib.hid (fun W : World => twice_any false (R : Int) ⟨by omega, by omega⟩ ⟨by omega, by omega⟩ W)
      obtain ⟨ql, eql, ql0, ql1, eq1, eq2⟩ : ∃ ql : Int, loW (2 * (Q : Int)) = ql ∧ 0 ≤ ql ∧ ql < 18446744073709551615 ∧ hiW (2 * (Q : Int) + 1) = hiW (2 * (Q : Int)) ∧ loW (2 * (Q : Int) + 1) = ql + 1 := by
        refine ⟨_, rfl, ?_⟩
        simp only [hiW, loW]; omega
      obtain ⟨rl, erl, rl0, rl1, er1, er2⟩ : ∃ rl : Int, loW (2 * (R : Int)) = rl ∧ 0 ≤ rl ∧ rl < 18446744073709551615 ∧ hiW (2 * (R : Int) + b) = hiW (2 * (R : Int)) ∧ loW (2 * (R : Int) + b) = rl + b := by
        refine ⟨_, rfl, ?_⟩
        simp only [hiW, loW]; omega
      have fB : Fits (B : Int) := ⟨by omega, by omega⟩
      have fR : Fits (2 * (R : Int) + b) := ⟨by omega, by omega⟩
      have HL := Lib.hid (fun W : World => less_any false t (2 * (R : Int) + b) B fR fB W)
      have HD := Lib.hid (fun (h : (B : Int) ≤ 2 * (R : Int) + b) (W : World) => diff_any false t (2 * (R : Int) + b) B fR fB h W)
      unfold wv at HT1 HT2 HL HD
      rw [eql] at HT1
      rw [erl] at HT2
      rw [er1, er2, Hbh.out, Hbl.out] at HL HD
      have fin := fun b' h1 h2 h3 => div_step (A / 2 ^ k) (A / 2 ^ (k + 1)) B Q R b b' hstep hdiv hB0 hRB hb1 h1 h2 h3
      have Hfin := Lib.hid fin
      have Hq := Lib.hid (And.intro (And.intro eq1 eq2) (And.intro er1 er2))
      have Hql := Lib.hid eql
      have HAk := Lib.hid hAk
      clear hq hr fin eq1 eq2 er1 er2 eql erl hdiv hstep hAk fB fR
      obtain ⟨⟨ca0, ca1, ca2⟩, ⟨fa0, fa1, fa2⟩, la⟩ := hA
      obtain ⟨⟨cb0, cb1, cb2⟩, ⟨fb0, fb1, fb2⟩, lb⟩ := hB
      obtain ⟨⟨cr0, cr1, cr2⟩, ⟨fr0, fr1, fr2⟩, lr⟩ := hR
      obtain ⟨⟨cs0, cs1, cs2⟩, ⟨fs0, fs1, fs2⟩, ls⟩ := hS
      obtain ⟨⟨cq0, cq1, cq2⟩, ⟨fq0, fq1, fq2⟩, lq⟩ := hQ
      obtain ⟨⟨cp0, cp1, cp2⟩, ⟨fp0, fp1, fp2⟩, lp⟩ := hP
      go_wp2_with fail
      refine Go.Par.region 4 [] (by kernel_rfl) (by kernel_rfl) (fun _ _ _ _ _ h => h) ?_
      simp only [List.take_succ_cons, List.take_zero]
      repeat (first
        | (apply step_val; (case hf => rfl); (case hw => (go_simp; done)); (case h => (intro w' hx fc; go_simp; (first | exact rfl | (go_at_call_of 42 (Value.agg #[Value.bool false, Value.int IntKind.u64 (hiW (Q : Int)), Value.int IntKind.u64 (loW (Q : Int))]); exact HT1.out _) | (go_at_call_of 42 (Value.agg #[Value.bool false, Value.int IntKind.u64 (hiW (R : Int)), Value.int IntKind.u64 (loW (R : Int))]); exact HT2.out _)))); intro K hK; go_simp; refine hK _ ?_; clear hK K)
        | (apply Go.Par.step_skip; (case hw => (go_simp; first | done | (intro h; cases h))); intro K hK; go_simp; refine hK _ ?_; clear hK K)
        | (apply step_make (mk := fun b => Value.pointer (some ⟨b, 0, none⟩)); (case hf => rfl); (case hw => (go_simp; done)); (case h => (intro w' hx; go_simp; exact rfl)); (case hno => kernel_rfl); simp only [List.nil_append, List.cons_append]))
      refine fin_none (fun w1 hx => ?_)
      have hA : Box3 w1 (w.heap.size) _ _ _ := Box3.ext (Box3.id ⟨⟨ca0, ca1, ca2⟩, ⟨fa0, fa1, fa2⟩, la⟩) hx
      have hB : Box3 w1 (w.heap.size + 1) _ _ _ := Box3.ext (Box3.id ⟨⟨cb0, cb1, cb2⟩, ⟨fb0, fb1, fb2⟩, lb⟩) hx
      have hR : Box3 w1 (w.heap.size + 1 + 1) _ _ _ := Box3.ext (Box3.id ⟨⟨cr0, cr1, cr2⟩, ⟨fr0, fr1, fr2⟩, lr⟩) hx
      have hS : Box3 w1 (w.heap.size + 1 + 1 + 1) _ _ _ := Box3.ext (Box3.id ⟨⟨cs0, cs1, cs2⟩, ⟨fs0, fs1, fs2⟩, ls⟩) hx
      have hQ : Box3 w1 (w.heap.size + 1 + 1 + 1 + 1) _ _ _ := Box3.ext (Box3.id ⟨⟨cq0, cq1, cq2⟩, ⟨fq0, fq1, fq2⟩, lq⟩) hx
      have hP : Box3 w1 (w.heap.size + 1 + 1 + 1 + 1 + 1) _ _ _ := Box3.ext (Box3.id ⟨⟨cp0, cp1, cp2⟩, ⟨fp0, fp1, fp2⟩, lp⟩) hx
      have hE1 : Ext w w1 := Ext.trans (by repeat (first | (with_reducible exact Ext.refl _) | (with_reducible assumption) | (with_reducible refine Ext.alloc ?_ _) | (with_reducible refine Ext.drewN ?_ _) | (with_reducible refine Ext.drew ?_) | (with_reducible refine Ext.setCell ?_ (by simp <;> omega) _))) hx
      clear hx hE ca0 ca1 ca2 fa0 fa1 fa2 la cb0 cb1 cb2 fb0 fb1 fb2 lb cr0 cr1 cr2 fr0 fr1 fr2 lr cs0 cs1 cs2 fs0 fs1 fs2 ls cq0 cq1 cq2 fq0 fq1 fq2 lq cp0 cp1 cp2 fp0 fp1 fp2 lp
      obtain ⟨⟨ca0, ca1, ca2⟩, ⟨fa0, fa1, fa2⟩, la⟩ := hA
      obtain ⟨⟨cb0, cb1, cb2⟩, ⟨fb0, fb1, fb2⟩, lb⟩ := hB
      obtain ⟨⟨cr0, cr1, cr2⟩, ⟨fr0, fr1, fr2⟩, lr⟩ := hR
      obtain ⟨⟨cs0, cs1, cs2⟩, ⟨fs0, fs1, fs2⟩, ls⟩ := hS
      obtain ⟨⟨cq0, cq1, cq2⟩, ⟨fq0, fq1, fq2⟩, lq⟩ := hQ
      obtain ⟨⟨cp0, cp1, cp2⟩, ⟨fp0, fp1, fp2⟩, lp⟩ := hP
      simp only [List.drop_succ_cons, List.drop_zero]
      go_upto_region 7 with fail
      have hA : Box3 ((((((w1.setCell ⟨w.heap.size + 1 + 1 + 1 + 1, 0, none⟩ (Value.bool false)).setCell ⟨w.heap.size + 1 + 1 + 1 + 1, 1, none⟩ (Value.int IntKind.u64 (hiW (2 * (Q : Int))))).setCell ⟨w.heap.size + 1 + 1 + 1 + 1, 2, none⟩ (Value.int IntKind.u64 ql)).setCell ⟨w.heap.size + 1 + 1 + 1 + 1 + 1, 0, none⟩ (Value.bool false)).setCell ⟨w.heap.size + 1 + 1 + 1 + 1 + 1, 1, none⟩ (Value.int IntKind.u64 (hiW (2 * (R : Int))))).setCell ⟨w.heap.size + 1 + 1 + 1 + 1 + 1, 2, none⟩ (Value.int IntKind.u64 rl)) (w.heap.size) _ _ _ := Box3.other (Box3.other (Box3.other (Box3.other (Box3.other (Box3.other (Box3.id ⟨⟨ca0, ca1, ca2⟩, ⟨fa0, fa1, fa2⟩, la⟩) (by omega)) (by omega)) (by omega)) (by omega)) (by omega)) (by omega)
      have hB : Box3 ((((((w1.setCell ⟨w.heap.size + 1 + 1 + 1 + 1, 0, none⟩ (Value.bool false)).setCell ⟨w.heap.size + 1 + 1 + 1 + 1, 1, none⟩ (Value.int IntKind.u64 (hiW (2 * (Q : Int))))).setCell ⟨w.heap.size + 1 + 1 + 1 + 1, 2, none⟩ (Value.int IntKind.u64 ql)).setCell ⟨w.heap.size + 1 + 1 + 1 + 1 + 1, 0, none⟩ (Value.bool false)).setCell ⟨w.heap.size + 1 + 1 + 1 + 1 + 1, 1, none⟩ (Value.int IntKind.u64 (hiW (2 * (R : Int))))).setCell ⟨w.heap.size + 1 + 1 + 1 + 1 + 1, 2, none⟩ (Value.int IntKind.u64 rl)) (w.heap.size + 1) _ _ _ := Box3.other (Box3.other (Box3.other (Box3.other (Box3.other (Box3.other (Box3.id ⟨⟨cb0, cb1, cb2⟩, ⟨fb0, fb1, fb2⟩, lb⟩) (by omega)) (by omega)) (by omega)) (by omega)) (by omega)) (by omega)
      have hR : Box3 ((((((w1.setCell ⟨w.heap.size + 1 + 1 + 1 + 1, 0, none⟩ (Value.bool false)).setCell ⟨w.heap.size + 1 + 1 + 1 + 1, 1, none⟩ (Value.int IntKind.u64 (hiW (2 * (Q : Int))))).setCell ⟨w.heap.size + 1 + 1 + 1 + 1, 2, none⟩ (Value.int IntKind.u64 ql)).setCell ⟨w.heap.size + 1 + 1 + 1 + 1 + 1, 0, none⟩ (Value.bool false)).setCell ⟨w.heap.size + 1 + 1 + 1 + 1 + 1, 1, none⟩ (Value.int IntKind.u64 (hiW (2 * (R : Int))))).setCell ⟨w.heap.size + 1 + 1 + 1 + 1 + 1, 2, none⟩ (Value.int IntKind.u64 rl)) (w.heap.size + 1 + 1) _ _ _ := Box3.other (Box3.other (Box3.other (Box3.other (Box3.other (Box3.other (Box3.id ⟨⟨cr0, cr1, cr2⟩, ⟨fr0, fr1, fr2⟩, lr⟩) (by omega)) (by omega)) (by omega)) (by omega)) (by omega)) (by omega)
      have hS : Box3 ((((((w1.setCell ⟨w.heap.size + 1 + 1 + 1 + 1, 0, none⟩ (Value.bool false)).setCell ⟨w.heap.size + 1 + 1 + 1 + 1, 1, none⟩ (Value.int IntKind.u64 (hiW (2 * (Q : Int))))).setCell ⟨w.heap.size + 1 + 1 + 1 + 1, 2, none⟩ (Value.int IntKind.u64 ql)).setCell ⟨w.heap.size + 1 + 1 + 1 + 1 + 1, 0, none⟩ (Value.bool false)).setCell ⟨w.heap.size + 1 + 1 + 1 + 1 + 1, 1, none⟩ (Value.int IntKind.u64 (hiW (2 * (R : Int))))).setCell ⟨w.heap.size + 1 + 1 + 1 + 1 + 1, 2, none⟩ (Value.int IntKind.u64 rl)) (w.heap.size + 1 + 1 + 1) _ _ _ := Box3.other (Box3.other (Box3.other (Box3.other (Box3.other (Box3.other (Box3.id ⟨⟨cs0, cs1, cs2⟩, ⟨fs0, fs1, fs2⟩, ls⟩) (by omega)) (by omega)) (by omega)) (by omega)) (by omega)) (by omega)
      have hQ : Box3 ((((((w1.setCell ⟨w.heap.size + 1 + 1 + 1 + 1, 0, none⟩ (Value.bool false)).setCell ⟨w.heap.size + 1 + 1 + 1 + 1, 1, none⟩ (Value.int IntKind.u64 (hiW (2 * (Q : Int))))).setCell ⟨w.heap.size + 1 + 1 + 1 + 1, 2, none⟩ (Value.int IntKind.u64 ql)).setCell ⟨w.heap.size + 1 + 1 + 1 + 1 + 1, 0, none⟩ (Value.bool false)).setCell ⟨w.heap.size + 1 + 1 + 1 + 1 + 1, 1, none⟩ (Value.int IntKind.u64 (hiW (2 * (R : Int))))).setCell ⟨w.heap.size + 1 + 1 + 1 + 1 + 1, 2, none⟩ (Value.int IntKind.u64 rl)) (w.heap.size + 1 + 1 + 1 + 1) _ _ _ := Box3.other (Box3.other (Box3.other (Box3.store (Box3.id ⟨⟨cq0, cq1, cq2⟩, ⟨fq0, fq1, fq2⟩, lq⟩)) (by omega)) (by omega)) (by omega)
      have hP : Box3 ((((((w1.setCell ⟨w.heap.size + 1 + 1 + 1 + 1, 0, none⟩ (Value.bool false)).setCell ⟨w.heap.size + 1 + 1 + 1 + 1, 1, none⟩ (Value.int IntKind.u64 (hiW (2 * (Q : Int))))).setCell ⟨w.heap.size + 1 + 1 + 1 + 1, 2, none⟩ (Value.int IntKind.u64 ql)).setCell ⟨w.heap.size + 1 + 1 + 1 + 1 + 1, 0, none⟩ (Value.bool false)).setCell ⟨w.heap.size + 1 + 1 + 1 + 1 + 1, 1, none⟩ (Value.int IntKind.u64 (hiW (2 * (R : Int))))).setCell ⟨w.heap.size + 1 + 1 + 1 + 1 + 1, 2, none⟩ (Value.int IntKind.u64 rl)) (w.heap.size + 1 + 1 + 1 + 1 + 1) _ _ _ := Box3.store (Box3.other (Box3.other (Box3.other (Box3.id ⟨⟨cp0, cp1, cp2⟩, ⟨fp0, fp1, fp2⟩, lp⟩) (by omega)) (by omega)) (by omega))
      have hE2 : Ext w ((((((w1.setCell ⟨w.heap.size + 1 + 1 + 1 + 1, 0, none⟩ (Value.bool false)).setCell ⟨w.heap.size + 1 + 1 + 1 + 1, 1, none⟩ (Value.int IntKind.u64 (hiW (2 * (Q : Int))))).setCell ⟨w.heap.size + 1 + 1 + 1 + 1, 2, none⟩ (Value.int IntKind.u64 ql)).setCell ⟨w.heap.size + 1 + 1 + 1 + 1 + 1, 0, none⟩ (Value.bool false)).setCell ⟨w.heap.size + 1 + 1 + 1 + 1 + 1, 1, none⟩ (Value.int IntKind.u64 (hiW (2 * (R : Int))))).setCell ⟨w.heap.size + 1 + 1 + 1 + 1 + 1, 2, none⟩ (Value.int IntKind.u64 rl)) := (by repeat (first | (with_reducible exact Ext.refl _) | (with_reducible assumption) | (with_reducible refine Ext.alloc ?_ _) | (with_reducible refine Ext.drewN ?_ _) | (with_reducible refine Ext.drew ?_) | (with_reducible refine Ext.setCell ?_ (by simp <;> omega) _)))
      clear hE1 ca0 ca1 ca2 fa0 fa1 fa2 la cb0 cb1 cb2 fb0 fb1 fb2 lb cr0 cr1 cr2 fr0 fr1 fr2 lr cs0 cs1 cs2 fs0 fs1 fs2 ls cq0 cq1 cq2 fq0 fq1 fq2 lq cp0 cp1 cp2 fp0 fp1 fp2 lp
      generalize ((((((w1.setCell ⟨w.heap.size + 1 + 1 + 1 + 1, 0, none⟩ (Value.bool false)).setCell ⟨w.heap.size + 1 + 1 + 1 + 1, 1, none⟩ (Value.int IntKind.u64 (hiW (2 * (Q : Int))))).setCell ⟨w.heap.size + 1 + 1 + 1 + 1, 2, none⟩ (Value.int IntKind.u64 ql)).setCell ⟨w.heap.size + 1 + 1 + 1 + 1 + 1, 0, none⟩ (Value.bool false)).setCell ⟨w.heap.size + 1 + 1 + 1 + 1 + 1, 1, none⟩ (Value.int IntKind.u64 (hiW (2 * (R : Int))))).setCell ⟨w.heap.size + 1 + 1 + 1 + 1 + 1, 2, none⟩ (Value.int IntKind.u64 rl)) = w2 at hA hB hR hS hQ hP hE2 ⊢
      obtain ⟨⟨ca0, ca1, ca2⟩, ⟨fa0, fa1, fa2⟩, la⟩ := hA
      obtain ⟨⟨cb0, cb1, cb2⟩, ⟨fb0, fb1, fb2⟩, lb⟩ := hB
      obtain ⟨⟨cr0, cr1, cr2⟩, ⟨fr0, fr1, fr2⟩, lr⟩ := hR
      obtain ⟨⟨cs0, cs1, cs2⟩, ⟨fs0, fs1, fs2⟩, ls⟩ := hS
      obtain ⟨⟨cq0, cq1, cq2⟩, ⟨fq0, fq1, fq2⟩, lq⟩ := hQ
      obtain ⟨⟨cp0, cp1, cp2⟩, ⟨fp0, fp1, fp2⟩, lp⟩ := hP
      by_cases hk64 : 64 ≤ k
      · have hbit : bits BinOp.and IntKind.u64 ((ah : Int) / 2 ^ (k - 64)) 1 = (b : Int) := by
          rw [bit_and ah (k - 64) (by omega), ← HAk.out, ← HA.out, bit_hi ah al k hal hk64]
        have e64 : ((k : Int) - 64).toNat = k - 64 := by omega
        have wr : 0 ≤ rl + b ∧ rl + b < 18446744073709551616 := by omega
        go_wp2_with fail
        refine (HL.out _).mono ?_
        rintro e w3 ⟨rfl, hx⟩
        have hA : Box3 w3 (w.heap.size) _ _ _ := Box3.ext (Box3.other (Box3.id ⟨⟨ca0, ca1, ca2⟩, ⟨fa0, fa1, fa2⟩, la⟩) (by omega)) hx
        have hB : Box3 w3 (w.heap.size + 1) _ _ _ := Box3.ext (Box3.other (Box3.id ⟨⟨cb0, cb1, cb2⟩, ⟨fb0, fb1, fb2⟩, lb⟩) (by omega)) hx
        have hR : Box3 w3 (w.heap.size + 1 + 1) _ _ _ := Box3.ext (Box3.other (Box3.id ⟨⟨cr0, cr1, cr2⟩, ⟨fr0, fr1, fr2⟩, lr⟩) (by omega)) hx
        have hS : Box3 w3 (w.heap.size + 1 + 1 + 1) _ _ _ := Box3.ext (Box3.other (Box3.id ⟨⟨cs0, cs1, cs2⟩, ⟨fs0, fs1, fs2⟩, ls⟩) (by omega)) hx
        have hQ : Box3 w3 (w.heap.size + 1 + 1 + 1 + 1) _ _ _ := Box3.ext (Box3.other (Box3.id ⟨⟨cq0, cq1, cq2⟩, ⟨fq0, fq1, fq2⟩, lq⟩) (by omega)) hx
        have hP : Box3 w3 (w.heap.size + 1 + 1 + 1 + 1 + 1) _ _ _ := Box3.ext (Box3.set2 (Box3.id ⟨⟨cp0, cp1, cp2⟩, ⟨fp0, fp1, fp2⟩, lp⟩)) hx
        have hE3 : Ext w w3 := Ext.trans (by repeat (first | (with_reducible exact Ext.refl _) | (with_reducible assumption) | (with_reducible refine Ext.alloc ?_ _) | (with_reducible refine Ext.drewN ?_ _) | (with_reducible refine Ext.drew ?_) | (with_reducible refine Ext.setCell ?_ (by simp <;> omega) _))) hx
        clear hx hE2 ca0 ca1 ca2 fa0 fa1 fa2 la cb0 cb1 cb2 fb0 fb1 fb2 lb cr0 cr1 cr2 fr0 fr1 fr2 lr cs0 cs1 cs2 fs0 fs1 fs2 ls cq0 cq1 cq2 fq0 fq1 fq2 lq cp0 cp1 cp2 fp0 fp1 fp2 lp
        obtain ⟨⟨ca0, ca1, ca2⟩, ⟨fa0, fa1, fa2⟩, la⟩ := hA
        obtain ⟨⟨cb0, cb1, cb2⟩, ⟨fb0, fb1, fb2⟩, lb⟩ := hB
        obtain ⟨⟨cr0, cr1, cr2⟩, ⟨fr0, fr1, fr2⟩, lr⟩ := hR
        obtain ⟨⟨cs0, cs1, cs2⟩, ⟨fs0, fs1, fs2⟩, ls⟩ := hS
        obtain ⟨⟨cq0, cq1, cq2⟩, ⟨fq0, fq1, fq2⟩, lq⟩ := hQ
        obtain ⟨⟨cp0, cp1, cp2⟩, ⟨fp0, fp1, fp2⟩, lp⟩ := hP
        by_cases hlt : 2 * (R : Int) + b < B
        · obtain ⟨fq, fr⟩ := Hfin.out 0 (by omega) (fun _ => by omega) (fun h => by omega)
          have Hfq := Lib.hid (And.intro fq fr)
          clear fq fr
          have hd : decide (2 * (R : Int) + b < B) = true := decide_eq_true hlt
          go_wp2_with fail
          go_roundw
          case rel =>
            refine ⟨k, by omega, rfl, (by repeat (first | (with_reducible exact Ext.refl _) | (with_reducible assumption) | (with_reducible refine Ext.alloc ?_ _) | (with_reducible refine Ext.drewN ?_ _) | (with_reducible refine Ext.drew ?_) | (with_reducible refine Ext.setCell ?_ (by simp <;> omega) _))), ?_, ?_, ?_, ?_, ?_, ?_⟩
            · exact Box3.id ⟨⟨ca0, ca1, ca2⟩, ⟨fa0, fa1, fa2⟩, la⟩
            · exact Box3.id ⟨⟨cb0, cb1, cb2⟩, ⟨fb0, fb1, fb2⟩, lb⟩
            · exact Box3.id ⟨⟨cr0, cr1, cr2⟩, ⟨fr0, fr1, fr2⟩, lr⟩
            · exact Box3.id ⟨⟨cs0, cs1, cs2⟩, ⟨fs0, fs1, fs2⟩, ls⟩
            · unfold bx; rw [Hfq.out.1, show ((2 * Q + 0 : Nat) : Int) = 2 * (Q : Int) + 0 by omega, Int.add_zero, Hql.out]; exact Box3.id ⟨⟨cq0, cq1, cq2⟩, ⟨fq0, fq1, fq2⟩, lq⟩
            · unfold bx; rw [Hfq.out.2, show ((2 * R + b - 0 * B : Nat) : Int) = 2 * (R : Int) + b by omega, Hq.out.2.1, Hq.out.2.2]; exact Box3.id ⟨⟨cp0, cp1, cp2⟩, ⟨fp0, fp1, fp2⟩, lp⟩
          case measure => simp [intOf]
        · obtain ⟨fq, fr⟩ := Hfin.out 1 (by omega) (fun h => by omega) (fun _ => by omega)
          have Hfq := Lib.hid (And.intro fq fr)
          clear fq fr
          have hd : decide (2 * (R : Int) + b < B) = false := decide_eq_false hlt
          have hle : (B : Int) ≤ 2 * (R : Int) + b := by omega
          have wq : 0 ≤ ql + 1 ∧ ql + 1 < 18446744073709551616 := by omega
          go_wp2_with fail
          refine (HD.out hle _).mono ?_
          rintro e w4 ⟨rfl, hx⟩
          have hA : Box3 w4 (w.heap.size) _ _ _ := Box3.ext (Box3.id ⟨⟨ca0, ca1, ca2⟩, ⟨fa0, fa1, fa2⟩, la⟩) hx
          have hB : Box3 w4 (w.heap.size + 1) _ _ _ := Box3.ext (Box3.id ⟨⟨cb0, cb1, cb2⟩, ⟨fb0, fb1, fb2⟩, lb⟩) hx
          have hR : Box3 w4 (w.heap.size + 1 + 1) _ _ _ := Box3.ext (Box3.id ⟨⟨cr0, cr1, cr2⟩, ⟨fr0, fr1, fr2⟩, lr⟩) hx
          have hS : Box3 w4 (w.heap.size + 1 + 1 + 1) _ _ _ := Box3.ext (Box3.id ⟨⟨cs0, cs1, cs2⟩, ⟨fs0, fs1, fs2⟩, ls⟩) hx
          have hQ : Box3 w4 (w.heap.size + 1 + 1 + 1 + 1) _ _ _ := Box3.ext (Box3.id ⟨⟨cq0, cq1, cq2⟩, ⟨fq0, fq1, fq2⟩, lq⟩) hx
          have hP : Box3 w4 (w.heap.size + 1 + 1 + 1 + 1 + 1) _ _ _ := Box3.ext (Box3.id ⟨⟨cp0, cp1, cp2⟩, ⟨fp0, fp1, fp2⟩, lp⟩) hx
          have hE4 : Ext w w4 := Ext.trans (by repeat (first | (with_reducible exact Ext.refl _) | (with_reducible assumption) | (with_reducible refine Ext.alloc ?_ _) | (with_reducible refine Ext.drewN ?_ _) | (with_reducible refine Ext.drew ?_) | (with_reducible refine Ext.setCell ?_ (by simp <;> omega) _))) hx
          clear hx hE3 ca0 ca1 ca2 fa0 fa1 fa2 la cb0 cb1 cb2 fb0 fb1 fb2 lb cr0 cr1 cr2 fr0 fr1 fr2 lr cs0 cs1 cs2 fs0 fs1 fs2 ls cq0 cq1 cq2 fq0 fq1 fq2 lq cp0 cp1 cp2 fp0 fp1 fp2 lp
          obtain ⟨⟨ca0, ca1, ca2⟩, ⟨fa0, fa1, fa2⟩, la⟩ := hA
          obtain ⟨⟨cb0, cb1, cb2⟩, ⟨fb0, fb1, fb2⟩, lb⟩ := hB
          obtain ⟨⟨cr0, cr1, cr2⟩, ⟨fr0, fr1, fr2⟩, lr⟩ := hR
          obtain ⟨⟨cs0, cs1, cs2⟩, ⟨fs0, fs1, fs2⟩, ls⟩ := hS
          obtain ⟨⟨cq0, cq1, cq2⟩, ⟨fq0, fq1, fq2⟩, lq⟩ := hQ
          obtain ⟨⟨cp0, cp1, cp2⟩, ⟨fp0, fp1, fp2⟩, lp⟩ := hP
          go_wp2_with fail
          go_roundw
          case rel =>
            refine ⟨k, by omega, rfl, (by repeat (first | (with_reducible exact Ext.refl _) | (with_reducible assumption) | (with_reducible refine Ext.alloc ?_ _) | (with_reducible refine Ext.drewN ?_ _) | (with_reducible refine Ext.drew ?_) | (with_reducible refine Ext.setCell ?_ (by simp <;> omega) _))), ?_, ?_, ?_, ?_, ?_, ?_⟩
            · exact Box3.other (Box3.other (Box3.other (Box3.other (Box3.id ⟨⟨ca0, ca1, ca2⟩, ⟨fa0, fa1, fa2⟩, la⟩) (by omega)) (by omega)) (by omega)) (by omega)
            · exact Box3.other (Box3.other (Box3.other (Box3.other (Box3.id ⟨⟨cb0, cb1, cb2⟩, ⟨fb0, fb1, fb2⟩, lb⟩) (by omega)) (by omega)) (by omega)) (by omega)
            · exact Box3.other (Box3.other (Box3.other (Box3.other (Box3.id ⟨⟨cr0, cr1, cr2⟩, ⟨fr0, fr1, fr2⟩, lr⟩) (by omega)) (by omega)) (by omega)) (by omega)
            · exact Box3.other (Box3.other (Box3.other (Box3.other (Box3.id ⟨⟨cs0, cs1, cs2⟩, ⟨fs0, fs1, fs2⟩, ls⟩) (by omega)) (by omega)) (by omega)) (by omega)
            · unfold bx; rw [Hfq.out.1, show ((2 * Q + 1 : Nat) : Int) = 2 * (Q : Int) + 1 by omega, Hq.out.1.1, Hq.out.1.2]; exact Box3.set2 (Box3.other (Box3.other (Box3.other (Box3.id ⟨⟨cq0, cq1, cq2⟩, ⟨fq0, fq1, fq2⟩, lq⟩) (by omega)) (by omega)) (by omega))
            · unfold bx; rw [Hfq.out.2, show ((2 * R + b - 1 * B : Nat) : Int) = 2 * (R : Int) + b - B by omega]; exact Box3.other (Box3.store (Box3.id ⟨⟨cp0, cp1, cp2⟩, ⟨fp0, fp1, fp2⟩, lp⟩)) (by omega)
          case measure => simp [intOf]
      · have hbit : bits BinOp.and IntKind.u64 ((al : Int) / 2 ^ (k % 64)) 1 = (b : Int) := by
          rw [bit_and al (k % 64) (by omega), ← HAk.out, ← HA.out, bit_lo ah al k (by omega)]
        have wr : 0 ≤ rl + b ∧ rl + b < 18446744073709551616 := by omega
        go_wp2_with fail
        refine (HL.out _).mono ?_
        rintro e w3 ⟨rfl, hx⟩
        have hA : Box3 w3 (w.heap.size) _ _ _ := Box3.ext (Box3.other (Box3.id ⟨⟨ca0, ca1, ca2⟩, ⟨fa0, fa1, fa2⟩, la⟩) (by omega)) hx
        have hB : Box3 w3 (w.heap.size + 1) _ _ _ := Box3.ext (Box3.other (Box3.id ⟨⟨cb0, cb1, cb2⟩, ⟨fb0, fb1, fb2⟩, lb⟩) (by omega)) hx
        have hR : Box3 w3 (w.heap.size + 1 + 1) _ _ _ := Box3.ext (Box3.other (Box3.id ⟨⟨cr0, cr1, cr2⟩, ⟨fr0, fr1, fr2⟩, lr⟩) (by omega)) hx
        have hS : Box3 w3 (w.heap.size + 1 + 1 + 1) _ _ _ := Box3.ext (Box3.other (Box3.id ⟨⟨cs0, cs1, cs2⟩, ⟨fs0, fs1, fs2⟩, ls⟩) (by omega)) hx
        have hQ : Box3 w3 (w.heap.size + 1 + 1 + 1 + 1) _ _ _ := Box3.ext (Box3.other (Box3.id ⟨⟨cq0, cq1, cq2⟩, ⟨fq0, fq1, fq2⟩, lq⟩) (by omega)) hx
        have hP : Box3 w3 (w.heap.size + 1 + 1 + 1 + 1 + 1) _ _ _ := Box3.ext (Box3.set2 (Box3.id ⟨⟨cp0, cp1, cp2⟩, ⟨fp0, fp1, fp2⟩, lp⟩)) hx
        have hE3 : Ext w w3 := Ext.trans (by repeat (first | (with_reducible exact Ext.refl _) | (with_reducible assumption) | (with_reducible refine Ext.alloc ?_ _) | (with_reducible refine Ext.drewN ?_ _) | (with_reducible refine Ext.drew ?_) | (with_reducible refine Ext.setCell ?_ (by simp <;> omega) _))) hx
        clear hx hE2 ca0 ca1 ca2 fa0 fa1 fa2 la cb0 cb1 cb2 fb0 fb1 fb2 lb cr0 cr1 cr2 fr0 fr1 fr2 lr cs0 cs1 cs2 fs0 fs1 fs2 ls cq0 cq1 cq2 fq0 fq1 fq2 lq cp0 cp1 cp2 fp0 fp1 fp2 lp
        obtain ⟨⟨ca0, ca1, ca2⟩, ⟨fa0, fa1, fa2⟩, la⟩ := hA
        obtain ⟨⟨cb0, cb1, cb2⟩, ⟨fb0, fb1, fb2⟩, lb⟩ := hB
        obtain ⟨⟨cr0, cr1, cr2⟩, ⟨fr0, fr1, fr2⟩, lr⟩ := hR
        obtain ⟨⟨cs0, cs1, cs2⟩, ⟨fs0, fs1, fs2⟩, ls⟩ := hS
        obtain ⟨⟨cq0, cq1, cq2⟩, ⟨fq0, fq1, fq2⟩, lq⟩ := hQ
        obtain ⟨⟨cp0, cp1, cp2⟩, ⟨fp0, fp1, fp2⟩, lp⟩ := hP
        by_cases hlt : 2 * (R : Int) + b < B
        · obtain ⟨fq, fr⟩ := Hfin.out 0 (by omega) (fun _ => by omega) (fun h => by omega)
          have Hfq := Lib.hid (And.intro fq fr)
          clear fq fr
          have hd : decide (2 * (R : Int) + b < B) = true := decide_eq_true hlt
          go_wp2_with fail
          go_roundw
          case rel =>
            refine ⟨k, by omega, rfl, (by repeat (first | (with_reducible exact Ext.refl _) | (with_reducible assumption) | (with_reducible refine Ext.alloc ?_ _) | (with_reducible refine Ext.drewN ?_ _) | (with_reducible refine Ext.drew ?_) | (with_reducible refine Ext.setCell ?_ (by simp <;> omega) _))), ?_, ?_, ?_, ?_, ?_, ?_⟩
            · exact Box3.id ⟨⟨ca0, ca1, ca2⟩, ⟨fa0, fa1, fa2⟩, la⟩
            · exact Box3.id ⟨⟨cb0, cb1, cb2⟩, ⟨fb0, fb1, fb2⟩, lb⟩
            · exact Box3.id ⟨⟨cr0, cr1, cr2⟩, ⟨fr0, fr1, fr2⟩, lr⟩
            · exact Box3.id ⟨⟨cs0, cs1, cs2⟩, ⟨fs0, fs1, fs2⟩, ls⟩
            · unfold bx; rw [Hfq.out.1, show ((2 * Q + 0 : Nat) : Int) = 2 * (Q : Int) + 0 by omega, Int.add_zero, Hql.out]; exact Box3.id ⟨⟨cq0, cq1, cq2⟩, ⟨fq0, fq1, fq2⟩, lq⟩
            · unfold bx; rw [Hfq.out.2, show ((2 * R + b - 0 * B : Nat) : Int) = 2 * (R : Int) + b by omega, Hq.out.2.1, Hq.out.2.2]; exact Box3.id ⟨⟨cp0, cp1, cp2⟩, ⟨fp0, fp1, fp2⟩, lp⟩
          case measure => simp [intOf]
        · obtain ⟨fq, fr⟩ := Hfin.out 1 (by omega) (fun h => by omega) (fun _ => by omega)
          have Hfq := Lib.hid (And.intro fq fr)
          clear fq fr
          have hd : decide (2 * (R : Int) + b < B) = false := decide_eq_false hlt
          have hle : (B : Int) ≤ 2 * (R : Int) + b := by omega
          have wq : 0 ≤ ql + 1 ∧ ql + 1 < 18446744073709551616 := by omega
          go_wp2_with fail
          refine (HD.out hle _).mono ?_
          rintro e w4 ⟨rfl, hx⟩
          have hA : Box3 w4 (w.heap.size) _ _ _ := Box3.ext (Box3.id ⟨⟨ca0, ca1, ca2⟩, ⟨fa0, fa1, fa2⟩, la⟩) hx
          have hB : Box3 w4 (w.heap.size + 1) _ _ _ := Box3.ext (Box3.id ⟨⟨cb0, cb1, cb2⟩, ⟨fb0, fb1, fb2⟩, lb⟩) hx
          have hR : Box3 w4 (w.heap.size + 1 + 1) _ _ _ := Box3.ext (Box3.id ⟨⟨cr0, cr1, cr2⟩, ⟨fr0, fr1, fr2⟩, lr⟩) hx
          have hS : Box3 w4 (w.heap.size + 1 + 1 + 1) _ _ _ := Box3.ext (Box3.id ⟨⟨cs0, cs1, cs2⟩, ⟨fs0, fs1, fs2⟩, ls⟩) hx
          have hQ : Box3 w4 (w.heap.size + 1 + 1 + 1 + 1) _ _ _ := Box3.ext (Box3.id ⟨⟨cq0, cq1, cq2⟩, ⟨fq0, fq1, fq2⟩, lq⟩) hx
          have hP : Box3 w4 (w.heap.size + 1 + 1 + 1 + 1 + 1) _ _ _ := Box3.ext (Box3.id ⟨⟨cp0, cp1, cp2⟩, ⟨fp0, fp1, fp2⟩, lp⟩) hx
          have hE4 : Ext w w4 := Ext.trans (by repeat (first | (with_reducible exact Ext.refl _) | (with_reducible assumption) | (with_reducible refine Ext.alloc ?_ _) | (with_reducible refine Ext.drewN ?_ _) | (with_reducible refine Ext.drew ?_) | (with_reducible refine Ext.setCell ?_ (by simp <;> omega) _))) hx
          clear hx hE3 ca0 ca1 ca2 fa0 fa1 fa2 la cb0 cb1 cb2 fb0 fb1 fb2 lb cr0 cr1 cr2 fr0 fr1 fr2 lr cs0 cs1 cs2 fs0 fs1 fs2 ls cq0 cq1 cq2 fq0 fq1 fq2 lq cp0 cp1 cp2 fp0 fp1 fp2 lp
          obtain ⟨⟨ca0, ca1, ca2⟩, ⟨fa0, fa1, fa2⟩, la⟩ := hA
          obtain ⟨⟨cb0, cb1, cb2⟩, ⟨fb0, fb1, fb2⟩, lb⟩ := hB
          obtain ⟨⟨cr0, cr1, cr2⟩, ⟨fr0, fr1, fr2⟩, lr⟩ := hR
          obtain ⟨⟨cs0, cs1, cs2⟩, ⟨fs0, fs1, fs2⟩, ls⟩ := hS
          obtain ⟨⟨cq0, cq1, cq2⟩, ⟨fq0, fq1, fq2⟩, lq⟩ := hQ
          obtain ⟨⟨cp0, cp1, cp2⟩, ⟨fp0, fp1, fp2⟩, lp⟩ := hP
          go_wp2_with fail
          go_roundw
          case rel =>
            refine ⟨k, by omega, rfl, (by repeat (first | (with_reducible exact Ext.refl _) | (with_reducible assumption) | (with_reducible refine Ext.alloc ?_ _) | (with_reducible refine Ext.drewN ?_ _) | (with_reducible refine Ext.drew ?_) | (with_reducible refine Ext.setCell ?_ (by simp <;> omega) _))), ?_, ?_, ?_, ?_, ?_, ?_⟩
            · exact Box3.other (Box3.other (Box3.other (Box3.other (Box3.id ⟨⟨ca0, ca1, ca2⟩, ⟨fa0, fa1, fa2⟩, la⟩) (by omega)) (by omega)) (by omega)) (by omega)
            · exact Box3.other (Box3.other (Box3.other (Box3.other (Box3.id ⟨⟨cb0, cb1, cb2⟩, ⟨fb0, fb1, fb2⟩, lb⟩) (by omega)) (by omega)) (by omega)) (by omega)
            · exact Box3.other (Box3.other (Box3.other (Box3.other (Box3.id ⟨⟨cr0, cr1, cr2⟩, ⟨fr0, fr1, fr2⟩, lr⟩) (by omega)) (by omega)) (by omega)) (by omega)
            · exact Box3.other (Box3.other (Box3.other (Box3.other (Box3.id ⟨⟨cs0, cs1, cs2⟩, ⟨fs0, fs1, fs2⟩, ls⟩) (by omega)) (by omega)) (by omega)) (by omega)
            · unfold bx; rw [Hfq.out.1, show ((2 * Q + 1 : Nat) : Int) = 2 * (Q : Int) + 1 by omega, Hq.out.1.1, Hq.out.1.2]; exact Box3.set2 (Box3.other (Box3.other (Box3.other (Box3.id ⟨⟨cq0, cq1, cq2⟩, ⟨fq0, fq1, fq2⟩, lq⟩) (by omega)) (by omega)) (by omega))
            · unfold bx; rw [Hfq.out.2, show ((2 * R + b - 1 * B : Nat) : Int) = 2 * (R : Int) + b - B by omega]; exact Box3.other (Box3.store (Box3.id ⟨⟨cp0, cp1, cp2⟩, ⟨fp0, fp1, fp2⟩, lp⟩)) (by omega)
          case measure => simp [intOf]
end Go.Proofs.YtifhgkdajnngnaaDoor
