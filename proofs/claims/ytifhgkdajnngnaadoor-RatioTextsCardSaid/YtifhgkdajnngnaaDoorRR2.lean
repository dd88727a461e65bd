/- Contracts of the reference: Mul. -/
import Derived.Test.YtifhgkdajnngnaaDoorRR1
namespace Go.Proofs.YtifhgkdajnngnaaDoor
open Go.RowKit Go.Par

/-- A box of three cells, which may be written. -/
def Box3 (W : World) (b : Nat) (x y z : Value) : Prop :=
  (W.cell? ⟨b, 0, none⟩ = some x ∧ W.cell? ⟨b, 1, none⟩ = some y ∧ W.cell? ⟨b, 2, none⟩ = some z) ∧ (W.frozen? ⟨b, 0, none⟩ = false ∧ W.frozen? ⟨b, 1, none⟩ = false ∧ W.frozen? ⟨b, 2, none⟩ = false) ∧ b < W.heap.size
theorem Box3.ext {W W' : World} {b : Nat} {x y z : Value} (h : Box3 W b x y z) (k : Ext W W') : Box3 W' b x y z := by
  obtain ⟨⟨a1, a2, a3⟩, ⟨b1, b2, b3⟩, c⟩ := h
  have f := k.cells
  have g := k.marks
  exact ⟨⟨(f _ _ c).trans a1, (f _ _ c).trans a2, (f _ _ c).trans a3⟩, ⟨(g _ _ c).trans b1, (g _ _ c).trans b2, (g _ _ c).trans b3⟩, Nat.lt_of_lt_of_le c k.size⟩
theorem Box3.store {W : World} {b : Nat} {x y z x' y' z' : Value} (h : Box3 W b x y z) : Box3 (((W.setCell ⟨b, 0, none⟩ x').setCell ⟨b, 1, none⟩ y').setCell ⟨b, 2, none⟩ z') b x' y' z' := by
  obtain ⟨⟨a1, a2, a3⟩, ⟨b1, b2, b3⟩, c⟩ := h
  refine ⟨⟨?_, ?_, ?_⟩, ⟨?_, ?_, ?_⟩, ?_⟩ <;> simp [go_sem, a1, a2, a3, b1, b2, b3, c]
theorem Box3.other {W : World} {b c o : Nat} {x y z v : Value} (h : Box3 W b x y z) (hn : b ≠ c) : Box3 (W.setCell ⟨c, o, none⟩ v) b x y z := by
  obtain ⟨⟨a1, a2, a3⟩, ⟨b1, b2, b3⟩, d⟩ := h
  refine ⟨⟨?_, ?_, ?_⟩, ⟨?_, ?_, ?_⟩, ?_⟩ <;> simp [go_sem, a1, a2, a3, b1, b2, b3, d, hn]
theorem and_one (x : Int) (h0 : 0 ≤ x) (h1 : x < 18446744073709551616) : bits BinOp.and IntKind.u64 x 1 = x % 2 :=
  bits_mask .u64 64 (by decide) (fun n a b => by rw [IntKind.wrap_u64]; omega) 1 (by decide) x h0 (by omega)

theorem bit_step (y k : Nat) : y / 2 ^ k = 2 * (y / 2 ^ (k + 1)) + y / 2 ^ k % 2 := by
  rw [Nat.pow_succ, ← Nat.div_div_eq_div_mul]; omega
theorem mul_step (x y k : Nat) (hx : x < 18446744073709551616) (hy : y < 18446744073709551616) :
    x * (y / 2 ^ k) = 2 * (x * (y / 2 ^ (k + 1))) + x * (y / 2 ^ k % 2) ∧ x * (y / 2 ^ k) < 340282366920938463463374607431768211456 := by
  constructor
  · rw [Nat.mul_left_comm, ← Nat.mul_add, ← bit_step]
  · have h : y / 2 ^ k ≤ 18446744073709551615 := Nat.le_trans (Nat.div_le_self _ _) (by omega)
    have := Nat.mul_le_mul (show x ≤ 18446744073709551615 by omega) h
    omega
theorem bit_and (y k : Nat) (hy : y < 18446744073709551616) : bits BinOp.and IntKind.u64 ((y : Int) / 2 ^ k) 1 = ((y / 2 ^ k % 2 : Nat) : Int) := by
  have e : ((y : Int) / 2 ^ k) = ((y / 2 ^ k : Nat) : Int) := by simp
  have h : y / 2 ^ k ≤ y := Nat.div_le_self _ _
  rw [e]
  generalize y / 2 ^ k = z at *
  rw [and_one _ (by omega) (by omega)]
  simp

set_option maxRecDepth 100000 in
set_option maxHeartbeats 1000000 in
theorem mul_w (s t : Bool) (x y : Nat) (hx : x < 18446744073709551616) (hy : y < 18446744073709551616) (w : World) :
    Calls Tryd.prog 25 #[.agg #[.bool s, .int .u64 0, .int .u64 x], .agg #[.bool t, .int .u64 0, .int .u64 y]] w fun e w' => e = .returned (wv (!s == t) (x * y : Nat)) ∧ Ext w w' := by
  go_enter Tryd.func25, Tryd.ntmps25
  go_wp2
  go_loopw [6] (fun i W => ∃ k : Nat, k ≤ 64 ∧ i = .int .i64 ((k : Int) - 1) ∧ Ext w W ∧ Box3 W w.heap.size (.bool s) (.int .u64 0) (.int .u64 x) ∧ Box3 W (w.heap.size + 1) (.bool t) (.int .u64 0) (.int .u64 y)
    ∧ Box3 W (w.heap.size + 1 + 1) (.bool false) (.int .u64 0) (.int .u64 0) ∧ Box3 W (w.heap.size + 1 + 1 + 1) (.bool false) (.int .u64 (hiW (x * (y / 2 ^ k) : Nat))) (.int .u64 (loW (x * (y / 2 ^ k) : Nat)))) (fun i _ => (intOf i + 1).toNat)
  case atStart =>
    refine ⟨64, Nat.le_refl _, by simp, (by repeat (first | (with_reducible exact Ext.refl _) | (with_reducible assumption) | (with_reducible refine Ext.alloc ?_ _) | (with_reducible refine Ext.drewN ?_ _) | (with_reducible refine Ext.drew ?_) | (with_reducible refine Ext.setCell ?_ (by simp <;> omega) _))), ?_, ?_, ?_, ?_⟩
    · refine ⟨⟨?_, ?_, ?_⟩, ⟨?_, ?_, ?_⟩, ?_⟩ <;> simp [go_sem]
    · refine ⟨⟨?_, ?_, ?_⟩, ⟨?_, ?_, ?_⟩, ?_⟩ <;> simp [go_sem]
    · refine ⟨⟨?_, ?_, ?_⟩, ⟨?_, ?_, ?_⟩, ?_⟩ <;> simp [go_sem]
    · rw [Nat.div_eq_of_lt (by omega)]
      refine ⟨⟨?_, ?_, ?_⟩, ⟨?_, ?_, ?_⟩, ?_⟩ <;> simp [go_sem, hiW, loW]
  case round =>
    obtain ⟨k, hk, rfl, hE, hA, hB, hR, hO⟩ := hrel
    obtain rfl | ⟨k, rfl⟩ : k = 0 ∨ ∃ j, k = j + 1 := by cases k <;> simp
    · obtain ⟨⟨ca0, ca1, ca2⟩, ⟨fa0, fa1, fa2⟩, la⟩ := hA
      obtain ⟨⟨cb0, cb1, cb2⟩, ⟨fb0, fb1, fb2⟩, lb⟩ := hB
      obtain ⟨⟨cr0, cr1, cr2⟩, ⟨fr0, fr1, fr2⟩, lr⟩ := hR
      obtain ⟨⟨co0, co1, co2⟩, ⟨fo0, fo1, fo2⟩, lo⟩ := hO
      go_wp2
      refine bodyPost_ret (v := wv (!s == t) (x * y : Nat)) ?_ rfl ⟨rfl, (by repeat (first | (with_reducible exact Ext.refl _) | (with_reducible assumption) | (with_reducible refine Ext.alloc ?_ _) | (with_reducible refine Ext.drewN ?_ _) | (with_reducible refine Ext.drew ?_) | (with_reducible refine Ext.setCell ?_ (by simp <;> omega) _)))⟩
      simp [results, Tryd.results25, go_sem, wv, cr0, cr1, cr2]
    · obtain ⟨hS, hM⟩ := mul_step x y k hx hy
      have hb := bit_and y k hy
      generalize hm : x * (y / 2 ^ (k + 1)) = M at *
      have HSS := Lib.hid hS
      have HH := Lib.hid hM
      have HT := Lib.hid (fun W : World => twice_any false (M : Int) ⟨by omega, by omega⟩ ⟨by omega, by omega⟩ W)
      unfold wv at HT
      obtain ⟨⟨ca0, ca1, ca2⟩, ⟨fa0, fa1, fa2⟩, la⟩ := hA
      obtain ⟨⟨cb0, cb1, cb2⟩, ⟨fb0, fb1, fb2⟩, lb⟩ := hB
      obtain ⟨⟨cr0, cr1, cr2⟩, ⟨fr0, fr1, fr2⟩, lr⟩ := hR
      obtain ⟨⟨co0, co1, co2⟩, ⟨fo0, fo1, fo2⟩, lo⟩ := hO
      have HM := Lib.hid hm
      have HB := Lib.hid hb
      clear hm hb hS hM
      go_wp2_with fail
      refine (HT.out _).mono ?_
      rintro e w1 ⟨rfl, hx⟩
      have hA : Box3 w1 w.heap.size _ _ _ := Box3.ext ⟨⟨ca0, ca1, ca2⟩, ⟨fa0, fa1, fa2⟩, la⟩ hx
      have hB : Box3 w1 (w.heap.size + 1) _ _ _ := Box3.ext ⟨⟨cb0, cb1, cb2⟩, ⟨fb0, fb1, fb2⟩, lb⟩ hx
      have hR : Box3 w1 (w.heap.size + 1 + 1) _ _ _ := Box3.ext ⟨⟨cr0, cr1, cr2⟩, ⟨fr0, fr1, fr2⟩, lr⟩ hx
      have hO : Box3 w1 (w.heap.size + 1 + 1 + 1) _ _ _ := Box3.ext ⟨⟨co0, co1, co2⟩, ⟨fo0, fo1, fo2⟩, lo⟩ hx
      have hE1 : Ext w w1 := hE.trans hx
      clear hx hE ca0 ca1 ca2 fa0 fa1 fa2 la cb0 cb1 cb2 fb0 fb1 fb2 lb cr0 cr1 cr2 fr0 fr1 fr2 lr co0 co1 co2 fo0 fo1 fo2 lo
      obtain ⟨⟨ca0, ca1, ca2⟩, ⟨fa0, fa1, fa2⟩, la⟩ := hA
      obtain ⟨⟨cb0, cb1, cb2⟩, ⟨fb0, fb1, fb2⟩, lb⟩ := hB
      obtain ⟨⟨cr0, cr1, cr2⟩, ⟨fr0, fr1, fr2⟩, lr⟩ := hR
      obtain ⟨⟨co0, co1, co2⟩, ⟨fo0, fo1, fo2⟩, lo⟩ := hO
      go_wp2_with fail
      case roundEnd hz =>
        have h0 : y / 2 ^ k % 2 = 0 := by
          rw [HB.out] at hz
          have : ¬ ((y / 2 ^ k % 2 : Nat) : Int) = 1 := by simpa using hz
          omega
        go_roundw
        case rel =>
          refine ⟨k, by omega, rfl, (by repeat (first | (with_reducible exact Ext.refl _) | (with_reducible assumption) | (with_reducible refine Ext.alloc ?_ _) | (with_reducible refine Ext.drewN ?_ _) | (with_reducible refine Ext.drew ?_) | (with_reducible refine Ext.setCell ?_ (by simp <;> omega) _))), ?_, ?_, ?_, ?_⟩
          · exact ((Box3.other ⟨⟨ca0, ca1, ca2⟩, ⟨fa0, fa1, fa2⟩, la⟩ (by omega)).other (by omega)).other (by omega)
          · exact ((Box3.other ⟨⟨cb0, cb1, cb2⟩, ⟨fb0, fb1, fb2⟩, lb⟩ (by omega)).other (by omega)).other (by omega)
          · exact ((Box3.other ⟨⟨cr0, cr1, cr2⟩, ⟨fr0, fr1, fr2⟩, lr⟩ (by omega)).other (by omega)).other (by omega)
          · have e : ((x * (y / 2 ^ k) : Nat) : Int) = 2 * M := by
              have := HSS.out
              rw [h0, Nat.mul_zero] at this
              omega
            rw [e]
            exact Box3.store ⟨⟨co0, co1, co2⟩, ⟨fo0, fo1, fo2⟩, lo⟩
        case measure => simp [intOf]
      have hz : (bits BinOp.and IntKind.u64 ((y : Int) / 2 ^ k) 1 == 1) = true := by assumption
      have h1 : y / 2 ^ k % 2 = 1 := by
        rw [HB.out] at hz
        have : ((y / 2 ^ k % 2 : Nat) : Int) = 1 := by simpa using hz
        omega
      have e : x * (y / 2 ^ k) = 2 * M + x := by
        have := HSS.out
        rw [h1, Nat.mul_one] at this
        exact this
      have HS := Lib.hid (fun W : World => sum_w false false (2 * M : Int) x ⟨by omega, by have := HH.out; omega⟩ ⟨by omega, by omega⟩ ⟨by omega, by have := HH.out; omega⟩ W)
      have ex : hiW x = 0 ∧ loW x = x := by simp only [hiW, loW]; omega
      unfold wv at HS
      rw [ex.1, ex.2] at HS
      have He := Lib.hid e
      clear e ex hz h1
      refine (HS.out _).mono ?_
      rintro e w2 ⟨rfl, hx⟩
      have hA : Box3 w2 w.heap.size _ _ _ := (((Box3.other ⟨⟨ca0, ca1, ca2⟩, ⟨fa0, fa1, fa2⟩, la⟩ (by omega)).other (by omega)).other (by omega)).ext hx
      have hB : Box3 w2 (w.heap.size + 1) _ _ _ := (((Box3.other ⟨⟨cb0, cb1, cb2⟩, ⟨fb0, fb1, fb2⟩, lb⟩ (by omega)).other (by omega)).other (by omega)).ext hx
      have hR : Box3 w2 (w.heap.size + 1 + 1) _ _ _ := (((Box3.other ⟨⟨cr0, cr1, cr2⟩, ⟨fr0, fr1, fr2⟩, lr⟩ (by omega)).other (by omega)).other (by omega)).ext hx
      have hO : Box3 w2 (w.heap.size + 1 + 1 + 1) _ _ _ := (Box3.store ⟨⟨co0, co1, co2⟩, ⟨fo0, fo1, fo2⟩, lo⟩).ext hx
      have hE2 : Ext w w2 := Ext.trans (by repeat (first | (with_reducible exact Ext.refl _) | (with_reducible assumption) | (with_reducible refine Ext.alloc ?_ _) | (with_reducible refine Ext.drewN ?_ _) | (with_reducible refine Ext.drew ?_) | (with_reducible refine Ext.setCell ?_ (by simp <;> omega) _))) hx
      clear hx hE1 ca0 ca1 ca2 fa0 fa1 fa2 la cb0 cb1 cb2 fb0 fb1 fb2 lb cr0 cr1 cr2 fr0 fr1 fr2 lr co0 co1 co2 fo0 fo1 fo2 lo
      obtain ⟨⟨ca0, ca1, ca2⟩, ⟨fa0, fa1, fa2⟩, la⟩ := hA
      obtain ⟨⟨cb0, cb1, cb2⟩, ⟨fb0, fb1, fb2⟩, lb⟩ := hB
      obtain ⟨⟨cr0, cr1, cr2⟩, ⟨fr0, fr1, fr2⟩, lr⟩ := hR
      obtain ⟨⟨co0, co1, co2⟩, ⟨fo0, fo1, fo2⟩, lo⟩ := hO
      go_wp2_with fail
      go_roundw
      case rel =>
        refine ⟨k, by omega, rfl, (by repeat (first | (with_reducible exact Ext.refl _) | (with_reducible assumption) | (with_reducible refine Ext.alloc ?_ _) | (with_reducible refine Ext.drewN ?_ _) | (with_reducible refine Ext.drew ?_) | (with_reducible refine Ext.setCell ?_ (by simp <;> omega) _))), ?_, ?_, ?_, ?_⟩
        · exact ((Box3.other ⟨⟨ca0, ca1, ca2⟩, ⟨fa0, fa1, fa2⟩, la⟩ (by omega)).other (by omega)).other (by omega)
        · exact ((Box3.other ⟨⟨cb0, cb1, cb2⟩, ⟨fb0, fb1, fb2⟩, lb⟩ (by omega)).other (by omega)).other (by omega)
        · exact ((Box3.other ⟨⟨cr0, cr1, cr2⟩, ⟨fr0, fr1, fr2⟩, lr⟩ (by omega)).other (by omega)).other (by omega)
        · rw [He.out, show ((2 * M + x : Nat) : Int) = 2 * M + x by omega]
          exact Box3.store ⟨⟨co0, co1, co2⟩, ⟨fo0, fo1, fo2⟩, lo⟩
      case measure => simp [intOf]
end Go.Proofs.YtifhgkdajnngnaaDoor
