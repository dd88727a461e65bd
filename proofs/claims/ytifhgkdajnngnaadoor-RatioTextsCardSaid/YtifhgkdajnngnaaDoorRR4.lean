/- Contracts of the reference: gcd. -/
import Derived.Test.YtifhgkdajnngnaaDoorRR3
namespace Go.Proofs.YtifhgkdajnngnaaDoor
open Go.RowKit Go.Par
theorem divide_w (s t : Bool) (M B : Nat) (hM : M < 340282366920938463463374607431768211456) (hB0 : 0 < B) (hB1 : B ≤ 170141183460469231731687303715884105728) (w : World) :
    Calls Tryd.prog 50 #[wv s M, wv t B] w fun e w' => e = .returned (.tuple #[wv false (M / B : Nat), wv false (M % B : Nat)]) ∧ Ext w w' := by
  have h := divide_any s t (M / 18446744073709551616) (M % 18446744073709551616) B (by omega) (by omega) hB0 hB1 w
  rw [show M / 18446744073709551616 * 18446744073709551616 + M % 18446744073709551616 = M by omega] at h
  have e1 : ((M / 18446744073709551616 : Nat) : Int) = hiW M := by simp [hiW]
  have e2 : ((M % 18446744073709551616 : Nat) : Int) = loW M := by simp [loW]
  rw [e1, e2] at h
  exact h
def FitN (m : Nat) : Prop := m < 340282366920938463463374607431768211456
def HalfN (m : Nat) : Prop := m ≤ 170141183460469231731687303715884105728
theorem HalfN.le {m n : Nat} (h : HalfN m) (k : n ≤ m) : HalfN n := Nat.le_trans k h
theorem FitN.le {m n : Nat} (h : FitN m) (k : n ≤ m) : FitN n := Nat.lt_of_le_of_lt k h
theorem HalfN.fit {m : Nat} (h : HalfN m) : FitN m := by unfold HalfN at h; unfold FitN; omega
theorem FitN.fits {m : Nat} (h : FitN m) : Fits (m : Int) := by unfold FitN at h; unfold Fits; omega
def cellI (W : World) (b o : Nat) : Int := match W.cell? ⟨b, o, none⟩ with | some v => intOf v | none => 0
def magAt (W : World) (b : Nat) : Nat := (cellI W b 1 * 18446744073709551616 + cellI W b 2).toNat
theorem mag_bx {W : World} {b : Nat} {s : Bool} {m : Nat} (h : bx W b s m) : magAt W b = m := by
  obtain ⟨⟨-, a2, a3⟩, -, -⟩ := h
  simp only [magAt, cellI, a2, a3, intOf, hiW, loW]
  omega
set_option maxRecDepth 100000 in
set_option maxHeartbeats 1000000 in
theorem gcd_w (s t : Bool) (m n : Nat) (hm : FitN m) (hn : HalfN n) (w : World) :
    Calls Tryd.prog 35 #[wv s m, wv t n] w fun e w' => e = .returned (wv false (Nat.gcd m n : Nat)) ∧ Ext w w' := by
  unfold wv
  go_enter Tryd.func35, Tryd.ntmps35
  go_wp2
  go_loopw [] (fun W => ∃ x y : Nat, Nat.gcd x y = Nat.gcd m n ∧ FitN x ∧ HalfN y ∧ Ext w W ∧ bx W w.heap.size false x ∧ bx W (w.heap.size + 1) false y
    ∧ Box3 W (w.heap.size + 1 + 1) (.bool false) (.int .u64 0) (.int .u64 0)) (fun W => magAt W (w.heap.size + 1))
  case atStart =>
    refine ⟨m, n, rfl, hm, hn, (by repeat (first | (with_reducible exact Ext.refl _) | (with_reducible assumption) | (with_reducible refine Ext.alloc ?_ _) | (with_reducible refine Ext.drewN ?_ _) | (with_reducible refine Ext.drew ?_) | (with_reducible refine Ext.setCell ?_ (by simp <;> omega) _))), ?_, ?_, ?_⟩
    · refine ⟨⟨?_, ?_, ?_⟩, ⟨?_, ?_, ?_⟩, ?_⟩ <;> simp [go_sem]
    · refine ⟨⟨?_, ?_, ?_⟩, ⟨?_, ?_, ?_⟩, ?_⟩ <;> simp [go_sem]
    · refine ⟨⟨?_, ?_, ?_⟩, ⟨?_, ?_, ?_⟩, ?_⟩ <;> simp [go_sem]
  case round =>
    obtain ⟨x, y, hg, hx, hy, hE, hA, hB, hR⟩ := hrel
    have Hmag := Lib.hid (mag_bx hB)
    have HZ := Lib.hid (fun W : World => zero_any false (y : Int) hy.fit.fits W)
    unfold wv at HZ
    unfold bx at hA hB
    have Hg := Lib.hid hg
    clear hg
    obtain ⟨⟨ca0, ca1, ca2⟩, ⟨fa0, fa1, fa2⟩, la⟩ := hA
    obtain ⟨⟨cb0, cb1, cb2⟩, ⟨fb0, fb1, fb2⟩, lb⟩ := hB
    obtain ⟨⟨cr0, cr1, cr2⟩, ⟨fr0, fr1, fr2⟩, lr⟩ := hR
    go_wp2_with fail
    refine (HZ.out _).mono ?_
    rintro e w1 ⟨rfl, hx1⟩
    have hA : Box3 w1 (w.heap.size) _ _ _ := Box3.ext (Box3.id ⟨⟨ca0, ca1, ca2⟩, ⟨fa0, fa1, fa2⟩, la⟩) hx1
    have hB : Box3 w1 (w.heap.size + 1) _ _ _ := Box3.ext (Box3.id ⟨⟨cb0, cb1, cb2⟩, ⟨fb0, fb1, fb2⟩, lb⟩) hx1
    have hR : Box3 w1 (w.heap.size + 1 + 1) _ _ _ := Box3.ext (Box3.id ⟨⟨cr0, cr1, cr2⟩, ⟨fr0, fr1, fr2⟩, lr⟩) hx1
    have hE1 : Ext w w1 := Ext.trans (by repeat (first | (with_reducible exact Ext.refl _) | (with_reducible assumption) | (with_reducible refine Ext.alloc ?_ _) | (with_reducible refine Ext.drewN ?_ _) | (with_reducible refine Ext.drew ?_) | (with_reducible refine Ext.setCell ?_ (by simp <;> omega) _))) hx1
    clear hx1 hE ca0 ca1 ca2 fa0 fa1 fa2 la cb0 cb1 cb2 fb0 fb1 fb2 lb cr0 cr1 cr2 fr0 fr1 fr2 lr
    obtain ⟨⟨ca0, ca1, ca2⟩, ⟨fa0, fa1, fa2⟩, la⟩ := hA
    obtain ⟨⟨cb0, cb1, cb2⟩, ⟨fb0, fb1, fb2⟩, lb⟩ := hB
    obtain ⟨⟨cr0, cr1, cr2⟩, ⟨fr0, fr1, fr2⟩, lr⟩ := hR
    by_cases h0 : y = 0
    · subst h0
      have hd : decide (((0 : Nat) : Int) = 0) = true := by decide
      rw [hd]
      go_wp2_with fail
      have e := Hg.out
      rw [Nat.gcd_zero_right] at e
      rw [← e]
      refine bodyPost_ret (v := wv false (x : Nat)) ?_ rfl ⟨rfl, (by repeat (first | (with_reducible exact Ext.refl _) | (with_reducible assumption) | (with_reducible refine Ext.alloc ?_ _) | (with_reducible refine Ext.drewN ?_ _) | (with_reducible refine Ext.drew ?_) | (with_reducible refine Ext.setCell ?_ (by simp <;> omega) _)))⟩
      simp [results, Tryd.results35, go_sem, wv, cr0, cr1, cr2]
    · have hd : decide ((y : Int) = 0) = false := by simp [h0]
      rw [hd]
      have HD := Lib.hid (fun W : World => divide_w false false x y hx (by omega) hy W)
      unfold wv at HD
      go_wp2_with fail
      refine (HD.out _).mono ?_
      rintro e w2 ⟨rfl, hx2⟩
      have hA : Box3 w2 (w.heap.size) _ _ _ := Box3.ext (Box3.id ⟨⟨ca0, ca1, ca2⟩, ⟨fa0, fa1, fa2⟩, la⟩) hx2
      have hB : Box3 w2 (w.heap.size + 1) _ _ _ := Box3.ext (Box3.id ⟨⟨cb0, cb1, cb2⟩, ⟨fb0, fb1, fb2⟩, lb⟩) hx2
      have hR : Box3 w2 (w.heap.size + 1 + 1) _ _ _ := Box3.ext (Box3.id ⟨⟨cr0, cr1, cr2⟩, ⟨fr0, fr1, fr2⟩, lr⟩) hx2
      have hE2 : Ext w w2 := Ext.trans (by repeat (first | (with_reducible exact Ext.refl _) | (with_reducible assumption) | (with_reducible refine Ext.alloc ?_ _) | (with_reducible refine Ext.drewN ?_ _) | (with_reducible refine Ext.drew ?_) | (with_reducible refine Ext.setCell ?_ (by simp <;> omega) _))) hx2
      clear hx2 hE1 ca0 ca1 ca2 fa0 fa1 fa2 la cb0 cb1 cb2 fb0 fb1 fb2 lb cr0 cr1 cr2 fr0 fr1 fr2 lr
      obtain ⟨⟨ca0, ca1, ca2⟩, ⟨fa0, fa1, fa2⟩, la⟩ := hA
      obtain ⟨⟨cb0, cb1, cb2⟩, ⟨fb0, fb1, fb2⟩, lb⟩ := hB
      obtain ⟨⟨cr0, cr1, cr2⟩, ⟨fr0, fr1, fr2⟩, lr⟩ := hR
      go_wp2_with fail
      have cz0 : w.heap.size < w2.heap.size + 1 := by omega
      have cz1 : w.heap.size + 1 < w2.heap.size + 1 := by omega
      go_region
      have em : ((x : Int) % (y : Int)) = ((x % y : Nat) : Int) := by simp
      have hlt : x % y < y := Nat.mod_lt _ (by omega)
      have Hem := Lib.hid em
      clear em
      go_wp2_with fail
      go_roundw
      case rel =>
        refine ⟨y, x % y, ?_, hy.fit, hy.le (Nat.le_of_lt hlt), (by repeat (first | (with_reducible exact Ext.refl _) | (with_reducible assumption) | (with_reducible refine Ext.alloc ?_ _) | (with_reducible refine Ext.drewN ?_ _) | (with_reducible refine Ext.drew ?_) | (with_reducible refine Ext.setCell ?_ (by simp <;> omega) _))), ?_, ?_, ?_⟩
        · rw [← Hg.out, Nat.gcd_comm x y, Nat.gcd_rec y x, Nat.gcd_comm]
        · refine ⟨⟨?_, ?_, ?_⟩, ⟨?_, ?_, ?_⟩, ?_⟩ <;> simp [go_sem, *]
        · unfold bx
          rw [← Hem.out]
          refine ⟨⟨?_, ?_, ?_⟩, ⟨?_, ?_, ?_⟩, ?_⟩ <;> simp [go_sem, *]
        · refine ⟨⟨?_, ?_, ?_⟩, ⟨?_, ?_, ?_⟩, ?_⟩ <;> simp [go_sem, *]
      case measure =>
        refine Nat.lt_of_le_of_lt (Nat.le_of_eq (mag_bx (s := false) (m := x % y) ?_)) (by rw [Hmag.out]; exact hlt)
        unfold bx
        rw [← Hem.out]
        refine ⟨⟨?_, ?_, ?_⟩, ⟨?_, ?_, ?_⟩, ?_⟩ <;> simp [go_sem, *]

/-- What Reduce makes of two signed magnitudes. -/
def redP (s t : Bool) (m n : Nat) : Int × Int × Bool :=
  ((narrowP ((!s == t) && !decide (m = 0)) (m / Nat.gcd m n : Nat)).1, (narrowP false (n / Nat.gcd m n : Nat)).1, (narrowP ((!s == t) && !decide (m = 0)) (m / Nat.gcd m n : Nat)).2 && (narrowP false (n / Nat.gcd m n : Nat)).2)
def wc (h l : Int) (s : Bool) : Value := .agg #[.bool s, .int .u64 h, .int .u64 l]
set_option maxRecDepth 100000 in
set_option maxHeartbeats 1000000 in
theorem reduce_walk (s t mz : Bool) (mh ml nh nl gh gl xh xl yh yl j1 j2 j3 j4 p q : Int) (po qo : Bool) (w : World)
    (hG : ∀ W : World, Calls Tryd.prog 35 #[.agg #[.bool s, .int .u64 mh, .int .u64 ml], .agg #[.bool t, .int .u64 nh, .int .u64 nl]] W fun e w' => e = .returned (.agg #[.bool false, .int .u64 gh, .int .u64 gl]) ∧ Ext W w')
    (hD1 : ∀ W : World, Calls Tryd.prog 50 #[.agg #[.bool s, .int .u64 mh, .int .u64 ml], .agg #[.bool false, .int .u64 gh, .int .u64 gl]] W fun e w' => e = .returned (.tuple #[.agg #[.bool false, .int .u64 xh, .int .u64 xl], .agg #[.bool false, .int .u64 j1, .int .u64 j2]]) ∧ Ext W w')
    (hD2 : ∀ W : World, Calls Tryd.prog 50 #[.agg #[.bool t, .int .u64 nh, .int .u64 nl], .agg #[.bool false, .int .u64 gh, .int .u64 gl]] W fun e w' => e = .returned (.tuple #[.agg #[.bool false, .int .u64 yh, .int .u64 yl], .agg #[.bool false, .int .u64 j3, .int .u64 j4]]) ∧ Ext W w')
    (hZ : ∀ W : World, Calls Tryd.prog 49 #[.agg #[.bool s, .int .u64 mh, .int .u64 ml]] W fun e w' => e = .returned (.bool mz) ∧ Ext W w')
    (hN1 : ∀ W : World, Calls Tryd.prog 51 #[.agg #[.bool ((!s == t) && !mz), .int .u64 xh, .int .u64 xl]] W fun e w' => e = .returned (.tuple #[.int .i64 p, .bool po]) ∧ Ext W w')
    (hN2 : ∀ W : World, Calls Tryd.prog 51 #[.agg #[.bool false, .int .u64 yh, .int .u64 yl]] W fun e w' => e = .returned (.tuple #[.int .i64 q, .bool qo]) ∧ Ext W w') :
    Calls Tryd.prog 34 #[.agg #[.bool s, .int .u64 mh, .int .u64 ml], .agg #[.bool t, .int .u64 nh, .int .u64 nl]] w fun e w' => e = .returned (.tuple #[.int .i64 p, .int .i64 q, .bool (po && qo)]) ∧ Ext w w' := by
  have HG := Lib.hid hG
  have HD1 := Lib.hid hD1
  have HD2 := Lib.hid hD2
  have HZ := Lib.hid hZ
  have HN1 := Lib.hid hN1
  have HN2 := Lib.hid hN2
  clear hG hD1 hD2 hZ hN1 hN2
  have X0 : Ext w w := Ext.refl w
  cases s <;> cases t <;> cases po
  · go_enter Tryd.func34, Tryd.ntmps34
    go_wp2_with fail
    refine (HG.out _).mono ?_
    rintro e w1 ⟨rfl, hx⟩
    have fs1 : w.heap.size + 1 + 1 ≤ w1.heap.size := by simpa using hx.size
    obtain ⟨fc, ff⟩ := And.intro hx.cells hx.marks
    have C1a0 : w1.cell? ⟨w.heap.size, 0, none⟩ = some (Value.bool false) := by rw [fc _ _ (by first | omega | (simp; omega) | simp)]; simp [go_sem, *]
    have F1a0 : w1.frozen? ⟨w.heap.size, 0, none⟩ = false := by rw [ff _ _ (by first | omega | (simp; omega) | simp)]; simp [go_sem, *]
    have C1a1 : w1.cell? ⟨w.heap.size, 1, none⟩ = some (Value.int IntKind.u64 mh) := by rw [fc _ _ (by first | omega | (simp; omega) | simp)]; simp [go_sem, *]
    have F1a1 : w1.frozen? ⟨w.heap.size, 1, none⟩ = false := by rw [ff _ _ (by first | omega | (simp; omega) | simp)]; simp [go_sem, *]
    have C1a2 : w1.cell? ⟨w.heap.size, 2, none⟩ = some (Value.int IntKind.u64 ml) := by rw [fc _ _ (by first | omega | (simp; omega) | simp)]; simp [go_sem, *]
    have F1a2 : w1.frozen? ⟨w.heap.size, 2, none⟩ = false := by rw [ff _ _ (by first | omega | (simp; omega) | simp)]; simp [go_sem, *]
    have C1b0 : w1.cell? ⟨w.heap.size + 1, 0, none⟩ = some (Value.bool false) := by rw [fc _ _ (by first | omega | (simp; omega) | simp)]; simp [go_sem, *]
    have F1b0 : w1.frozen? ⟨w.heap.size + 1, 0, none⟩ = false := by rw [ff _ _ (by first | omega | (simp; omega) | simp)]; simp [go_sem, *]
    have C1b1 : w1.cell? ⟨w.heap.size + 1, 1, none⟩ = some (Value.int IntKind.u64 nh) := by rw [fc _ _ (by first | omega | (simp; omega) | simp)]; simp [go_sem, *]
    have F1b1 : w1.frozen? ⟨w.heap.size + 1, 1, none⟩ = false := by rw [ff _ _ (by first | omega | (simp; omega) | simp)]; simp [go_sem, *]
    have C1b2 : w1.cell? ⟨w.heap.size + 1, 2, none⟩ = some (Value.int IntKind.u64 nl) := by rw [fc _ _ (by first | omega | (simp; omega) | simp)]; simp [go_sem, *]
    have F1b2 : w1.frozen? ⟨w.heap.size + 1, 2, none⟩ = false := by rw [ff _ _ (by first | omega | (simp; omega) | simp)]; simp [go_sem, *]
    clear fc ff
    have X1 : Ext w w1 := Ext.trans (by repeat (first | (with_reducible exact Ext.refl _) | (with_reducible assumption) | (with_reducible refine Ext.alloc ?_ _) | (with_reducible refine Ext.drewN ?_ _) | (with_reducible refine Ext.drew ?_) | (with_reducible refine Ext.setCell ?_ (by simp <;> omega) _))) hx
    clear hx 
    have l1a : w.heap.size < w1.heap.size := by omega
    have l1b : w.heap.size + 1 < w1.heap.size := by omega
    go_wp2_with fail
    refine (HD1.out _).mono ?_
    rintro e w2 ⟨rfl, hx⟩
    have fs2 : w1.heap.size + 1 ≤ w2.heap.size := by simpa using hx.size
    obtain ⟨fc, ff⟩ := And.intro hx.cells hx.marks
    have C2a0 : w2.cell? ⟨w.heap.size, 0, none⟩ = some (Value.bool false) := by rw [fc _ _ (by first | omega | (simp; omega) | simp)]; simp [go_sem, *]
    have F2a0 : w2.frozen? ⟨w.heap.size, 0, none⟩ = false := by rw [ff _ _ (by first | omega | (simp; omega) | simp)]; simp [go_sem, *]
    have C2a1 : w2.cell? ⟨w.heap.size, 1, none⟩ = some (Value.int IntKind.u64 mh) := by rw [fc _ _ (by first | omega | (simp; omega) | simp)]; simp [go_sem, *]
    have F2a1 : w2.frozen? ⟨w.heap.size, 1, none⟩ = false := by rw [ff _ _ (by first | omega | (simp; omega) | simp)]; simp [go_sem, *]
    have C2a2 : w2.cell? ⟨w.heap.size, 2, none⟩ = some (Value.int IntKind.u64 ml) := by rw [fc _ _ (by first | omega | (simp; omega) | simp)]; simp [go_sem, *]
    have F2a2 : w2.frozen? ⟨w.heap.size, 2, none⟩ = false := by rw [ff _ _ (by first | omega | (simp; omega) | simp)]; simp [go_sem, *]
    have C2b0 : w2.cell? ⟨w.heap.size + 1, 0, none⟩ = some (Value.bool false) := by rw [fc _ _ (by first | omega | (simp; omega) | simp)]; simp [go_sem, *]
    have F2b0 : w2.frozen? ⟨w.heap.size + 1, 0, none⟩ = false := by rw [ff _ _ (by first | omega | (simp; omega) | simp)]; simp [go_sem, *]
    have C2b1 : w2.cell? ⟨w.heap.size + 1, 1, none⟩ = some (Value.int IntKind.u64 nh) := by rw [fc _ _ (by first | omega | (simp; omega) | simp)]; simp [go_sem, *]
    have F2b1 : w2.frozen? ⟨w.heap.size + 1, 1, none⟩ = false := by rw [ff _ _ (by first | omega | (simp; omega) | simp)]; simp [go_sem, *]
    have C2b2 : w2.cell? ⟨w.heap.size + 1, 2, none⟩ = some (Value.int IntKind.u64 nl) := by rw [fc _ _ (by first | omega | (simp; omega) | simp)]; simp [go_sem, *]
    have F2b2 : w2.frozen? ⟨w.heap.size + 1, 2, none⟩ = false := by rw [ff _ _ (by first | omega | (simp; omega) | simp)]; simp [go_sem, *]
    have C2g0 : w2.cell? ⟨w1.heap.size, 0, none⟩ = some (Value.bool false) := by rw [fc _ _ (by first | omega | (simp; omega) | simp)]; simp [go_sem, *]
    have F2g0 : w2.frozen? ⟨w1.heap.size, 0, none⟩ = false := by rw [ff _ _ (by first | omega | (simp; omega) | simp)]; simp [go_sem, *]
    have C2g1 : w2.cell? ⟨w1.heap.size, 1, none⟩ = some (Value.int IntKind.u64 gh) := by rw [fc _ _ (by first | omega | (simp; omega) | simp)]; simp [go_sem, *]
    have F2g1 : w2.frozen? ⟨w1.heap.size, 1, none⟩ = false := by rw [ff _ _ (by first | omega | (simp; omega) | simp)]; simp [go_sem, *]
    have C2g2 : w2.cell? ⟨w1.heap.size, 2, none⟩ = some (Value.int IntKind.u64 gl) := by rw [fc _ _ (by first | omega | (simp; omega) | simp)]; simp [go_sem, *]
    have F2g2 : w2.frozen? ⟨w1.heap.size, 2, none⟩ = false := by rw [ff _ _ (by first | omega | (simp; omega) | simp)]; simp [go_sem, *]
    clear fc ff
    have X2 : Ext w w2 := Ext.trans (by repeat (first | (with_reducible exact Ext.refl _) | (with_reducible assumption) | (with_reducible refine Ext.alloc ?_ _) | (with_reducible refine Ext.drewN ?_ _) | (with_reducible refine Ext.drew ?_) | (with_reducible refine Ext.setCell ?_ (by simp <;> omega) _))) hx
    clear hx X1 C1a0 F1a0 C1a1 F1a1 C1a2 F1a2 C1b0 F1b0 C1b1 F1b1 C1b2 F1b2
    have l2a : w.heap.size < w2.heap.size := by omega
    have l2b : w.heap.size + 1 < w2.heap.size := by omega
    have l2g : w1.heap.size < w2.heap.size := by omega
    go_wp2_with fail
    refine (HD2.out _).mono ?_
    rintro e w3 ⟨rfl, hx⟩
    have fs3 : w2.heap.size + 1 + 1 ≤ w3.heap.size := by simpa using hx.size
    obtain ⟨fc, ff⟩ := And.intro hx.cells hx.marks
    have C3a0 : w3.cell? ⟨w.heap.size, 0, none⟩ = some (Value.bool false) := by rw [fc _ _ (by first | omega | (simp; omega) | simp)]; simp [go_sem, *]
    have F3a0 : w3.frozen? ⟨w.heap.size, 0, none⟩ = false := by rw [ff _ _ (by first | omega | (simp; omega) | simp)]; simp [go_sem, *]
    have C3a1 : w3.cell? ⟨w.heap.size, 1, none⟩ = some (Value.int IntKind.u64 mh) := by rw [fc _ _ (by first | omega | (simp; omega) | simp)]; simp [go_sem, *]
    have F3a1 : w3.frozen? ⟨w.heap.size, 1, none⟩ = false := by rw [ff _ _ (by first | omega | (simp; omega) | simp)]; simp [go_sem, *]
    have C3a2 : w3.cell? ⟨w.heap.size, 2, none⟩ = some (Value.int IntKind.u64 ml) := by rw [fc _ _ (by first | omega | (simp; omega) | simp)]; simp [go_sem, *]
    have F3a2 : w3.frozen? ⟨w.heap.size, 2, none⟩ = false := by rw [ff _ _ (by first | omega | (simp; omega) | simp)]; simp [go_sem, *]
    have C3b0 : w3.cell? ⟨w.heap.size + 1, 0, none⟩ = some (Value.bool false) := by rw [fc _ _ (by first | omega | (simp; omega) | simp)]; simp [go_sem, *]
    have F3b0 : w3.frozen? ⟨w.heap.size + 1, 0, none⟩ = false := by rw [ff _ _ (by first | omega | (simp; omega) | simp)]; simp [go_sem, *]
    have C3b1 : w3.cell? ⟨w.heap.size + 1, 1, none⟩ = some (Value.int IntKind.u64 nh) := by rw [fc _ _ (by first | omega | (simp; omega) | simp)]; simp [go_sem, *]
    have F3b1 : w3.frozen? ⟨w.heap.size + 1, 1, none⟩ = false := by rw [ff _ _ (by first | omega | (simp; omega) | simp)]; simp [go_sem, *]
    have C3b2 : w3.cell? ⟨w.heap.size + 1, 2, none⟩ = some (Value.int IntKind.u64 nl) := by rw [fc _ _ (by first | omega | (simp; omega) | simp)]; simp [go_sem, *]
    have F3b2 : w3.frozen? ⟨w.heap.size + 1, 2, none⟩ = false := by rw [ff _ _ (by first | omega | (simp; omega) | simp)]; simp [go_sem, *]
    have C3g0 : w3.cell? ⟨w1.heap.size, 0, none⟩ = some (Value.bool false) := by rw [fc _ _ (by first | omega | (simp; omega) | simp)]; simp [go_sem, *]
    have F3g0 : w3.frozen? ⟨w1.heap.size, 0, none⟩ = false := by rw [ff _ _ (by first | omega | (simp; omega) | simp)]; simp [go_sem, *]
    have C3g1 : w3.cell? ⟨w1.heap.size, 1, none⟩ = some (Value.int IntKind.u64 gh) := by rw [fc _ _ (by first | omega | (simp; omega) | simp)]; simp [go_sem, *]
    have F3g1 : w3.frozen? ⟨w1.heap.size, 1, none⟩ = false := by rw [ff _ _ (by first | omega | (simp; omega) | simp)]; simp [go_sem, *]
    have C3g2 : w3.cell? ⟨w1.heap.size, 2, none⟩ = some (Value.int IntKind.u64 gl) := by rw [fc _ _ (by first | omega | (simp; omega) | simp)]; simp [go_sem, *]
    have F3g2 : w3.frozen? ⟨w1.heap.size, 2, none⟩ = false := by rw [ff _ _ (by first | omega | (simp; omega) | simp)]; simp [go_sem, *]
    have C3x0 : w3.cell? ⟨w2.heap.size, 0, none⟩ = some (Value.bool false) := by rw [fc _ _ (by first | omega | (simp; omega) | simp)]; simp [go_sem, *]
    have F3x0 : w3.frozen? ⟨w2.heap.size, 0, none⟩ = false := by rw [ff _ _ (by first | omega | (simp; omega) | simp)]; simp [go_sem, *]
    have C3x1 : w3.cell? ⟨w2.heap.size, 1, none⟩ = some (Value.int IntKind.u64 xh) := by rw [fc _ _ (by first | omega | (simp; omega) | simp)]; simp [go_sem, *]
    have F3x1 : w3.frozen? ⟨w2.heap.size, 1, none⟩ = false := by rw [ff _ _ (by first | omega | (simp; omega) | simp)]; simp [go_sem, *]
    have C3x2 : w3.cell? ⟨w2.heap.size, 2, none⟩ = some (Value.int IntKind.u64 xl) := by rw [fc _ _ (by first | omega | (simp; omega) | simp)]; simp [go_sem, *]
    have F3x2 : w3.frozen? ⟨w2.heap.size, 2, none⟩ = false := by rw [ff _ _ (by first | omega | (simp; omega) | simp)]; simp [go_sem, *]
    have C3j0 : w3.cell? ⟨w2.heap.size + 1, 0, none⟩ = some (Value.bool false) := by rw [fc _ _ (by first | omega | (simp; omega) | simp)]; simp [go_sem, *]
    have F3j0 : w3.frozen? ⟨w2.heap.size + 1, 0, none⟩ = false := by rw [ff _ _ (by first | omega | (simp; omega) | simp)]; simp [go_sem, *]
    have C3j1 : w3.cell? ⟨w2.heap.size + 1, 1, none⟩ = some (Value.int IntKind.u64 j1) := by rw [fc _ _ (by first | omega | (simp; omega) | simp)]; simp [go_sem, *]
    have F3j1 : w3.frozen? ⟨w2.heap.size + 1, 1, none⟩ = false := by rw [ff _ _ (by first | omega | (simp; omega) | simp)]; simp [go_sem, *]
    have C3j2 : w3.cell? ⟨w2.heap.size + 1, 2, none⟩ = some (Value.int IntKind.u64 j2) := by rw [fc _ _ (by first | omega | (simp; omega) | simp)]; simp [go_sem, *]
    have F3j2 : w3.frozen? ⟨w2.heap.size + 1, 2, none⟩ = false := by rw [ff _ _ (by first | omega | (simp; omega) | simp)]; simp [go_sem, *]
    clear fc ff
    have X3 : Ext w w3 := Ext.trans (by repeat (first | (with_reducible exact Ext.refl _) | (with_reducible assumption) | (with_reducible refine Ext.alloc ?_ _) | (with_reducible refine Ext.drewN ?_ _) | (with_reducible refine Ext.drew ?_) | (with_reducible refine Ext.setCell ?_ (by simp <;> omega) _))) hx
    clear hx X2 C2a0 F2a0 C2a1 F2a1 C2a2 F2a2 C2b0 F2b0 C2b1 F2b1 C2b2 F2b2 C2g0 F2g0 C2g1 F2g1 C2g2 F2g2
    have l3a : w.heap.size < w3.heap.size := by omega
    have l3b : w.heap.size + 1 < w3.heap.size := by omega
    have l3g : w1.heap.size < w3.heap.size := by omega
    have l3x : w2.heap.size < w3.heap.size := by omega
    have l3j : w2.heap.size + 1 < w3.heap.size := by omega
    go_wp2_with fail
    refine (HN1.out _).mono ?_
    rintro e w4 ⟨rfl, hx⟩
    have fs4 : w3.heap.size + 1 + 1 ≤ w4.heap.size := by simpa using hx.size
    obtain ⟨fc, ff⟩ := And.intro hx.cells hx.marks
    have C4a0 : w4.cell? ⟨w.heap.size, 0, none⟩ = some (Value.bool false) := by rw [fc _ _ (by first | omega | (simp; omega) | simp)]; simp [go_sem, *]
    have F4a0 : w4.frozen? ⟨w.heap.size, 0, none⟩ = false := by rw [ff _ _ (by first | omega | (simp; omega) | simp)]; simp [go_sem, *]
    have C4a1 : w4.cell? ⟨w.heap.size, 1, none⟩ = some (Value.int IntKind.u64 mh) := by rw [fc _ _ (by first | omega | (simp; omega) | simp)]; simp [go_sem, *]
    have F4a1 : w4.frozen? ⟨w.heap.size, 1, none⟩ = false := by rw [ff _ _ (by first | omega | (simp; omega) | simp)]; simp [go_sem, *]
    have C4a2 : w4.cell? ⟨w.heap.size, 2, none⟩ = some (Value.int IntKind.u64 ml) := by rw [fc _ _ (by first | omega | (simp; omega) | simp)]; simp [go_sem, *]
    have F4a2 : w4.frozen? ⟨w.heap.size, 2, none⟩ = false := by rw [ff _ _ (by first | omega | (simp; omega) | simp)]; simp [go_sem, *]
    have C4b0 : w4.cell? ⟨w.heap.size + 1, 0, none⟩ = some (Value.bool false) := by rw [fc _ _ (by first | omega | (simp; omega) | simp)]; simp [go_sem, *]
    have F4b0 : w4.frozen? ⟨w.heap.size + 1, 0, none⟩ = false := by rw [ff _ _ (by first | omega | (simp; omega) | simp)]; simp [go_sem, *]
    have C4b1 : w4.cell? ⟨w.heap.size + 1, 1, none⟩ = some (Value.int IntKind.u64 nh) := by rw [fc _ _ (by first | omega | (simp; omega) | simp)]; simp [go_sem, *]
    have F4b1 : w4.frozen? ⟨w.heap.size + 1, 1, none⟩ = false := by rw [ff _ _ (by first | omega | (simp; omega) | simp)]; simp [go_sem, *]
    have C4b2 : w4.cell? ⟨w.heap.size + 1, 2, none⟩ = some (Value.int IntKind.u64 nl) := by rw [fc _ _ (by first | omega | (simp; omega) | simp)]; simp [go_sem, *]
    have F4b2 : w4.frozen? ⟨w.heap.size + 1, 2, none⟩ = false := by rw [ff _ _ (by first | omega | (simp; omega) | simp)]; simp [go_sem, *]
    have C4g0 : w4.cell? ⟨w1.heap.size, 0, none⟩ = some (Value.bool false) := by rw [fc _ _ (by first | omega | (simp; omega) | simp)]; simp [go_sem, *]
    have F4g0 : w4.frozen? ⟨w1.heap.size, 0, none⟩ = false := by rw [ff _ _ (by first | omega | (simp; omega) | simp)]; simp [go_sem, *]
    have C4g1 : w4.cell? ⟨w1.heap.size, 1, none⟩ = some (Value.int IntKind.u64 gh) := by rw [fc _ _ (by first | omega | (simp; omega) | simp)]; simp [go_sem, *]
    have F4g1 : w4.frozen? ⟨w1.heap.size, 1, none⟩ = false := by rw [ff _ _ (by first | omega | (simp; omega) | simp)]; simp [go_sem, *]
    have C4g2 : w4.cell? ⟨w1.heap.size, 2, none⟩ = some (Value.int IntKind.u64 gl) := by rw [fc _ _ (by first | omega | (simp; omega) | simp)]; simp [go_sem, *]
    have F4g2 : w4.frozen? ⟨w1.heap.size, 2, none⟩ = false := by rw [ff _ _ (by first | omega | (simp; omega) | simp)]; simp [go_sem, *]
    have C4x0 : w4.cell? ⟨w2.heap.size, 0, none⟩ = some (Value.bool false) := by rw [fc _ _ (by first | omega | (simp; omega) | simp)]; simp [go_sem, *]
    have F4x0 : w4.frozen? ⟨w2.heap.size, 0, none⟩ = false := by rw [ff _ _ (by first | omega | (simp; omega) | simp)]; simp [go_sem, *]
    have C4x1 : w4.cell? ⟨w2.heap.size, 1, none⟩ = some (Value.int IntKind.u64 xh) := by rw [fc _ _ (by first | omega | (simp; omega) | simp)]; simp [go_sem, *]
    have F4x1 : w4.frozen? ⟨w2.heap.size, 1, none⟩ = false := by rw [ff _ _ (by first | omega | (simp; omega) | simp)]; simp [go_sem, *]
    have C4x2 : w4.cell? ⟨w2.heap.size, 2, none⟩ = some (Value.int IntKind.u64 xl) := by rw [fc _ _ (by first | omega | (simp; omega) | simp)]; simp [go_sem, *]
    have F4x2 : w4.frozen? ⟨w2.heap.size, 2, none⟩ = false := by rw [ff _ _ (by first | omega | (simp; omega) | simp)]; simp [go_sem, *]
    have C4j0 : w4.cell? ⟨w2.heap.size + 1, 0, none⟩ = some (Value.bool false) := by rw [fc _ _ (by first | omega | (simp; omega) | simp)]; simp [go_sem, *]
    have F4j0 : w4.frozen? ⟨w2.heap.size + 1, 0, none⟩ = false := by rw [ff _ _ (by first | omega | (simp; omega) | simp)]; simp [go_sem, *]
    have C4j1 : w4.cell? ⟨w2.heap.size + 1, 1, none⟩ = some (Value.int IntKind.u64 j1) := by rw [fc _ _ (by first | omega | (simp; omega) | simp)]; simp [go_sem, *]
    have F4j1 : w4.frozen? ⟨w2.heap.size + 1, 1, none⟩ = false := by rw [ff _ _ (by first | omega | (simp; omega) | simp)]; simp [go_sem, *]
    have C4j2 : w4.cell? ⟨w2.heap.size + 1, 2, none⟩ = some (Value.int IntKind.u64 j2) := by rw [fc _ _ (by first | omega | (simp; omega) | simp)]; simp [go_sem, *]
    have F4j2 : w4.frozen? ⟨w2.heap.size + 1, 2, none⟩ = false := by rw [ff _ _ (by first | omega | (simp; omega) | simp)]; simp [go_sem, *]
    have C4y0 : w4.cell? ⟨w3.heap.size, 0, none⟩ = some (Value.bool false) := by rw [fc _ _ (by first | omega | (simp; omega) | simp)]; simp [go_sem, *]
    have F4y0 : w4.frozen? ⟨w3.heap.size, 0, none⟩ = false := by rw [ff _ _ (by first | omega | (simp; omega) | simp)]; simp [go_sem, *]
    have C4y1 : w4.cell? ⟨w3.heap.size, 1, none⟩ = some (Value.int IntKind.u64 yh) := by rw [fc _ _ (by first | omega | (simp; omega) | simp)]; simp [go_sem, *]
    have F4y1 : w4.frozen? ⟨w3.heap.size, 1, none⟩ = false := by rw [ff _ _ (by first | omega | (simp; omega) | simp)]; simp [go_sem, *]
    have C4y2 : w4.cell? ⟨w3.heap.size, 2, none⟩ = some (Value.int IntKind.u64 yl) := by rw [fc _ _ (by first | omega | (simp; omega) | simp)]; simp [go_sem, *]
    have F4y2 : w4.frozen? ⟨w3.heap.size, 2, none⟩ = false := by rw [ff _ _ (by first | omega | (simp; omega) | simp)]; simp [go_sem, *]
    have C4i0 : w4.cell? ⟨w3.heap.size + 1, 0, none⟩ = some (Value.bool false) := by rw [fc _ _ (by first | omega | (simp; omega) | simp)]; simp [go_sem, *]
    have F4i0 : w4.frozen? ⟨w3.heap.size + 1, 0, none⟩ = false := by rw [ff _ _ (by first | omega | (simp; omega) | simp)]; simp [go_sem, *]
    have C4i1 : w4.cell? ⟨w3.heap.size + 1, 1, none⟩ = some (Value.int IntKind.u64 j3) := by rw [fc _ _ (by first | omega | (simp; omega) | simp)]; simp [go_sem, *]
    have F4i1 : w4.frozen? ⟨w3.heap.size + 1, 1, none⟩ = false := by rw [ff _ _ (by first | omega | (simp; omega) | simp)]; simp [go_sem, *]
    have C4i2 : w4.cell? ⟨w3.heap.size + 1, 2, none⟩ = some (Value.int IntKind.u64 j4) := by rw [fc _ _ (by first | omega | (simp; omega) | simp)]; simp [go_sem, *]
    have F4i2 : w4.frozen? ⟨w3.heap.size + 1, 2, none⟩ = false := by rw [ff _ _ (by first | omega | (simp; omega) | simp)]; simp [go_sem, *]
    clear fc ff
    have X4 : Ext w w4 := Ext.trans (by repeat (first | (with_reducible exact Ext.refl _) | (with_reducible assumption) | (with_reducible refine Ext.alloc ?_ _) | (with_reducible refine Ext.drewN ?_ _) | (with_reducible refine Ext.drew ?_) | (with_reducible refine Ext.setCell ?_ (by simp <;> omega) _))) hx
    clear hx X3 C3a0 F3a0 C3a1 F3a1 C3a2 F3a2 C3b0 F3b0 C3b1 F3b1 C3b2 F3b2 C3g0 F3g0 C3g1 F3g1 C3g2 F3g2 C3x0 F3x0 C3x1 F3x1 C3x2 F3x2 C3j0 F3j0 C3j1 F3j1 C3j2 F3j2
    have l4a : w.heap.size < w4.heap.size := by omega
    have l4b : w.heap.size + 1 < w4.heap.size := by omega
    have l4g : w1.heap.size < w4.heap.size := by omega
    have l4x : w2.heap.size < w4.heap.size := by omega
    have l4j : w2.heap.size + 1 < w4.heap.size := by omega
    have l4y : w3.heap.size < w4.heap.size := by omega
    have l4i : w3.heap.size + 1 < w4.heap.size := by omega
    go_wp2_with fail
    refine (HN2.out _).mono ?_
    rintro e w5 ⟨rfl, hx⟩
    have fs5 : w4.heap.size ≤ w5.heap.size := by simpa using hx.size
    obtain ⟨fc, ff⟩ := And.intro hx.cells hx.marks
    have C5a0 : w5.cell? ⟨w.heap.size, 0, none⟩ = some (Value.bool false) := by rw [fc _ _ (by first | omega | (simp; omega) | simp)]; simp [go_sem, *]
    have F5a0 : w5.frozen? ⟨w.heap.size, 0, none⟩ = false := by rw [ff _ _ (by first | omega | (simp; omega) | simp)]; simp [go_sem, *]
    have C5a1 : w5.cell? ⟨w.heap.size, 1, none⟩ = some (Value.int IntKind.u64 mh) := by rw [fc _ _ (by first | omega | (simp; omega) | simp)]; simp [go_sem, *]
    have F5a1 : w5.frozen? ⟨w.heap.size, 1, none⟩ = false := by rw [ff _ _ (by first | omega | (simp; omega) | simp)]; simp [go_sem, *]
    have C5a2 : w5.cell? ⟨w.heap.size, 2, none⟩ = some (Value.int IntKind.u64 ml) := by rw [fc _ _ (by first | omega | (simp; omega) | simp)]; simp [go_sem, *]
    have F5a2 : w5.frozen? ⟨w.heap.size, 2, none⟩ = false := by rw [ff _ _ (by first | omega | (simp; omega) | simp)]; simp [go_sem, *]
    have C5b0 : w5.cell? ⟨w.heap.size + 1, 0, none⟩ = some (Value.bool false) := by rw [fc _ _ (by first | omega | (simp; omega) | simp)]; simp [go_sem, *]
    have F5b0 : w5.frozen? ⟨w.heap.size + 1, 0, none⟩ = false := by rw [ff _ _ (by first | omega | (simp; omega) | simp)]; simp [go_sem, *]
    have C5b1 : w5.cell? ⟨w.heap.size + 1, 1, none⟩ = some (Value.int IntKind.u64 nh) := by rw [fc _ _ (by first | omega | (simp; omega) | simp)]; simp [go_sem, *]
    have F5b1 : w5.frozen? ⟨w.heap.size + 1, 1, none⟩ = false := by rw [ff _ _ (by first | omega | (simp; omega) | simp)]; simp [go_sem, *]
    have C5b2 : w5.cell? ⟨w.heap.size + 1, 2, none⟩ = some (Value.int IntKind.u64 nl) := by rw [fc _ _ (by first | omega | (simp; omega) | simp)]; simp [go_sem, *]
    have F5b2 : w5.frozen? ⟨w.heap.size + 1, 2, none⟩ = false := by rw [ff _ _ (by first | omega | (simp; omega) | simp)]; simp [go_sem, *]
    have C5g0 : w5.cell? ⟨w1.heap.size, 0, none⟩ = some (Value.bool false) := by rw [fc _ _ (by first | omega | (simp; omega) | simp)]; simp [go_sem, *]
    have F5g0 : w5.frozen? ⟨w1.heap.size, 0, none⟩ = false := by rw [ff _ _ (by first | omega | (simp; omega) | simp)]; simp [go_sem, *]
    have C5g1 : w5.cell? ⟨w1.heap.size, 1, none⟩ = some (Value.int IntKind.u64 gh) := by rw [fc _ _ (by first | omega | (simp; omega) | simp)]; simp [go_sem, *]
    have F5g1 : w5.frozen? ⟨w1.heap.size, 1, none⟩ = false := by rw [ff _ _ (by first | omega | (simp; omega) | simp)]; simp [go_sem, *]
    have C5g2 : w5.cell? ⟨w1.heap.size, 2, none⟩ = some (Value.int IntKind.u64 gl) := by rw [fc _ _ (by first | omega | (simp; omega) | simp)]; simp [go_sem, *]
    have F5g2 : w5.frozen? ⟨w1.heap.size, 2, none⟩ = false := by rw [ff _ _ (by first | omega | (simp; omega) | simp)]; simp [go_sem, *]
    have C5x0 : w5.cell? ⟨w2.heap.size, 0, none⟩ = some (Value.bool false) := by rw [fc _ _ (by first | omega | (simp; omega) | simp)]; simp [go_sem, *]
    have F5x0 : w5.frozen? ⟨w2.heap.size, 0, none⟩ = false := by rw [ff _ _ (by first | omega | (simp; omega) | simp)]; simp [go_sem, *]
    have C5x1 : w5.cell? ⟨w2.heap.size, 1, none⟩ = some (Value.int IntKind.u64 xh) := by rw [fc _ _ (by first | omega | (simp; omega) | simp)]; simp [go_sem, *]
    have F5x1 : w5.frozen? ⟨w2.heap.size, 1, none⟩ = false := by rw [ff _ _ (by first | omega | (simp; omega) | simp)]; simp [go_sem, *]
    have C5x2 : w5.cell? ⟨w2.heap.size, 2, none⟩ = some (Value.int IntKind.u64 xl) := by rw [fc _ _ (by first | omega | (simp; omega) | simp)]; simp [go_sem, *]
    have F5x2 : w5.frozen? ⟨w2.heap.size, 2, none⟩ = false := by rw [ff _ _ (by first | omega | (simp; omega) | simp)]; simp [go_sem, *]
    have C5j0 : w5.cell? ⟨w2.heap.size + 1, 0, none⟩ = some (Value.bool false) := by rw [fc _ _ (by first | omega | (simp; omega) | simp)]; simp [go_sem, *]
    have F5j0 : w5.frozen? ⟨w2.heap.size + 1, 0, none⟩ = false := by rw [ff _ _ (by first | omega | (simp; omega) | simp)]; simp [go_sem, *]
    have C5j1 : w5.cell? ⟨w2.heap.size + 1, 1, none⟩ = some (Value.int IntKind.u64 j1) := by rw [fc _ _ (by first | omega | (simp; omega) | simp)]; simp [go_sem, *]
    have F5j1 : w5.frozen? ⟨w2.heap.size + 1, 1, none⟩ = false := by rw [ff _ _ (by first | omega | (simp; omega) | simp)]; simp [go_sem, *]
    have C5j2 : w5.cell? ⟨w2.heap.size + 1, 2, none⟩ = some (Value.int IntKind.u64 j2) := by rw [fc _ _ (by first | omega | (simp; omega) | simp)]; simp [go_sem, *]
    have F5j2 : w5.frozen? ⟨w2.heap.size + 1, 2, none⟩ = false := by rw [ff _ _ (by first | omega | (simp; omega) | simp)]; simp [go_sem, *]
    have C5y0 : w5.cell? ⟨w3.heap.size, 0, none⟩ = some (Value.bool false) := by rw [fc _ _ (by first | omega | (simp; omega) | simp)]; simp [go_sem, *]
    have F5y0 : w5.frozen? ⟨w3.heap.size, 0, none⟩ = false := by rw [ff _ _ (by first | omega | (simp; omega) | simp)]; simp [go_sem, *]
    have C5y1 : w5.cell? ⟨w3.heap.size, 1, none⟩ = some (Value.int IntKind.u64 yh) := by rw [fc _ _ (by first | omega | (simp; omega) | simp)]; simp [go_sem, *]
    have F5y1 : w5.frozen? ⟨w3.heap.size, 1, none⟩ = false := by rw [ff _ _ (by first | omega | (simp; omega) | simp)]; simp [go_sem, *]
    have C5y2 : w5.cell? ⟨w3.heap.size, 2, none⟩ = some (Value.int IntKind.u64 yl) := by rw [fc _ _ (by first | omega | (simp; omega) | simp)]; simp [go_sem, *]
    have F5y2 : w5.frozen? ⟨w3.heap.size, 2, none⟩ = false := by rw [ff _ _ (by first | omega | (simp; omega) | simp)]; simp [go_sem, *]
    have C5i0 : w5.cell? ⟨w3.heap.size + 1, 0, none⟩ = some (Value.bool false) := by rw [fc _ _ (by first | omega | (simp; omega) | simp)]; simp [go_sem, *]
    have F5i0 : w5.frozen? ⟨w3.heap.size + 1, 0, none⟩ = false := by rw [ff _ _ (by first | omega | (simp; omega) | simp)]; simp [go_sem, *]
    have C5i1 : w5.cell? ⟨w3.heap.size + 1, 1, none⟩ = some (Value.int IntKind.u64 j3) := by rw [fc _ _ (by first | omega | (simp; omega) | simp)]; simp [go_sem, *]
    have F5i1 : w5.frozen? ⟨w3.heap.size + 1, 1, none⟩ = false := by rw [ff _ _ (by first | omega | (simp; omega) | simp)]; simp [go_sem, *]
    have C5i2 : w5.cell? ⟨w3.heap.size + 1, 2, none⟩ = some (Value.int IntKind.u64 j4) := by rw [fc _ _ (by first | omega | (simp; omega) | simp)]; simp [go_sem, *]
    have F5i2 : w5.frozen? ⟨w3.heap.size + 1, 2, none⟩ = false := by rw [ff _ _ (by first | omega | (simp; omega) | simp)]; simp [go_sem, *]
    clear fc ff
    have X5 : Ext w w5 := Ext.trans (by repeat (first | (with_reducible exact Ext.refl _) | (with_reducible assumption) | (with_reducible refine Ext.alloc ?_ _) | (with_reducible refine Ext.drewN ?_ _) | (with_reducible refine Ext.drew ?_) | (with_reducible refine Ext.setCell ?_ (by simp <;> omega) _))) hx
    clear hx X4 C4a0 F4a0 C4a1 F4a1 C4a2 F4a2 C4b0 F4b0 C4b1 F4b1 C4b2 F4b2 C4g0 F4g0 C4g1 F4g1 C4g2 F4g2 C4x0 F4x0 C4x1 F4x1 C4x2 F4x2 C4j0 F4j0 C4j1 F4j1 C4j2 F4j2 C4y0 F4y0 C4y1 F4y1 C4y2 F4y2 C4i0 F4i0 C4i1 F4i1 C4i2 F4i2
    have l5a : w.heap.size < w5.heap.size := by omega
    have l5b : w.heap.size + 1 < w5.heap.size := by omega
    have l5g : w1.heap.size < w5.heap.size := by omega
    have l5x : w2.heap.size < w5.heap.size := by omega
    have l5j : w2.heap.size + 1 < w5.heap.size := by omega
    have l5y : w3.heap.size < w5.heap.size := by omega
    have l5i : w3.heap.size + 1 < w5.heap.size := by omega
    go_wp2_with fail
    exact bodyPost_ret (v := .tuple #[.int .i64 p, .int .i64 q, .bool (false && qo)]) (by simp [results, Tryd.results34, go_sem]) rfl ⟨rfl, (by repeat (first | (with_reducible exact Ext.refl _) | (with_reducible assumption) | (with_reducible refine Ext.alloc ?_ _) | (with_reducible refine Ext.drewN ?_ _) | (with_reducible refine Ext.drew ?_) | (with_reducible refine Ext.setCell ?_ (by simp <;> omega) _)))⟩
  · go_enter Tryd.func34, Tryd.ntmps34
    go_wp2_with fail
    refine (HG.out _).mono ?_
    rintro e w1 ⟨rfl, hx⟩
    have fs1 : w.heap.size + 1 + 1 ≤ w1.heap.size := by simpa using hx.size
    obtain ⟨fc, ff⟩ := And.intro hx.cells hx.marks
    have C1a0 : w1.cell? ⟨w.heap.size, 0, none⟩ = some (Value.bool false) := by rw [fc _ _ (by first | omega | (simp; omega) | simp)]; simp [go_sem, *]
    have F1a0 : w1.frozen? ⟨w.heap.size, 0, none⟩ = false := by rw [ff _ _ (by first | omega | (simp; omega) | simp)]; simp [go_sem, *]
    have C1a1 : w1.cell? ⟨w.heap.size, 1, none⟩ = some (Value.int IntKind.u64 mh) := by rw [fc _ _ (by first | omega | (simp; omega) | simp)]; simp [go_sem, *]
    have F1a1 : w1.frozen? ⟨w.heap.size, 1, none⟩ = false := by rw [ff _ _ (by first | omega | (simp; omega) | simp)]; simp [go_sem, *]
    have C1a2 : w1.cell? ⟨w.heap.size, 2, none⟩ = some (Value.int IntKind.u64 ml) := by rw [fc _ _ (by first | omega | (simp; omega) | simp)]; simp [go_sem, *]
    have F1a2 : w1.frozen? ⟨w.heap.size, 2, none⟩ = false := by rw [ff _ _ (by first | omega | (simp; omega) | simp)]; simp [go_sem, *]
    have C1b0 : w1.cell? ⟨w.heap.size + 1, 0, none⟩ = some (Value.bool false) := by rw [fc _ _ (by first | omega | (simp; omega) | simp)]; simp [go_sem, *]
    have F1b0 : w1.frozen? ⟨w.heap.size + 1, 0, none⟩ = false := by rw [ff _ _ (by first | omega | (simp; omega) | simp)]; simp [go_sem, *]
    have C1b1 : w1.cell? ⟨w.heap.size + 1, 1, none⟩ = some (Value.int IntKind.u64 nh) := by rw [fc _ _ (by first | omega | (simp; omega) | simp)]; simp [go_sem, *]
    have F1b1 : w1.frozen? ⟨w.heap.size + 1, 1, none⟩ = false := by rw [ff _ _ (by first | omega | (simp; omega) | simp)]; simp [go_sem, *]
    have C1b2 : w1.cell? ⟨w.heap.size + 1, 2, none⟩ = some (Value.int IntKind.u64 nl) := by rw [fc _ _ (by first | omega | (simp; omega) | simp)]; simp [go_sem, *]
    have F1b2 : w1.frozen? ⟨w.heap.size + 1, 2, none⟩ = false := by rw [ff _ _ (by first | omega | (simp; omega) | simp)]; simp [go_sem, *]
    clear fc ff
    have X1 : Ext w w1 := Ext.trans (by repeat (first | (with_reducible exact Ext.refl _) | (with_reducible assumption) | (with_reducible refine Ext.alloc ?_ _) | (with_reducible refine Ext.drewN ?_ _) | (with_reducible refine Ext.drew ?_) | (with_reducible refine Ext.setCell ?_ (by simp <;> omega) _))) hx
    clear hx 
    have l1a : w.heap.size < w1.heap.size := by omega
    have l1b : w.heap.size + 1 < w1.heap.size := by omega
    go_wp2_with fail
    refine (HD1.out _).mono ?_
    rintro e w2 ⟨rfl, hx⟩
    have fs2 : w1.heap.size + 1 ≤ w2.heap.size := by simpa using hx.size
    obtain ⟨fc, ff⟩ := And.intro hx.cells hx.marks
    have C2a0 : w2.cell? ⟨w.heap.size, 0, none⟩ = some (Value.bool false) := by rw [fc _ _ (by first | omega | (simp; omega) | simp)]; simp [go_sem, *]
    have F2a0 : w2.frozen? ⟨w.heap.size, 0, none⟩ = false := by rw [ff _ _ (by first | omega | (simp; omega) | simp)]; simp [go_sem, *]
    have C2a1 : w2.cell? ⟨w.heap.size, 1, none⟩ = some (Value.int IntKind.u64 mh) := by rw [fc _ _ (by first | omega | (simp; omega) | simp)]; simp [go_sem, *]
    have F2a1 : w2.frozen? ⟨w.heap.size, 1, none⟩ = false := by rw [ff _ _ (by first | omega | (simp; omega) | simp)]; simp [go_sem, *]
    have C2a2 : w2.cell? ⟨w.heap.size, 2, none⟩ = some (Value.int IntKind.u64 ml) := by rw [fc _ _ (by first | omega | (simp; omega) | simp)]; simp [go_sem, *]
    have F2a2 : w2.frozen? ⟨w.heap.size, 2, none⟩ = false := by rw [ff _ _ (by first | omega | (simp; omega) | simp)]; simp [go_sem, *]
    have C2b0 : w2.cell? ⟨w.heap.size + 1, 0, none⟩ = some (Value.bool false) := by rw [fc _ _ (by first | omega | (simp; omega) | simp)]; simp [go_sem, *]
    have F2b0 : w2.frozen? ⟨w.heap.size + 1, 0, none⟩ = false := by rw [ff _ _ (by first | omega | (simp; omega) | simp)]; simp [go_sem, *]
    have C2b1 : w2.cell? ⟨w.heap.size + 1, 1, none⟩ = some (Value.int IntKind.u64 nh) := by rw [fc _ _ (by first | omega | (simp; omega) | simp)]; simp [go_sem, *]
    have F2b1 : w2.frozen? ⟨w.heap.size + 1, 1, none⟩ = false := by rw [ff _ _ (by first | omega | (simp; omega) | simp)]; simp [go_sem, *]
    have C2b2 : w2.cell? ⟨w.heap.size + 1, 2, none⟩ = some (Value.int IntKind.u64 nl) := by rw [fc _ _ (by first | omega | (simp; omega) | simp)]; simp [go_sem, *]
    have F2b2 : w2.frozen? ⟨w.heap.size + 1, 2, none⟩ = false := by rw [ff _ _ (by first | omega | (simp; omega) | simp)]; simp [go_sem, *]
    have C2g0 : w2.cell? ⟨w1.heap.size, 0, none⟩ = some (Value.bool false) := by rw [fc _ _ (by first | omega | (simp; omega) | simp)]; simp [go_sem, *]
    have F2g0 : w2.frozen? ⟨w1.heap.size, 0, none⟩ = false := by rw [ff _ _ (by first | omega | (simp; omega) | simp)]; simp [go_sem, *]
    have C2g1 : w2.cell? ⟨w1.heap.size, 1, none⟩ = some (Value.int IntKind.u64 gh) := by rw [fc _ _ (by first | omega | (simp; omega) | simp)]; simp [go_sem, *]
    have F2g1 : w2.frozen? ⟨w1.heap.size, 1, none⟩ = false := by rw [ff _ _ (by first | omega | (simp; omega) | simp)]; simp [go_sem, *]
    have C2g2 : w2.cell? ⟨w1.heap.size, 2, none⟩ = some (Value.int IntKind.u64 gl) := by rw [fc _ _ (by first | omega | (simp; omega) | simp)]; simp [go_sem, *]
    have F2g2 : w2.frozen? ⟨w1.heap.size, 2, none⟩ = false := by rw [ff _ _ (by first | omega | (simp; omega) | simp)]; simp [go_sem, *]
    clear fc ff
    have X2 : Ext w w2 := Ext.trans (by repeat (first | (with_reducible exact Ext.refl _) | (with_reducible assumption) | (with_reducible refine Ext.alloc ?_ _) | (with_reducible refine Ext.drewN ?_ _) | (with_reducible refine Ext.drew ?_) | (with_reducible refine Ext.setCell ?_ (by simp <;> omega) _))) hx
    clear hx X1 C1a0 F1a0 C1a1 F1a1 C1a2 F1a2 C1b0 F1b0 C1b1 F1b1 C1b2 F1b2
    have l2a : w.heap.size < w2.heap.size := by omega
    have l2b : w.heap.size + 1 < w2.heap.size := by omega
    have l2g : w1.heap.size < w2.heap.size := by omega
    go_wp2_with fail
    refine (HD2.out _).mono ?_
    rintro e w3 ⟨rfl, hx⟩
    have fs3 : w2.heap.size + 1 + 1 ≤ w3.heap.size := by simpa using hx.size
    obtain ⟨fc, ff⟩ := And.intro hx.cells hx.marks
    have C3a0 : w3.cell? ⟨w.heap.size, 0, none⟩ = some (Value.bool false) := by rw [fc _ _ (by first | omega | (simp; omega) | simp)]; simp [go_sem, *]
    have F3a0 : w3.frozen? ⟨w.heap.size, 0, none⟩ = false := by rw [ff _ _ (by first | omega | (simp; omega) | simp)]; simp [go_sem, *]
    have C3a1 : w3.cell? ⟨w.heap.size, 1, none⟩ = some (Value.int IntKind.u64 mh) := by rw [fc _ _ (by first | omega | (simp; omega) | simp)]; simp [go_sem, *]
    have F3a1 : w3.frozen? ⟨w.heap.size, 1, none⟩ = false := by rw [ff _ _ (by first | omega | (simp; omega) | simp)]; simp [go_sem, *]
    have C3a2 : w3.cell? ⟨w.heap.size, 2, none⟩ = some (Value.int IntKind.u64 ml) := by rw [fc _ _ (by first | omega | (simp; omega) | simp)]; simp [go_sem, *]
    have F3a2 : w3.frozen? ⟨w.heap.size, 2, none⟩ = false := by rw [ff _ _ (by first | omega | (simp; omega) | simp)]; simp [go_sem, *]
    have C3b0 : w3.cell? ⟨w.heap.size + 1, 0, none⟩ = some (Value.bool false) := by rw [fc _ _ (by first | omega | (simp; omega) | simp)]; simp [go_sem, *]
    have F3b0 : w3.frozen? ⟨w.heap.size + 1, 0, none⟩ = false := by rw [ff _ _ (by first | omega | (simp; omega) | simp)]; simp [go_sem, *]
    have C3b1 : w3.cell? ⟨w.heap.size + 1, 1, none⟩ = some (Value.int IntKind.u64 nh) := by rw [fc _ _ (by first | omega | (simp; omega) | simp)]; simp [go_sem, *]
    have F3b1 : w3.frozen? ⟨w.heap.size + 1, 1, none⟩ = false := by rw [ff _ _ (by first | omega | (simp; omega) | simp)]; simp [go_sem, *]
    have C3b2 : w3.cell? ⟨w.heap.size + 1, 2, none⟩ = some (Value.int IntKind.u64 nl) := by rw [fc _ _ (by first | omega | (simp; omega) | simp)]; simp [go_sem, *]
    have F3b2 : w3.frozen? ⟨w.heap.size + 1, 2, none⟩ = false := by rw [ff _ _ (by first | omega | (simp; omega) | simp)]; simp [go_sem, *]
    have C3g0 : w3.cell? ⟨w1.heap.size, 0, none⟩ = some (Value.bool false) := by rw [fc _ _ (by first | omega | (simp; omega) | simp)]; simp [go_sem, *]
    have F3g0 : w3.frozen? ⟨w1.heap.size, 0, none⟩ = false := by rw [ff _ _ (by first | omega | (simp; omega) | simp)]; simp [go_sem, *]
    have C3g1 : w3.cell? ⟨w1.heap.size, 1, none⟩ = some (Value.int IntKind.u64 gh) := by rw [fc _ _ (by first | omega | (simp; omega) | simp)]; simp [go_sem, *]
    have F3g1 : w3.frozen? ⟨w1.heap.size, 1, none⟩ = false := by rw [ff _ _ (by first | omega | (simp; omega) | simp)]; simp [go_sem, *]
    have C3g2 : w3.cell? ⟨w1.heap.size, 2, none⟩ = some (Value.int IntKind.u64 gl) := by rw [fc _ _ (by first | omega | (simp; omega) | simp)]; simp [go_sem, *]
    have F3g2 : w3.frozen? ⟨w1.heap.size, 2, none⟩ = false := by rw [ff _ _ (by first | omega | (simp; omega) | simp)]; simp [go_sem, *]
    have C3x0 : w3.cell? ⟨w2.heap.size, 0, none⟩ = some (Value.bool false) := by rw [fc _ _ (by first | omega | (simp; omega) | simp)]; simp [go_sem, *]
    have F3x0 : w3.frozen? ⟨w2.heap.size, 0, none⟩ = false := by rw [ff _ _ (by first | omega | (simp; omega) | simp)]; simp [go_sem, *]
    have C3x1 : w3.cell? ⟨w2.heap.size, 1, none⟩ = some (Value.int IntKind.u64 xh) := by rw [fc _ _ (by first | omega | (simp; omega) | simp)]; simp [go_sem, *]
    have F3x1 : w3.frozen? ⟨w2.heap.size, 1, none⟩ = false := by rw [ff _ _ (by first | omega | (simp; omega) | simp)]; simp [go_sem, *]
    have C3x2 : w3.cell? ⟨w2.heap.size, 2, none⟩ = some (Value.int IntKind.u64 xl) := by rw [fc _ _ (by first | omega | (simp; omega) | simp)]; simp [go_sem, *]
    have F3x2 : w3.frozen? ⟨w2.heap.size, 2, none⟩ = false := by rw [ff _ _ (by first | omega | (simp; omega) | simp)]; simp [go_sem, *]
    have C3j0 : w3.cell? ⟨w2.heap.size + 1, 0, none⟩ = some (Value.bool false) := by rw [fc _ _ (by first | omega | (simp; omega) | simp)]; simp [go_sem, *]
    have F3j0 : w3.frozen? ⟨w2.heap.size + 1, 0, none⟩ = false := by rw [ff _ _ (by first | omega | (simp; omega) | simp)]; simp [go_sem, *]
    have C3j1 : w3.cell? ⟨w2.heap.size + 1, 1, none⟩ = some (Value.int IntKind.u64 j1) := by rw [fc _ _ (by first | omega | (simp; omega) | simp)]; simp [go_sem, *]
    have F3j1 : w3.frozen? ⟨w2.heap.size + 1, 1, none⟩ = false := by rw [ff _ _ (by first | omega | (simp; omega) | simp)]; simp [go_sem, *]
    have C3j2 : w3.cell? ⟨w2.heap.size + 1, 2, none⟩ = some (Value.int IntKind.u64 j2) := by rw [fc _ _ (by first | omega | (simp; omega) | simp)]; simp [go_sem, *]
    have F3j2 : w3.frozen? ⟨w2.heap.size + 1, 2, none⟩ = false := by rw [ff _ _ (by first | omega | (simp; omega) | simp)]; simp [go_sem, *]
    clear fc ff
    have X3 : Ext w w3 := Ext.trans (by repeat (first | (with_reducible exact Ext.refl _) | (with_reducible assumption) | (with_reducible refine Ext.alloc ?_ _) | (with_reducible refine Ext.drewN ?_ _) | (with_reducible refine Ext.drew ?_) | (with_reducible refine Ext.setCell ?_ (by simp <;> omega) _))) hx
    clear hx X2 C2a0 F2a0 C2a1 F2a1 C2a2 F2a2 C2b0 F2b0 C2b1 F2b1 C2b2 F2b2 C2g0 F2g0 C2g1 F2g1 C2g2 F2g2
    have l3a : w.heap.size < w3.heap.size := by omega
    have l3b : w.heap.size + 1 < w3.heap.size := by omega
    have l3g : w1.heap.size < w3.heap.size := by omega
    have l3x : w2.heap.size < w3.heap.size := by omega
    have l3j : w2.heap.size + 1 < w3.heap.size := by omega
    go_wp2_with fail
    refine (HN1.out _).mono ?_
    rintro e w4 ⟨rfl, hx⟩
    have fs4 : w3.heap.size + 1 + 1 ≤ w4.heap.size := by simpa using hx.size
    obtain ⟨fc, ff⟩ := And.intro hx.cells hx.marks
    have C4a0 : w4.cell? ⟨w.heap.size, 0, none⟩ = some (Value.bool false) := by rw [fc _ _ (by first | omega | (simp; omega) | simp)]; simp [go_sem, *]
    have F4a0 : w4.frozen? ⟨w.heap.size, 0, none⟩ = false := by rw [ff _ _ (by first | omega | (simp; omega) | simp)]; simp [go_sem, *]
    have C4a1 : w4.cell? ⟨w.heap.size, 1, none⟩ = some (Value.int IntKind.u64 mh) := by rw [fc _ _ (by first | omega | (simp; omega) | simp)]; simp [go_sem, *]
    have F4a1 : w4.frozen? ⟨w.heap.size, 1, none⟩ = false := by rw [ff _ _ (by first | omega | (simp; omega) | simp)]; simp [go_sem, *]
    have C4a2 : w4.cell? ⟨w.heap.size, 2, none⟩ = some (Value.int IntKind.u64 ml) := by rw [fc _ _ (by first | omega | (simp; omega) | simp)]; simp [go_sem, *]
    have F4a2 : w4.frozen? ⟨w.heap.size, 2, none⟩ = false := by rw [ff _ _ (by first | omega | (simp; omega) | simp)]; simp [go_sem, *]
    have C4b0 : w4.cell? ⟨w.heap.size + 1, 0, none⟩ = some (Value.bool false) := by rw [fc _ _ (by first | omega | (simp; omega) | simp)]; simp [go_sem, *]
    have F4b0 : w4.frozen? ⟨w.heap.size + 1, 0, none⟩ = false := by rw [ff _ _ (by first | omega | (simp; omega) | simp)]; simp [go_sem, *]
    have C4b1 : w4.cell? ⟨w.heap.size + 1, 1, none⟩ = some (Value.int IntKind.u64 nh) := by rw [fc _ _ (by first | omega | (simp; omega) | simp)]; simp [go_sem, *]
    have F4b1 : w4.frozen? ⟨w.heap.size + 1, 1, none⟩ = false := by rw [ff _ _ (by first | omega | (simp; omega) | simp)]; simp [go_sem, *]
    have C4b2 : w4.cell? ⟨w.heap.size + 1, 2, none⟩ = some (Value.int IntKind.u64 nl) := by rw [fc _ _ (by first | omega | (simp; omega) | simp)]; simp [go_sem, *]
    have F4b2 : w4.frozen? ⟨w.heap.size + 1, 2, none⟩ = false := by rw [ff _ _ (by first | omega | (simp; omega) | simp)]; simp [go_sem, *]
    have C4g0 : w4.cell? ⟨w1.heap.size, 0, none⟩ = some (Value.bool false) := by rw [fc _ _ (by first | omega | (simp; omega) | simp)]; simp [go_sem, *]
    have F4g0 : w4.frozen? ⟨w1.heap.size, 0, none⟩ = false := by rw [ff _ _ (by first | omega | (simp; omega) | simp)]; simp [go_sem, *]
    have C4g1 : w4.cell? ⟨w1.heap.size, 1, none⟩ = some (Value.int IntKind.u64 gh) := by rw [fc _ _ (by first | omega | (simp; omega) | simp)]; simp [go_sem, *]
    have F4g1 : w4.frozen? ⟨w1.heap.size, 1, none⟩ = false := by rw [ff _ _ (by first | omega | (simp; omega) | simp)]; simp [go_sem, *]
    have C4g2 : w4.cell? ⟨w1.heap.size, 2, none⟩ = some (Value.int IntKind.u64 gl) := by rw [fc _ _ (by first | omega | (simp; omega) | simp)]; simp [go_sem, *]
    have F4g2 : w4.frozen? ⟨w1.heap.size, 2, none⟩ = false := by rw [ff _ _ (by first | omega | (simp; omega) | simp)]; simp [go_sem, *]
    have C4x0 : w4.cell? ⟨w2.heap.size, 0, none⟩ = some (Value.bool false) := by rw [fc _ _ (by first | omega | (simp; omega) | simp)]; simp [go_sem, *]
    have F4x0 : w4.frozen? ⟨w2.heap.size, 0, none⟩ = false := by rw [ff _ _ (by first | omega | (simp; omega) | simp)]; simp [go_sem, *]
    have C4x1 : w4.cell? ⟨w2.heap.size, 1, none⟩ = some (Value.int IntKind.u64 xh) := by rw [fc _ _ (by first | omega | (simp; omega) | simp)]; simp [go_sem, *]
    have F4x1 : w4.frozen? ⟨w2.heap.size, 1, none⟩ = false := by rw [ff _ _ (by first | omega | (simp; omega) | simp)]; simp [go_sem, *]
    have C4x2 : w4.cell? ⟨w2.heap.size, 2, none⟩ = some (Value.int IntKind.u64 xl) := by rw [fc _ _ (by first | omega | (simp; omega) | simp)]; simp [go_sem, *]
    have F4x2 : w4.frozen? ⟨w2.heap.size, 2, none⟩ = false := by rw [ff _ _ (by first | omega | (simp; omega) | simp)]; simp [go_sem, *]
    have C4j0 : w4.cell? ⟨w2.heap.size + 1, 0, none⟩ = some (Value.bool false) := by rw [fc _ _ (by first | omega | (simp; omega) | simp)]; simp [go_sem, *]
    have F4j0 : w4.frozen? ⟨w2.heap.size + 1, 0, none⟩ = false := by rw [ff _ _ (by first | omega | (simp; omega) | simp)]; simp [go_sem, *]
    have C4j1 : w4.cell? ⟨w2.heap.size + 1, 1, none⟩ = some (Value.int IntKind.u64 j1) := by rw [fc _ _ (by first | omega | (simp; omega) | simp)]; simp [go_sem, *]
    have F4j1 : w4.frozen? ⟨w2.heap.size + 1, 1, none⟩ = false := by rw [ff _ _ (by first | omega | (simp; omega) | simp)]; simp [go_sem, *]
    have C4j2 : w4.cell? ⟨w2.heap.size + 1, 2, none⟩ = some (Value.int IntKind.u64 j2) := by rw [fc _ _ (by first | omega | (simp; omega) | simp)]; simp [go_sem, *]
    have F4j2 : w4.frozen? ⟨w2.heap.size + 1, 2, none⟩ = false := by rw [ff _ _ (by first | omega | (simp; omega) | simp)]; simp [go_sem, *]
    have C4y0 : w4.cell? ⟨w3.heap.size, 0, none⟩ = some (Value.bool false) := by rw [fc _ _ (by first | omega | (simp; omega) | simp)]; simp [go_sem, *]
    have F4y0 : w4.frozen? ⟨w3.heap.size, 0, none⟩ = false := by rw [ff _ _ (by first | omega | (simp; omega) | simp)]; simp [go_sem, *]
    have C4y1 : w4.cell? ⟨w3.heap.size, 1, none⟩ = some (Value.int IntKind.u64 yh) := by rw [fc _ _ (by first | omega | (simp; omega) | simp)]; simp [go_sem, *]
    have F4y1 : w4.frozen? ⟨w3.heap.size, 1, none⟩ = false := by rw [ff _ _ (by first | omega | (simp; omega) | simp)]; simp [go_sem, *]
    have C4y2 : w4.cell? ⟨w3.heap.size, 2, none⟩ = some (Value.int IntKind.u64 yl) := by rw [fc _ _ (by first | omega | (simp; omega) | simp)]; simp [go_sem, *]
    have F4y2 : w4.frozen? ⟨w3.heap.size, 2, none⟩ = false := by rw [ff _ _ (by first | omega | (simp; omega) | simp)]; simp [go_sem, *]
    have C4i0 : w4.cell? ⟨w3.heap.size + 1, 0, none⟩ = some (Value.bool false) := by rw [fc _ _ (by first | omega | (simp; omega) | simp)]; simp [go_sem, *]
    have F4i0 : w4.frozen? ⟨w3.heap.size + 1, 0, none⟩ = false := by rw [ff _ _ (by first | omega | (simp; omega) | simp)]; simp [go_sem, *]
    have C4i1 : w4.cell? ⟨w3.heap.size + 1, 1, none⟩ = some (Value.int IntKind.u64 j3) := by rw [fc _ _ (by first | omega | (simp; omega) | simp)]; simp [go_sem, *]
    have F4i1 : w4.frozen? ⟨w3.heap.size + 1, 1, none⟩ = false := by rw [ff _ _ (by first | omega | (simp; omega) | simp)]; simp [go_sem, *]
    have C4i2 : w4.cell? ⟨w3.heap.size + 1, 2, none⟩ = some (Value.int IntKind.u64 j4) := by rw [fc _ _ (by first | omega | (simp; omega) | simp)]; simp [go_sem, *]
    have F4i2 : w4.frozen? ⟨w3.heap.size + 1, 2, none⟩ = false := by rw [ff _ _ (by first | omega | (simp; omega) | simp)]; simp [go_sem, *]
    clear fc ff
    have X4 : Ext w w4 := Ext.trans (by repeat (first | (with_reducible exact Ext.refl _) | (with_reducible assumption) | (with_reducible refine Ext.alloc ?_ _) | (with_reducible refine Ext.drewN ?_ _) | (with_reducible refine Ext.drew ?_) | (with_reducible refine Ext.setCell ?_ (by simp <;> omega) _))) hx
    clear hx X3 C3a0 F3a0 C3a1 F3a1 C3a2 F3a2 C3b0 F3b0 C3b1 F3b1 C3b2 F3b2 C3g0 F3g0 C3g1 F3g1 C3g2 F3g2 C3x0 F3x0 C3x1 F3x1 C3x2 F3x2 C3j0 F3j0 C3j1 F3j1 C3j2 F3j2
    have l4a : w.heap.size < w4.heap.size := by omega
    have l4b : w.heap.size + 1 < w4.heap.size := by omega
    have l4g : w1.heap.size < w4.heap.size := by omega
    have l4x : w2.heap.size < w4.heap.size := by omega
    have l4j : w2.heap.size + 1 < w4.heap.size := by omega
    have l4y : w3.heap.size < w4.heap.size := by omega
    have l4i : w3.heap.size + 1 < w4.heap.size := by omega
    go_wp2_with fail
    refine (HN2.out _).mono ?_
    rintro e w5 ⟨rfl, hx⟩
    have fs5 : w4.heap.size ≤ w5.heap.size := by simpa using hx.size
    obtain ⟨fc, ff⟩ := And.intro hx.cells hx.marks
    have C5a0 : w5.cell? ⟨w.heap.size, 0, none⟩ = some (Value.bool false) := by rw [fc _ _ (by first | omega | (simp; omega) | simp)]; simp [go_sem, *]
    have F5a0 : w5.frozen? ⟨w.heap.size, 0, none⟩ = false := by rw [ff _ _ (by first | omega | (simp; omega) | simp)]; simp [go_sem, *]
    have C5a1 : w5.cell? ⟨w.heap.size, 1, none⟩ = some (Value.int IntKind.u64 mh) := by rw [fc _ _ (by first | omega | (simp; omega) | simp)]; simp [go_sem, *]
    have F5a1 : w5.frozen? ⟨w.heap.size, 1, none⟩ = false := by rw [ff _ _ (by first | omega | (simp; omega) | simp)]; simp [go_sem, *]
    have C5a2 : w5.cell? ⟨w.heap.size, 2, none⟩ = some (Value.int IntKind.u64 ml) := by rw [fc _ _ (by first | omega | (simp; omega) | simp)]; simp [go_sem, *]
    have F5a2 : w5.frozen? ⟨w.heap.size, 2, none⟩ = false := by rw [ff _ _ (by first | omega | (simp; omega) | simp)]; simp [go_sem, *]
    have C5b0 : w5.cell? ⟨w.heap.size + 1, 0, none⟩ = some (Value.bool false) := by rw [fc _ _ (by first | omega | (simp; omega) | simp)]; simp [go_sem, *]
    have F5b0 : w5.frozen? ⟨w.heap.size + 1, 0, none⟩ = false := by rw [ff _ _ (by first | omega | (simp; omega) | simp)]; simp [go_sem, *]
    have C5b1 : w5.cell? ⟨w.heap.size + 1, 1, none⟩ = some (Value.int IntKind.u64 nh) := by rw [fc _ _ (by first | omega | (simp; omega) | simp)]; simp [go_sem, *]
    have F5b1 : w5.frozen? ⟨w.heap.size + 1, 1, none⟩ = false := by rw [ff _ _ (by first | omega | (simp; omega) | simp)]; simp [go_sem, *]
    have C5b2 : w5.cell? ⟨w.heap.size + 1, 2, none⟩ = some (Value.int IntKind.u64 nl) := by rw [fc _ _ (by first | omega | (simp; omega) | simp)]; simp [go_sem, *]
    have F5b2 : w5.frozen? ⟨w.heap.size + 1, 2, none⟩ = false := by rw [ff _ _ (by first | omega | (simp; omega) | simp)]; simp [go_sem, *]
    have C5g0 : w5.cell? ⟨w1.heap.size, 0, none⟩ = some (Value.bool false) := by rw [fc _ _ (by first | omega | (simp; omega) | simp)]; simp [go_sem, *]
    have F5g0 : w5.frozen? ⟨w1.heap.size, 0, none⟩ = false := by rw [ff _ _ (by first | omega | (simp; omega) | simp)]; simp [go_sem, *]
    have C5g1 : w5.cell? ⟨w1.heap.size, 1, none⟩ = some (Value.int IntKind.u64 gh) := by rw [fc _ _ (by first | omega | (simp; omega) | simp)]; simp [go_sem, *]
    have F5g1 : w5.frozen? ⟨w1.heap.size, 1, none⟩ = false := by rw [ff _ _ (by first | omega | (simp; omega) | simp)]; simp [go_sem, *]
    have C5g2 : w5.cell? ⟨w1.heap.size, 2, none⟩ = some (Value.int IntKind.u64 gl) := by rw [fc _ _ (by first | omega | (simp; omega) | simp)]; simp [go_sem, *]
    have F5g2 : w5.frozen? ⟨w1.heap.size, 2, none⟩ = false := by rw [ff _ _ (by first | omega | (simp; omega) | simp)]; simp [go_sem, *]
    have C5x0 : w5.cell? ⟨w2.heap.size, 0, none⟩ = some (Value.bool false) := by rw [fc _ _ (by first | omega | (simp; omega) | simp)]; simp [go_sem, *]
    have F5x0 : w5.frozen? ⟨w2.heap.size, 0, none⟩ = false := by rw [ff _ _ (by first | omega | (simp; omega) | simp)]; simp [go_sem, *]
    have C5x1 : w5.cell? ⟨w2.heap.size, 1, none⟩ = some (Value.int IntKind.u64 xh) := by rw [fc _ _ (by first | omega | (simp; omega) | simp)]; simp [go_sem, *]
    have F5x1 : w5.frozen? ⟨w2.heap.size, 1, none⟩ = false := by rw [ff _ _ (by first | omega | (simp; omega) | simp)]; simp [go_sem, *]
    have C5x2 : w5.cell? ⟨w2.heap.size, 2, none⟩ = some (Value.int IntKind.u64 xl) := by rw [fc _ _ (by first | omega | (simp; omega) | simp)]; simp [go_sem, *]
    have F5x2 : w5.frozen? ⟨w2.heap.size, 2, none⟩ = false := by rw [ff _ _ (by first | omega | (simp; omega) | simp)]; simp [go_sem, *]
    have C5j0 : w5.cell? ⟨w2.heap.size + 1, 0, none⟩ = some (Value.bool false) := by rw [fc _ _ (by first | omega | (simp; omega) | simp)]; simp [go_sem, *]
    have F5j0 : w5.frozen? ⟨w2.heap.size + 1, 0, none⟩ = false := by rw [ff _ _ (by first | omega | (simp; omega) | simp)]; simp [go_sem, *]
    have C5j1 : w5.cell? ⟨w2.heap.size + 1, 1, none⟩ = some (Value.int IntKind.u64 j1) := by rw [fc _ _ (by first | omega | (simp; omega) | simp)]; simp [go_sem, *]
    have F5j1 : w5.frozen? ⟨w2.heap.size + 1, 1, none⟩ = false := by rw [ff _ _ (by first | omega | (simp; omega) | simp)]; simp [go_sem, *]
    have C5j2 : w5.cell? ⟨w2.heap.size + 1, 2, none⟩ = some (Value.int IntKind.u64 j2) := by rw [fc _ _ (by first | omega | (simp; omega) | simp)]; simp [go_sem, *]
    have F5j2 : w5.frozen? ⟨w2.heap.size + 1, 2, none⟩ = false := by rw [ff _ _ (by first | omega | (simp; omega) | simp)]; simp [go_sem, *]
    have C5y0 : w5.cell? ⟨w3.heap.size, 0, none⟩ = some (Value.bool false) := by rw [fc _ _ (by first | omega | (simp; omega) | simp)]; simp [go_sem, *]
    have F5y0 : w5.frozen? ⟨w3.heap.size, 0, none⟩ = false := by rw [ff _ _ (by first | omega | (simp; omega) | simp)]; simp [go_sem, *]
    have C5y1 : w5.cell? ⟨w3.heap.size, 1, none⟩ = some (Value.int IntKind.u64 yh) := by rw [fc _ _ (by first | omega | (simp; omega) | simp)]; simp [go_sem, *]
    have F5y1 : w5.frozen? ⟨w3.heap.size, 1, none⟩ = false := by rw [ff _ _ (by first | omega | (simp; omega) | simp)]; simp [go_sem, *]
    have C5y2 : w5.cell? ⟨w3.heap.size, 2, none⟩ = some (Value.int IntKind.u64 yl) := by rw [fc _ _ (by first | omega | (simp; omega) | simp)]; simp [go_sem, *]
    have F5y2 : w5.frozen? ⟨w3.heap.size, 2, none⟩ = false := by rw [ff _ _ (by first | omega | (simp; omega) | simp)]; simp [go_sem, *]
    have C5i0 : w5.cell? ⟨w3.heap.size + 1, 0, none⟩ = some (Value.bool false) := by rw [fc _ _ (by first | omega | (simp; omega) | simp)]; simp [go_sem, *]
    have F5i0 : w5.frozen? ⟨w3.heap.size + 1, 0, none⟩ = false := by rw [ff _ _ (by first | omega | (simp; omega) | simp)]; simp [go_sem, *]
    have C5i1 : w5.cell? ⟨w3.heap.size + 1, 1, none⟩ = some (Value.int IntKind.u64 j3) := by rw [fc _ _ (by first | omega | (simp; omega) | simp)]; simp [go_sem, *]
    have F5i1 : w5.frozen? ⟨w3.heap.size + 1, 1, none⟩ = false := by rw [ff _ _ (by first | omega | (simp; omega) | simp)]; simp [go_sem, *]
    have C5i2 : w5.cell? ⟨w3.heap.size + 1, 2, none⟩ = some (Value.int IntKind.u64 j4) := by rw [fc _ _ (by first | omega | (simp; omega) | simp)]; simp [go_sem, *]
    have F5i2 : w5.frozen? ⟨w3.heap.size + 1, 2, none⟩ = false := by rw [ff _ _ (by first | omega | (simp; omega) | simp)]; simp [go_sem, *]
    clear fc ff
    have X5 : Ext w w5 := Ext.trans (by repeat (first | (with_reducible exact Ext.refl _) | (with_reducible assumption) | (with_reducible refine Ext.alloc ?_ _) | (with_reducible refine Ext.drewN ?_ _) | (with_reducible refine Ext.drew ?_) | (with_reducible refine Ext.setCell ?_ (by simp <;> omega) _))) hx
    clear hx X4 C4a0 F4a0 C4a1 F4a1 C4a2 F4a2 C4b0 F4b0 C4b1 F4b1 C4b2 F4b2 C4g0 F4g0 C4g1 F4g1 C4g2 F4g2 C4x0 F4x0 C4x1 F4x1 C4x2 F4x2 C4j0 F4j0 C4j1 F4j1 C4j2 F4j2 C4y0 F4y0 C4y1 F4y1 C4y2 F4y2 C4i0 F4i0 C4i1 F4i1 C4i2 F4i2
    have l5a : w.heap.size < w5.heap.size := by omega
    have l5b : w.heap.size + 1 < w5.heap.size := by omega
    have l5g : w1.heap.size < w5.heap.size := by omega
    have l5x : w2.heap.size < w5.heap.size := by omega
    have l5j : w2.heap.size + 1 < w5.heap.size := by omega
    have l5y : w3.heap.size < w5.heap.size := by omega
    have l5i : w3.heap.size + 1 < w5.heap.size := by omega
    go_wp2_with fail
    exact bodyPost_ret (v := .tuple #[.int .i64 p, .int .i64 q, .bool (true && qo)]) (by simp [results, Tryd.results34, go_sem]) rfl ⟨rfl, (by repeat (first | (with_reducible exact Ext.refl _) | (with_reducible assumption) | (with_reducible refine Ext.alloc ?_ _) | (with_reducible refine Ext.drewN ?_ _) | (with_reducible refine Ext.drew ?_) | (with_reducible refine Ext.setCell ?_ (by simp <;> omega) _)))⟩
  · go_enter Tryd.func34, Tryd.ntmps34
    go_wp2_with fail
    refine (HG.out _).mono ?_
    rintro e w1 ⟨rfl, hx⟩
    have fs1 : w.heap.size + 1 + 1 ≤ w1.heap.size := by simpa using hx.size
    obtain ⟨fc, ff⟩ := And.intro hx.cells hx.marks
    have C1a0 : w1.cell? ⟨w.heap.size, 0, none⟩ = some (Value.bool false) := by rw [fc _ _ (by first | omega | (simp; omega) | simp)]; simp [go_sem, *]
    have F1a0 : w1.frozen? ⟨w.heap.size, 0, none⟩ = false := by rw [ff _ _ (by first | omega | (simp; omega) | simp)]; simp [go_sem, *]
    have C1a1 : w1.cell? ⟨w.heap.size, 1, none⟩ = some (Value.int IntKind.u64 mh) := by rw [fc _ _ (by first | omega | (simp; omega) | simp)]; simp [go_sem, *]
    have F1a1 : w1.frozen? ⟨w.heap.size, 1, none⟩ = false := by rw [ff _ _ (by first | omega | (simp; omega) | simp)]; simp [go_sem, *]
    have C1a2 : w1.cell? ⟨w.heap.size, 2, none⟩ = some (Value.int IntKind.u64 ml) := by rw [fc _ _ (by first | omega | (simp; omega) | simp)]; simp [go_sem, *]
    have F1a2 : w1.frozen? ⟨w.heap.size, 2, none⟩ = false := by rw [ff _ _ (by first | omega | (simp; omega) | simp)]; simp [go_sem, *]
    have C1b0 : w1.cell? ⟨w.heap.size + 1, 0, none⟩ = some (Value.bool true) := by rw [fc _ _ (by first | omega | (simp; omega) | simp)]; simp [go_sem, *]
    have F1b0 : w1.frozen? ⟨w.heap.size + 1, 0, none⟩ = false := by rw [ff _ _ (by first | omega | (simp; omega) | simp)]; simp [go_sem, *]
    have C1b1 : w1.cell? ⟨w.heap.size + 1, 1, none⟩ = some (Value.int IntKind.u64 nh) := by rw [fc _ _ (by first | omega | (simp; omega) | simp)]; simp [go_sem, *]
    have F1b1 : w1.frozen? ⟨w.heap.size + 1, 1, none⟩ = false := by rw [ff _ _ (by first | omega | (simp; omega) | simp)]; simp [go_sem, *]
    have C1b2 : w1.cell? ⟨w.heap.size + 1, 2, none⟩ = some (Value.int IntKind.u64 nl) := by rw [fc _ _ (by first | omega | (simp; omega) | simp)]; simp [go_sem, *]
    have F1b2 : w1.frozen? ⟨w.heap.size + 1, 2, none⟩ = false := by rw [ff _ _ (by first | omega | (simp; omega) | simp)]; simp [go_sem, *]
    clear fc ff
    have X1 : Ext w w1 := Ext.trans (by repeat (first | (with_reducible exact Ext.refl _) | (with_reducible assumption) | (with_reducible refine Ext.alloc ?_ _) | (with_reducible refine Ext.drewN ?_ _) | (with_reducible refine Ext.drew ?_) | (with_reducible refine Ext.setCell ?_ (by simp <;> omega) _))) hx
    clear hx 
    have l1a : w.heap.size < w1.heap.size := by omega
    have l1b : w.heap.size + 1 < w1.heap.size := by omega
    go_wp2_with fail
    refine (HD1.out _).mono ?_
    rintro e w2 ⟨rfl, hx⟩
    have fs2 : w1.heap.size + 1 ≤ w2.heap.size := by simpa using hx.size
    obtain ⟨fc, ff⟩ := And.intro hx.cells hx.marks
    have C2a0 : w2.cell? ⟨w.heap.size, 0, none⟩ = some (Value.bool false) := by rw [fc _ _ (by first | omega | (simp; omega) | simp)]; simp [go_sem, *]
    have F2a0 : w2.frozen? ⟨w.heap.size, 0, none⟩ = false := by rw [ff _ _ (by first | omega | (simp; omega) | simp)]; simp [go_sem, *]
    have C2a1 : w2.cell? ⟨w.heap.size, 1, none⟩ = some (Value.int IntKind.u64 mh) := by rw [fc _ _ (by first | omega | (simp; omega) | simp)]; simp [go_sem, *]
    have F2a1 : w2.frozen? ⟨w.heap.size, 1, none⟩ = false := by rw [ff _ _ (by first | omega | (simp; omega) | simp)]; simp [go_sem, *]
    have C2a2 : w2.cell? ⟨w.heap.size, 2, none⟩ = some (Value.int IntKind.u64 ml) := by rw [fc _ _ (by first | omega | (simp; omega) | simp)]; simp [go_sem, *]
    have F2a2 : w2.frozen? ⟨w.heap.size, 2, none⟩ = false := by rw [ff _ _ (by first | omega | (simp; omega) | simp)]; simp [go_sem, *]
    have C2b0 : w2.cell? ⟨w.heap.size + 1, 0, none⟩ = some (Value.bool true) := by rw [fc _ _ (by first | omega | (simp; omega) | simp)]; simp [go_sem, *]
    have F2b0 : w2.frozen? ⟨w.heap.size + 1, 0, none⟩ = false := by rw [ff _ _ (by first | omega | (simp; omega) | simp)]; simp [go_sem, *]
    have C2b1 : w2.cell? ⟨w.heap.size + 1, 1, none⟩ = some (Value.int IntKind.u64 nh) := by rw [fc _ _ (by first | omega | (simp; omega) | simp)]; simp [go_sem, *]
    have F2b1 : w2.frozen? ⟨w.heap.size + 1, 1, none⟩ = false := by rw [ff _ _ (by first | omega | (simp; omega) | simp)]; simp [go_sem, *]
    have C2b2 : w2.cell? ⟨w.heap.size + 1, 2, none⟩ = some (Value.int IntKind.u64 nl) := by rw [fc _ _ (by first | omega | (simp; omega) | simp)]; simp [go_sem, *]
    have F2b2 : w2.frozen? ⟨w.heap.size + 1, 2, none⟩ = false := by rw [ff _ _ (by first | omega | (simp; omega) | simp)]; simp [go_sem, *]
    have C2g0 : w2.cell? ⟨w1.heap.size, 0, none⟩ = some (Value.bool false) := by rw [fc _ _ (by first | omega | (simp; omega) | simp)]; simp [go_sem, *]
    have F2g0 : w2.frozen? ⟨w1.heap.size, 0, none⟩ = false := by rw [ff _ _ (by first | omega | (simp; omega) | simp)]; simp [go_sem, *]
    have C2g1 : w2.cell? ⟨w1.heap.size, 1, none⟩ = some (Value.int IntKind.u64 gh) := by rw [fc _ _ (by first | omega | (simp; omega) | simp)]; simp [go_sem, *]
    have F2g1 : w2.frozen? ⟨w1.heap.size, 1, none⟩ = false := by rw [ff _ _ (by first | omega | (simp; omega) | simp)]; simp [go_sem, *]
    have C2g2 : w2.cell? ⟨w1.heap.size, 2, none⟩ = some (Value.int IntKind.u64 gl) := by rw [fc _ _ (by first | omega | (simp; omega) | simp)]; simp [go_sem, *]
    have F2g2 : w2.frozen? ⟨w1.heap.size, 2, none⟩ = false := by rw [ff _ _ (by first | omega | (simp; omega) | simp)]; simp [go_sem, *]
    clear fc ff
    have X2 : Ext w w2 := Ext.trans (by repeat (first | (with_reducible exact Ext.refl _) | (with_reducible assumption) | (with_reducible refine Ext.alloc ?_ _) | (with_reducible refine Ext.drewN ?_ _) | (with_reducible refine Ext.drew ?_) | (with_reducible refine Ext.setCell ?_ (by simp <;> omega) _))) hx
    clear hx X1 C1a0 F1a0 C1a1 F1a1 C1a2 F1a2 C1b0 F1b0 C1b1 F1b1 C1b2 F1b2
    have l2a : w.heap.size < w2.heap.size := by omega
    have l2b : w.heap.size + 1 < w2.heap.size := by omega
    have l2g : w1.heap.size < w2.heap.size := by omega
    go_wp2_with fail
    refine (HD2.out _).mono ?_
    rintro e w3 ⟨rfl, hx⟩
    have fs3 : w2.heap.size + 1 + 1 ≤ w3.heap.size := by simpa using hx.size
    obtain ⟨fc, ff⟩ := And.intro hx.cells hx.marks
    have C3a0 : w3.cell? ⟨w.heap.size, 0, none⟩ = some (Value.bool false) := by rw [fc _ _ (by first | omega | (simp; omega) | simp)]; simp [go_sem, *]
    have F3a0 : w3.frozen? ⟨w.heap.size, 0, none⟩ = false := by rw [ff _ _ (by first | omega | (simp; omega) | simp)]; simp [go_sem, *]
    have C3a1 : w3.cell? ⟨w.heap.size, 1, none⟩ = some (Value.int IntKind.u64 mh) := by rw [fc _ _ (by first | omega | (simp; omega) | simp)]; simp [go_sem, *]
    have F3a1 : w3.frozen? ⟨w.heap.size, 1, none⟩ = false := by rw [ff _ _ (by first | omega | (simp; omega) | simp)]; simp [go_sem, *]
    have C3a2 : w3.cell? ⟨w.heap.size, 2, none⟩ = some (Value.int IntKind.u64 ml) := by rw [fc _ _ (by first | omega | (simp; omega) | simp)]; simp [go_sem, *]
    have F3a2 : w3.frozen? ⟨w.heap.size, 2, none⟩ = false := by rw [ff _ _ (by first | omega | (simp; omega) | simp)]; simp [go_sem, *]
    have C3b0 : w3.cell? ⟨w.heap.size + 1, 0, none⟩ = some (Value.bool true) := by rw [fc _ _ (by first | omega | (simp; omega) | simp)]; simp [go_sem, *]
    have F3b0 : w3.frozen? ⟨w.heap.size + 1, 0, none⟩ = false := by rw [ff _ _ (by first | omega | (simp; omega) | simp)]; simp [go_sem, *]
    have C3b1 : w3.cell? ⟨w.heap.size + 1, 1, none⟩ = some (Value.int IntKind.u64 nh) := by rw [fc _ _ (by first | omega | (simp; omega) | simp)]; simp [go_sem, *]
    have F3b1 : w3.frozen? ⟨w.heap.size + 1, 1, none⟩ = false := by rw [ff _ _ (by first | omega | (simp; omega) | simp)]; simp [go_sem, *]
    have C3b2 : w3.cell? ⟨w.heap.size + 1, 2, none⟩ = some (Value.int IntKind.u64 nl) := by rw [fc _ _ (by first | omega | (simp; omega) | simp)]; simp [go_sem, *]
    have F3b2 : w3.frozen? ⟨w.heap.size + 1, 2, none⟩ = false := by rw [ff _ _ (by first | omega | (simp; omega) | simp)]; simp [go_sem, *]
    have C3g0 : w3.cell? ⟨w1.heap.size, 0, none⟩ = some (Value.bool false) := by rw [fc _ _ (by first | omega | (simp; omega) | simp)]; simp [go_sem, *]
    have F3g0 : w3.frozen? ⟨w1.heap.size, 0, none⟩ = false := by rw [ff _ _ (by first | omega | (simp; omega) | simp)]; simp [go_sem, *]
    have C3g1 : w3.cell? ⟨w1.heap.size, 1, none⟩ = some (Value.int IntKind.u64 gh) := by rw [fc _ _ (by first | omega | (simp; omega) | simp)]; simp [go_sem, *]
    have F3g1 : w3.frozen? ⟨w1.heap.size, 1, none⟩ = false := by rw [ff _ _ (by first | omega | (simp; omega) | simp)]; simp [go_sem, *]
    have C3g2 : w3.cell? ⟨w1.heap.size, 2, none⟩ = some (Value.int IntKind.u64 gl) := by rw [fc _ _ (by first | omega | (simp; omega) | simp)]; simp [go_sem, *]
    have F3g2 : w3.frozen? ⟨w1.heap.size, 2, none⟩ = false := by rw [ff _ _ (by first | omega | (simp; omega) | simp)]; simp [go_sem, *]
    have C3x0 : w3.cell? ⟨w2.heap.size, 0, none⟩ = some (Value.bool false) := by rw [fc _ _ (by first | omega | (simp; omega) | simp)]; simp [go_sem, *]
    have F3x0 : w3.frozen? ⟨w2.heap.size, 0, none⟩ = false := by rw [ff _ _ (by first | omega | (simp; omega) | simp)]; simp [go_sem, *]
    have C3x1 : w3.cell? ⟨w2.heap.size, 1, none⟩ = some (Value.int IntKind.u64 xh) := by rw [fc _ _ (by first | omega | (simp; omega) | simp)]; simp [go_sem, *]
    have F3x1 : w3.frozen? ⟨w2.heap.size, 1, none⟩ = false := by rw [ff _ _ (by first | omega | (simp; omega) | simp)]; simp [go_sem, *]
    have C3x2 : w3.cell? ⟨w2.heap.size, 2, none⟩ = some (Value.int IntKind.u64 xl) := by rw [fc _ _ (by first | omega | (simp; omega) | simp)]; simp [go_sem, *]
    have F3x2 : w3.frozen? ⟨w2.heap.size, 2, none⟩ = false := by rw [ff _ _ (by first | omega | (simp; omega) | simp)]; simp [go_sem, *]
    have C3j0 : w3.cell? ⟨w2.heap.size + 1, 0, none⟩ = some (Value.bool false) := by rw [fc _ _ (by first | omega | (simp; omega) | simp)]; simp [go_sem, *]
    have F3j0 : w3.frozen? ⟨w2.heap.size + 1, 0, none⟩ = false := by rw [ff _ _ (by first | omega | (simp; omega) | simp)]; simp [go_sem, *]
    have C3j1 : w3.cell? ⟨w2.heap.size + 1, 1, none⟩ = some (Value.int IntKind.u64 j1) := by rw [fc _ _ (by first | omega | (simp; omega) | simp)]; simp [go_sem, *]
    have F3j1 : w3.frozen? ⟨w2.heap.size + 1, 1, none⟩ = false := by rw [ff _ _ (by first | omega | (simp; omega) | simp)]; simp [go_sem, *]
    have C3j2 : w3.cell? ⟨w2.heap.size + 1, 2, none⟩ = some (Value.int IntKind.u64 j2) := by rw [fc _ _ (by first | omega | (simp; omega) | simp)]; simp [go_sem, *]
    have F3j2 : w3.frozen? ⟨w2.heap.size + 1, 2, none⟩ = false := by rw [ff _ _ (by first | omega | (simp; omega) | simp)]; simp [go_sem, *]
    clear fc ff
    have X3 : Ext w w3 := Ext.trans (by repeat (first | (with_reducible exact Ext.refl _) | (with_reducible assumption) | (with_reducible refine Ext.alloc ?_ _) | (with_reducible refine Ext.drewN ?_ _) | (with_reducible refine Ext.drew ?_) | (with_reducible refine Ext.setCell ?_ (by simp <;> omega) _))) hx
    clear hx X2 C2a0 F2a0 C2a1 F2a1 C2a2 F2a2 C2b0 F2b0 C2b1 F2b1 C2b2 F2b2 C2g0 F2g0 C2g1 F2g1 C2g2 F2g2
    have l3a : w.heap.size < w3.heap.size := by omega
    have l3b : w.heap.size + 1 < w3.heap.size := by omega
    have l3g : w1.heap.size < w3.heap.size := by omega
    have l3x : w2.heap.size < w3.heap.size := by omega
    have l3j : w2.heap.size + 1 < w3.heap.size := by omega
    go_wp2_with fail
    refine (HZ.out _).mono ?_
    rintro e w4 ⟨rfl, hx⟩
    have fs4 : w3.heap.size + 1 + 1 ≤ w4.heap.size := by simpa using hx.size
    obtain ⟨fc, ff⟩ := And.intro hx.cells hx.marks
    have C4a0 : w4.cell? ⟨w.heap.size, 0, none⟩ = some (Value.bool false) := by rw [fc _ _ (by first | omega | (simp; omega) | simp)]; simp [go_sem, *]
    have F4a0 : w4.frozen? ⟨w.heap.size, 0, none⟩ = false := by rw [ff _ _ (by first | omega | (simp; omega) | simp)]; simp [go_sem, *]
    have C4a1 : w4.cell? ⟨w.heap.size, 1, none⟩ = some (Value.int IntKind.u64 mh) := by rw [fc _ _ (by first | omega | (simp; omega) | simp)]; simp [go_sem, *]
    have F4a1 : w4.frozen? ⟨w.heap.size, 1, none⟩ = false := by rw [ff _ _ (by first | omega | (simp; omega) | simp)]; simp [go_sem, *]
    have C4a2 : w4.cell? ⟨w.heap.size, 2, none⟩ = some (Value.int IntKind.u64 ml) := by rw [fc _ _ (by first | omega | (simp; omega) | simp)]; simp [go_sem, *]
    have F4a2 : w4.frozen? ⟨w.heap.size, 2, none⟩ = false := by rw [ff _ _ (by first | omega | (simp; omega) | simp)]; simp [go_sem, *]
    have C4b0 : w4.cell? ⟨w.heap.size + 1, 0, none⟩ = some (Value.bool true) := by rw [fc _ _ (by first | omega | (simp; omega) | simp)]; simp [go_sem, *]
    have F4b0 : w4.frozen? ⟨w.heap.size + 1, 0, none⟩ = false := by rw [ff _ _ (by first | omega | (simp; omega) | simp)]; simp [go_sem, *]
    have C4b1 : w4.cell? ⟨w.heap.size + 1, 1, none⟩ = some (Value.int IntKind.u64 nh) := by rw [fc _ _ (by first | omega | (simp; omega) | simp)]; simp [go_sem, *]
    have F4b1 : w4.frozen? ⟨w.heap.size + 1, 1, none⟩ = false := by rw [ff _ _ (by first | omega | (simp; omega) | simp)]; simp [go_sem, *]
    have C4b2 : w4.cell? ⟨w.heap.size + 1, 2, none⟩ = some (Value.int IntKind.u64 nl) := by rw [fc _ _ (by first | omega | (simp; omega) | simp)]; simp [go_sem, *]
    have F4b2 : w4.frozen? ⟨w.heap.size + 1, 2, none⟩ = false := by rw [ff _ _ (by first | omega | (simp; omega) | simp)]; simp [go_sem, *]
    have C4g0 : w4.cell? ⟨w1.heap.size, 0, none⟩ = some (Value.bool false) := by rw [fc _ _ (by first | omega | (simp; omega) | simp)]; simp [go_sem, *]
    have F4g0 : w4.frozen? ⟨w1.heap.size, 0, none⟩ = false := by rw [ff _ _ (by first | omega | (simp; omega) | simp)]; simp [go_sem, *]
    have C4g1 : w4.cell? ⟨w1.heap.size, 1, none⟩ = some (Value.int IntKind.u64 gh) := by rw [fc _ _ (by first | omega | (simp; omega) | simp)]; simp [go_sem, *]
    have F4g1 : w4.frozen? ⟨w1.heap.size, 1, none⟩ = false := by rw [ff _ _ (by first | omega | (simp; omega) | simp)]; simp [go_sem, *]
    have C4g2 : w4.cell? ⟨w1.heap.size, 2, none⟩ = some (Value.int IntKind.u64 gl) := by rw [fc _ _ (by first | omega | (simp; omega) | simp)]; simp [go_sem, *]
    have F4g2 : w4.frozen? ⟨w1.heap.size, 2, none⟩ = false := by rw [ff _ _ (by first | omega | (simp; omega) | simp)]; simp [go_sem, *]
    have C4x0 : w4.cell? ⟨w2.heap.size, 0, none⟩ = some (Value.bool false) := by rw [fc _ _ (by first | omega | (simp; omega) | simp)]; simp [go_sem, *]
    have F4x0 : w4.frozen? ⟨w2.heap.size, 0, none⟩ = false := by rw [ff _ _ (by first | omega | (simp; omega) | simp)]; simp [go_sem, *]
    have C4x1 : w4.cell? ⟨w2.heap.size, 1, none⟩ = some (Value.int IntKind.u64 xh) := by rw [fc _ _ (by first | omega | (simp; omega) | simp)]; simp [go_sem, *]
    have F4x1 : w4.frozen? ⟨w2.heap.size, 1, none⟩ = false := by rw [ff _ _ (by first | omega | (simp; omega) | simp)]; simp [go_sem, *]
    have C4x2 : w4.cell? ⟨w2.heap.size, 2, none⟩ = some (Value.int IntKind.u64 xl) := by rw [fc _ _ (by first | omega | (simp; omega) | simp)]; simp [go_sem, *]
    have F4x2 : w4.frozen? ⟨w2.heap.size, 2, none⟩ = false := by rw [ff _ _ (by first | omega | (simp; omega) | simp)]; simp [go_sem, *]
    have C4j0 : w4.cell? ⟨w2.heap.size + 1, 0, none⟩ = some (Value.bool false) := by rw [fc _ _ (by first | omega | (simp; omega) | simp)]; simp [go_sem, *]
    have F4j0 : w4.frozen? ⟨w2.heap.size + 1, 0, none⟩ = false := by rw [ff _ _ (by first | omega | (simp; omega) | simp)]; simp [go_sem, *]
    have C4j1 : w4.cell? ⟨w2.heap.size + 1, 1, none⟩ = some (Value.int IntKind.u64 j1) := by rw [fc _ _ (by first | omega | (simp; omega) | simp)]; simp [go_sem, *]
    have F4j1 : w4.frozen? ⟨w2.heap.size + 1, 1, none⟩ = false := by rw [ff _ _ (by first | omega | (simp; omega) | simp)]; simp [go_sem, *]
    have C4j2 : w4.cell? ⟨w2.heap.size + 1, 2, none⟩ = some (Value.int IntKind.u64 j2) := by rw [fc _ _ (by first | omega | (simp; omega) | simp)]; simp [go_sem, *]
    have F4j2 : w4.frozen? ⟨w2.heap.size + 1, 2, none⟩ = false := by rw [ff _ _ (by first | omega | (simp; omega) | simp)]; simp [go_sem, *]
    have C4y0 : w4.cell? ⟨w3.heap.size, 0, none⟩ = some (Value.bool false) := by rw [fc _ _ (by first | omega | (simp; omega) | simp)]; simp [go_sem, *]
    have F4y0 : w4.frozen? ⟨w3.heap.size, 0, none⟩ = false := by rw [ff _ _ (by first | omega | (simp; omega) | simp)]; simp [go_sem, *]
    have C4y1 : w4.cell? ⟨w3.heap.size, 1, none⟩ = some (Value.int IntKind.u64 yh) := by rw [fc _ _ (by first | omega | (simp; omega) | simp)]; simp [go_sem, *]
    have F4y1 : w4.frozen? ⟨w3.heap.size, 1, none⟩ = false := by rw [ff _ _ (by first | omega | (simp; omega) | simp)]; simp [go_sem, *]
    have C4y2 : w4.cell? ⟨w3.heap.size, 2, none⟩ = some (Value.int IntKind.u64 yl) := by rw [fc _ _ (by first | omega | (simp; omega) | simp)]; simp [go_sem, *]
    have F4y2 : w4.frozen? ⟨w3.heap.size, 2, none⟩ = false := by rw [ff _ _ (by first | omega | (simp; omega) | simp)]; simp [go_sem, *]
    have C4i0 : w4.cell? ⟨w3.heap.size + 1, 0, none⟩ = some (Value.bool false) := by rw [fc _ _ (by first | omega | (simp; omega) | simp)]; simp [go_sem, *]
    have F4i0 : w4.frozen? ⟨w3.heap.size + 1, 0, none⟩ = false := by rw [ff _ _ (by first | omega | (simp; omega) | simp)]; simp [go_sem, *]
    have C4i1 : w4.cell? ⟨w3.heap.size + 1, 1, none⟩ = some (Value.int IntKind.u64 j3) := by rw [fc _ _ (by first | omega | (simp; omega) | simp)]; simp [go_sem, *]
    have F4i1 : w4.frozen? ⟨w3.heap.size + 1, 1, none⟩ = false := by rw [ff _ _ (by first | omega | (simp; omega) | simp)]; simp [go_sem, *]
    have C4i2 : w4.cell? ⟨w3.heap.size + 1, 2, none⟩ = some (Value.int IntKind.u64 j4) := by rw [fc _ _ (by first | omega | (simp; omega) | simp)]; simp [go_sem, *]
    have F4i2 : w4.frozen? ⟨w3.heap.size + 1, 2, none⟩ = false := by rw [ff _ _ (by first | omega | (simp; omega) | simp)]; simp [go_sem, *]
    clear fc ff
    have X4 : Ext w w4 := Ext.trans (by repeat (first | (with_reducible exact Ext.refl _) | (with_reducible assumption) | (with_reducible refine Ext.alloc ?_ _) | (with_reducible refine Ext.drewN ?_ _) | (with_reducible refine Ext.drew ?_) | (with_reducible refine Ext.setCell ?_ (by simp <;> omega) _))) hx
    clear hx X3 C3a0 F3a0 C3a1 F3a1 C3a2 F3a2 C3b0 F3b0 C3b1 F3b1 C3b2 F3b2 C3g0 F3g0 C3g1 F3g1 C3g2 F3g2 C3x0 F3x0 C3x1 F3x1 C3x2 F3x2 C3j0 F3j0 C3j1 F3j1 C3j2 F3j2
    have l4a : w.heap.size < w4.heap.size := by omega
    have l4b : w.heap.size + 1 < w4.heap.size := by omega
    have l4g : w1.heap.size < w4.heap.size := by omega
    have l4x : w2.heap.size < w4.heap.size := by omega
    have l4j : w2.heap.size + 1 < w4.heap.size := by omega
    have l4y : w3.heap.size < w4.heap.size := by omega
    have l4i : w3.heap.size + 1 < w4.heap.size := by omega
    go_wp2_with fail
    refine (HN1.out _).mono ?_
    rintro e w5 ⟨rfl, hx⟩
    have fs5 : w4.heap.size ≤ w5.heap.size := by simpa using hx.size
    obtain ⟨fc, ff⟩ := And.intro hx.cells hx.marks
    have C5a0 : w5.cell? ⟨w.heap.size, 0, none⟩ = some (Value.bool false) := by rw [fc _ _ (by first | omega | (simp; omega) | simp)]; simp [go_sem, *]
    have F5a0 : w5.frozen? ⟨w.heap.size, 0, none⟩ = false := by rw [ff _ _ (by first | omega | (simp; omega) | simp)]; simp [go_sem, *]
    have C5a1 : w5.cell? ⟨w.heap.size, 1, none⟩ = some (Value.int IntKind.u64 mh) := by rw [fc _ _ (by first | omega | (simp; omega) | simp)]; simp [go_sem, *]
    have F5a1 : w5.frozen? ⟨w.heap.size, 1, none⟩ = false := by rw [ff _ _ (by first | omega | (simp; omega) | simp)]; simp [go_sem, *]
    have C5a2 : w5.cell? ⟨w.heap.size, 2, none⟩ = some (Value.int IntKind.u64 ml) := by rw [fc _ _ (by first | omega | (simp; omega) | simp)]; simp [go_sem, *]
    have F5a2 : w5.frozen? ⟨w.heap.size, 2, none⟩ = false := by rw [ff _ _ (by first | omega | (simp; omega) | simp)]; simp [go_sem, *]
    have C5b0 : w5.cell? ⟨w.heap.size + 1, 0, none⟩ = some (Value.bool true) := by rw [fc _ _ (by first | omega | (simp; omega) | simp)]; simp [go_sem, *]
    have F5b0 : w5.frozen? ⟨w.heap.size + 1, 0, none⟩ = false := by rw [ff _ _ (by first | omega | (simp; omega) | simp)]; simp [go_sem, *]
    have C5b1 : w5.cell? ⟨w.heap.size + 1, 1, none⟩ = some (Value.int IntKind.u64 nh) := by rw [fc _ _ (by first | omega | (simp; omega) | simp)]; simp [go_sem, *]
    have F5b1 : w5.frozen? ⟨w.heap.size + 1, 1, none⟩ = false := by rw [ff _ _ (by first | omega | (simp; omega) | simp)]; simp [go_sem, *]
    have C5b2 : w5.cell? ⟨w.heap.size + 1, 2, none⟩ = some (Value.int IntKind.u64 nl) := by rw [fc _ _ (by first | omega | (simp; omega) | simp)]; simp [go_sem, *]
    have F5b2 : w5.frozen? ⟨w.heap.size + 1, 2, none⟩ = false := by rw [ff _ _ (by first | omega | (simp; omega) | simp)]; simp [go_sem, *]
    have C5g0 : w5.cell? ⟨w1.heap.size, 0, none⟩ = some (Value.bool false) := by rw [fc _ _ (by first | omega | (simp; omega) | simp)]; simp [go_sem, *]
    have F5g0 : w5.frozen? ⟨w1.heap.size, 0, none⟩ = false := by rw [ff _ _ (by first | omega | (simp; omega) | simp)]; simp [go_sem, *]
    have C5g1 : w5.cell? ⟨w1.heap.size, 1, none⟩ = some (Value.int IntKind.u64 gh) := by rw [fc _ _ (by first | omega | (simp; omega) | simp)]; simp [go_sem, *]
    have F5g1 : w5.frozen? ⟨w1.heap.size, 1, none⟩ = false := by rw [ff _ _ (by first | omega | (simp; omega) | simp)]; simp [go_sem, *]
    have C5g2 : w5.cell? ⟨w1.heap.size, 2, none⟩ = some (Value.int IntKind.u64 gl) := by rw [fc _ _ (by first | omega | (simp; omega) | simp)]; simp [go_sem, *]
    have F5g2 : w5.frozen? ⟨w1.heap.size, 2, none⟩ = false := by rw [ff _ _ (by first | omega | (simp; omega) | simp)]; simp [go_sem, *]
    have C5x0 : w5.cell? ⟨w2.heap.size, 0, none⟩ = some (Value.bool (!mz)) := by rw [fc _ _ (by first | omega | (simp; omega) | simp)]; simp [go_sem, *]
    have F5x0 : w5.frozen? ⟨w2.heap.size, 0, none⟩ = false := by rw [ff _ _ (by first | omega | (simp; omega) | simp)]; simp [go_sem, *]
    have C5x1 : w5.cell? ⟨w2.heap.size, 1, none⟩ = some (Value.int IntKind.u64 xh) := by rw [fc _ _ (by first | omega | (simp; omega) | simp)]; simp [go_sem, *]
    have F5x1 : w5.frozen? ⟨w2.heap.size, 1, none⟩ = false := by rw [ff _ _ (by first | omega | (simp; omega) | simp)]; simp [go_sem, *]
    have C5x2 : w5.cell? ⟨w2.heap.size, 2, none⟩ = some (Value.int IntKind.u64 xl) := by rw [fc _ _ (by first | omega | (simp; omega) | simp)]; simp [go_sem, *]
    have F5x2 : w5.frozen? ⟨w2.heap.size, 2, none⟩ = false := by rw [ff _ _ (by first | omega | (simp; omega) | simp)]; simp [go_sem, *]
    have C5j0 : w5.cell? ⟨w2.heap.size + 1, 0, none⟩ = some (Value.bool false) := by rw [fc _ _ (by first | omega | (simp; omega) | simp)]; simp [go_sem, *]
    have F5j0 : w5.frozen? ⟨w2.heap.size + 1, 0, none⟩ = false := by rw [ff _ _ (by first | omega | (simp; omega) | simp)]; simp [go_sem, *]
    have C5j1 : w5.cell? ⟨w2.heap.size + 1, 1, none⟩ = some (Value.int IntKind.u64 j1) := by rw [fc _ _ (by first | omega | (simp; omega) | simp)]; simp [go_sem, *]
    have F5j1 : w5.frozen? ⟨w2.heap.size + 1, 1, none⟩ = false := by rw [ff _ _ (by first | omega | (simp; omega) | simp)]; simp [go_sem, *]
    have C5j2 : w5.cell? ⟨w2.heap.size + 1, 2, none⟩ = some (Value.int IntKind.u64 j2) := by rw [fc _ _ (by first | omega | (simp; omega) | simp)]; simp [go_sem, *]
    have F5j2 : w5.frozen? ⟨w2.heap.size + 1, 2, none⟩ = false := by rw [ff _ _ (by first | omega | (simp; omega) | simp)]; simp [go_sem, *]
    have C5y0 : w5.cell? ⟨w3.heap.size, 0, none⟩ = some (Value.bool false) := by rw [fc _ _ (by first | omega | (simp; omega) | simp)]; simp [go_sem, *]
    have F5y0 : w5.frozen? ⟨w3.heap.size, 0, none⟩ = false := by rw [ff _ _ (by first | omega | (simp; omega) | simp)]; simp [go_sem, *]
    have C5y1 : w5.cell? ⟨w3.heap.size, 1, none⟩ = some (Value.int IntKind.u64 yh) := by rw [fc _ _ (by first | omega | (simp; omega) | simp)]; simp [go_sem, *]
    have F5y1 : w5.frozen? ⟨w3.heap.size, 1, none⟩ = false := by rw [ff _ _ (by first | omega | (simp; omega) | simp)]; simp [go_sem, *]
    have C5y2 : w5.cell? ⟨w3.heap.size, 2, none⟩ = some (Value.int IntKind.u64 yl) := by rw [fc _ _ (by first | omega | (simp; omega) | simp)]; simp [go_sem, *]
    have F5y2 : w5.frozen? ⟨w3.heap.size, 2, none⟩ = false := by rw [ff _ _ (by first | omega | (simp; omega) | simp)]; simp [go_sem, *]
    have C5i0 : w5.cell? ⟨w3.heap.size + 1, 0, none⟩ = some (Value.bool false) := by rw [fc _ _ (by first | omega | (simp; omega) | simp)]; simp [go_sem, *]
    have F5i0 : w5.frozen? ⟨w3.heap.size + 1, 0, none⟩ = false := by rw [ff _ _ (by first | omega | (simp; omega) | simp)]; simp [go_sem, *]
    have C5i1 : w5.cell? ⟨w3.heap.size + 1, 1, none⟩ = some (Value.int IntKind.u64 j3) := by rw [fc _ _ (by first | omega | (simp; omega) | simp)]; simp [go_sem, *]
    have F5i1 : w5.frozen? ⟨w3.heap.size + 1, 1, none⟩ = false := by rw [ff _ _ (by first | omega | (simp; omega) | simp)]; simp [go_sem, *]
    have C5i2 : w5.cell? ⟨w3.heap.size + 1, 2, none⟩ = some (Value.int IntKind.u64 j4) := by rw [fc _ _ (by first | omega | (simp; omega) | simp)]; simp [go_sem, *]
    have F5i2 : w5.frozen? ⟨w3.heap.size + 1, 2, none⟩ = false := by rw [ff _ _ (by first | omega | (simp; omega) | simp)]; simp [go_sem, *]
    clear fc ff
    have X5 : Ext w w5 := Ext.trans (by repeat (first | (with_reducible exact Ext.refl _) | (with_reducible assumption) | (with_reducible refine Ext.alloc ?_ _) | (with_reducible refine Ext.drewN ?_ _) | (with_reducible refine Ext.drew ?_) | (with_reducible refine Ext.setCell ?_ (by simp <;> omega) _))) hx
    clear hx X4 C4a0 F4a0 C4a1 F4a1 C4a2 F4a2 C4b0 F4b0 C4b1 F4b1 C4b2 F4b2 C4g0 F4g0 C4g1 F4g1 C4g2 F4g2 C4x0 F4x0 C4x1 F4x1 C4x2 F4x2 C4j0 F4j0 C4j1 F4j1 C4j2 F4j2 C4y0 F4y0 C4y1 F4y1 C4y2 F4y2 C4i0 F4i0 C4i1 F4i1 C4i2 F4i2
    have l5a : w.heap.size < w5.heap.size := by omega
    have l5b : w.heap.size + 1 < w5.heap.size := by omega
    have l5g : w1.heap.size < w5.heap.size := by omega
    have l5x : w2.heap.size < w5.heap.size := by omega
    have l5j : w2.heap.size + 1 < w5.heap.size := by omega
    have l5y : w3.heap.size < w5.heap.size := by omega
    have l5i : w3.heap.size + 1 < w5.heap.size := by omega
    go_wp2_with fail
    refine (HN2.out _).mono ?_
    rintro e w6 ⟨rfl, hx⟩
    have fs6 : w5.heap.size ≤ w6.heap.size := by simpa using hx.size
    obtain ⟨fc, ff⟩ := And.intro hx.cells hx.marks
    have C6a0 : w6.cell? ⟨w.heap.size, 0, none⟩ = some (Value.bool false) := by rw [fc _ _ (by first | omega | (simp; omega) | simp)]; simp [go_sem, *]
    have F6a0 : w6.frozen? ⟨w.heap.size, 0, none⟩ = false := by rw [ff _ _ (by first | omega | (simp; omega) | simp)]; simp [go_sem, *]
    have C6a1 : w6.cell? ⟨w.heap.size, 1, none⟩ = some (Value.int IntKind.u64 mh) := by rw [fc _ _ (by first | omega | (simp; omega) | simp)]; simp [go_sem, *]
    have F6a1 : w6.frozen? ⟨w.heap.size, 1, none⟩ = false := by rw [ff _ _ (by first | omega | (simp; omega) | simp)]; simp [go_sem, *]
    have C6a2 : w6.cell? ⟨w.heap.size, 2, none⟩ = some (Value.int IntKind.u64 ml) := by rw [fc _ _ (by first | omega | (simp; omega) | simp)]; simp [go_sem, *]
    have F6a2 : w6.frozen? ⟨w.heap.size, 2, none⟩ = false := by rw [ff _ _ (by first | omega | (simp; omega) | simp)]; simp [go_sem, *]
    have C6b0 : w6.cell? ⟨w.heap.size + 1, 0, none⟩ = some (Value.bool true) := by rw [fc _ _ (by first | omega | (simp; omega) | simp)]; simp [go_sem, *]
    have F6b0 : w6.frozen? ⟨w.heap.size + 1, 0, none⟩ = false := by rw [ff _ _ (by first | omega | (simp; omega) | simp)]; simp [go_sem, *]
    have C6b1 : w6.cell? ⟨w.heap.size + 1, 1, none⟩ = some (Value.int IntKind.u64 nh) := by rw [fc _ _ (by first | omega | (simp; omega) | simp)]; simp [go_sem, *]
    have F6b1 : w6.frozen? ⟨w.heap.size + 1, 1, none⟩ = false := by rw [ff _ _ (by first | omega | (simp; omega) | simp)]; simp [go_sem, *]
    have C6b2 : w6.cell? ⟨w.heap.size + 1, 2, none⟩ = some (Value.int IntKind.u64 nl) := by rw [fc _ _ (by first | omega | (simp; omega) | simp)]; simp [go_sem, *]
    have F6b2 : w6.frozen? ⟨w.heap.size + 1, 2, none⟩ = false := by rw [ff _ _ (by first | omega | (simp; omega) | simp)]; simp [go_sem, *]
    have C6g0 : w6.cell? ⟨w1.heap.size, 0, none⟩ = some (Value.bool false) := by rw [fc _ _ (by first | omega | (simp; omega) | simp)]; simp [go_sem, *]
    have F6g0 : w6.frozen? ⟨w1.heap.size, 0, none⟩ = false := by rw [ff _ _ (by first | omega | (simp; omega) | simp)]; simp [go_sem, *]
    have C6g1 : w6.cell? ⟨w1.heap.size, 1, none⟩ = some (Value.int IntKind.u64 gh) := by rw [fc _ _ (by first | omega | (simp; omega) | simp)]; simp [go_sem, *]
    have F6g1 : w6.frozen? ⟨w1.heap.size, 1, none⟩ = false := by rw [ff _ _ (by first | omega | (simp; omega) | simp)]; simp [go_sem, *]
    have C6g2 : w6.cell? ⟨w1.heap.size, 2, none⟩ = some (Value.int IntKind.u64 gl) := by rw [fc _ _ (by first | omega | (simp; omega) | simp)]; simp [go_sem, *]
    have F6g2 : w6.frozen? ⟨w1.heap.size, 2, none⟩ = false := by rw [ff _ _ (by first | omega | (simp; omega) | simp)]; simp [go_sem, *]
    have C6x0 : w6.cell? ⟨w2.heap.size, 0, none⟩ = some (Value.bool (!mz)) := by rw [fc _ _ (by first | omega | (simp; omega) | simp)]; simp [go_sem, *]
    have F6x0 : w6.frozen? ⟨w2.heap.size, 0, none⟩ = false := by rw [ff _ _ (by first | omega | (simp; omega) | simp)]; simp [go_sem, *]
    have C6x1 : w6.cell? ⟨w2.heap.size, 1, none⟩ = some (Value.int IntKind.u64 xh) := by rw [fc _ _ (by first | omega | (simp; omega) | simp)]; simp [go_sem, *]
    have F6x1 : w6.frozen? ⟨w2.heap.size, 1, none⟩ = false := by rw [ff _ _ (by first | omega | (simp; omega) | simp)]; simp [go_sem, *]
    have C6x2 : w6.cell? ⟨w2.heap.size, 2, none⟩ = some (Value.int IntKind.u64 xl) := by rw [fc _ _ (by first | omega | (simp; omega) | simp)]; simp [go_sem, *]
    have F6x2 : w6.frozen? ⟨w2.heap.size, 2, none⟩ = false := by rw [ff _ _ (by first | omega | (simp; omega) | simp)]; simp [go_sem, *]
    have C6j0 : w6.cell? ⟨w2.heap.size + 1, 0, none⟩ = some (Value.bool false) := by rw [fc _ _ (by first | omega | (simp; omega) | simp)]; simp [go_sem, *]
    have F6j0 : w6.frozen? ⟨w2.heap.size + 1, 0, none⟩ = false := by rw [ff _ _ (by first | omega | (simp; omega) | simp)]; simp [go_sem, *]
    have C6j1 : w6.cell? ⟨w2.heap.size + 1, 1, none⟩ = some (Value.int IntKind.u64 j1) := by rw [fc _ _ (by first | omega | (simp; omega) | simp)]; simp [go_sem, *]
    have F6j1 : w6.frozen? ⟨w2.heap.size + 1, 1, none⟩ = false := by rw [ff _ _ (by first | omega | (simp; omega) | simp)]; simp [go_sem, *]
    have C6j2 : w6.cell? ⟨w2.heap.size + 1, 2, none⟩ = some (Value.int IntKind.u64 j2) := by rw [fc _ _ (by first | omega | (simp; omega) | simp)]; simp [go_sem, *]
    have F6j2 : w6.frozen? ⟨w2.heap.size + 1, 2, none⟩ = false := by rw [ff _ _ (by first | omega | (simp; omega) | simp)]; simp [go_sem, *]
    have C6y0 : w6.cell? ⟨w3.heap.size, 0, none⟩ = some (Value.bool false) := by rw [fc _ _ (by first | omega | (simp; omega) | simp)]; simp [go_sem, *]
    have F6y0 : w6.frozen? ⟨w3.heap.size, 0, none⟩ = false := by rw [ff _ _ (by first | omega | (simp; omega) | simp)]; simp [go_sem, *]
    have C6y1 : w6.cell? ⟨w3.heap.size, 1, none⟩ = some (Value.int IntKind.u64 yh) := by rw [fc _ _ (by first | omega | (simp; omega) | simp)]; simp [go_sem, *]
    have F6y1 : w6.frozen? ⟨w3.heap.size, 1, none⟩ = false := by rw [ff _ _ (by first | omega | (simp; omega) | simp)]; simp [go_sem, *]
    have C6y2 : w6.cell? ⟨w3.heap.size, 2, none⟩ = some (Value.int IntKind.u64 yl) := by rw [fc _ _ (by first | omega | (simp; omega) | simp)]; simp [go_sem, *]
    have F6y2 : w6.frozen? ⟨w3.heap.size, 2, none⟩ = false := by rw [ff _ _ (by first | omega | (simp; omega) | simp)]; simp [go_sem, *]
    have C6i0 : w6.cell? ⟨w3.heap.size + 1, 0, none⟩ = some (Value.bool false) := by rw [fc _ _ (by first | omega | (simp; omega) | simp)]; simp [go_sem, *]
    have F6i0 : w6.frozen? ⟨w3.heap.size + 1, 0, none⟩ = false := by rw [ff _ _ (by first | omega | (simp; omega) | simp)]; simp [go_sem, *]
    have C6i1 : w6.cell? ⟨w3.heap.size + 1, 1, none⟩ = some (Value.int IntKind.u64 j3) := by rw [fc _ _ (by first | omega | (simp; omega) | simp)]; simp [go_sem, *]
    have F6i1 : w6.frozen? ⟨w3.heap.size + 1, 1, none⟩ = false := by rw [ff _ _ (by first | omega | (simp; omega) | simp)]; simp [go_sem, *]
    have C6i2 : w6.cell? ⟨w3.heap.size + 1, 2, none⟩ = some (Value.int IntKind.u64 j4) := by rw [fc _ _ (by first | omega | (simp; omega) | simp)]; simp [go_sem, *]
    have F6i2 : w6.frozen? ⟨w3.heap.size + 1, 2, none⟩ = false := by rw [ff _ _ (by first | omega | (simp; omega) | simp)]; simp [go_sem, *]
    clear fc ff
    have X6 : Ext w w6 := Ext.trans (by repeat (first | (with_reducible exact Ext.refl _) | (with_reducible assumption) | (with_reducible refine Ext.alloc ?_ _) | (with_reducible refine Ext.drewN ?_ _) | (with_reducible refine Ext.drew ?_) | (with_reducible refine Ext.setCell ?_ (by simp <;> omega) _))) hx
    clear hx X5 C5a0 F5a0 C5a1 F5a1 C5a2 F5a2 C5b0 F5b0 C5b1 F5b1 C5b2 F5b2 C5g0 F5g0 C5g1 F5g1 C5g2 F5g2 C5x0 F5x0 C5x1 F5x1 C5x2 F5x2 C5j0 F5j0 C5j1 F5j1 C5j2 F5j2 C5y0 F5y0 C5y1 F5y1 C5y2 F5y2 C5i0 F5i0 C5i1 F5i1 C5i2 F5i2
    have l6a : w.heap.size < w6.heap.size := by omega
    have l6b : w.heap.size + 1 < w6.heap.size := by omega
    have l6g : w1.heap.size < w6.heap.size := by omega
    have l6x : w2.heap.size < w6.heap.size := by omega
    have l6j : w2.heap.size + 1 < w6.heap.size := by omega
    have l6y : w3.heap.size < w6.heap.size := by omega
    have l6i : w3.heap.size + 1 < w6.heap.size := by omega
    go_wp2_with fail
    exact bodyPost_ret (v := .tuple #[.int .i64 p, .int .i64 q, .bool (false && qo)]) (by simp [results, Tryd.results34, go_sem]) rfl ⟨rfl, (by repeat (first | (with_reducible exact Ext.refl _) | (with_reducible assumption) | (with_reducible refine Ext.alloc ?_ _) | (with_reducible refine Ext.drewN ?_ _) | (with_reducible refine Ext.drew ?_) | (with_reducible refine Ext.setCell ?_ (by simp <;> omega) _)))⟩
  · go_enter Tryd.func34, Tryd.ntmps34
    go_wp2_with fail
    refine (HG.out _).mono ?_
    rintro e w1 ⟨rfl, hx⟩
    have fs1 : w.heap.size + 1 + 1 ≤ w1.heap.size := by simpa using hx.size
    obtain ⟨fc, ff⟩ := And.intro hx.cells hx.marks
    have C1a0 : w1.cell? ⟨w.heap.size, 0, none⟩ = some (Value.bool false) := by rw [fc _ _ (by first | omega | (simp; omega) | simp)]; simp [go_sem, *]
    have F1a0 : w1.frozen? ⟨w.heap.size, 0, none⟩ = false := by rw [ff _ _ (by first | omega | (simp; omega) | simp)]; simp [go_sem, *]
    have C1a1 : w1.cell? ⟨w.heap.size, 1, none⟩ = some (Value.int IntKind.u64 mh) := by rw [fc _ _ (by first | omega | (simp; omega) | simp)]; simp [go_sem, *]
    have F1a1 : w1.frozen? ⟨w.heap.size, 1, none⟩ = false := by rw [ff _ _ (by first | omega | (simp; omega) | simp)]; simp [go_sem, *]
    have C1a2 : w1.cell? ⟨w.heap.size, 2, none⟩ = some (Value.int IntKind.u64 ml) := by rw [fc _ _ (by first | omega | (simp; omega) | simp)]; simp [go_sem, *]
    have F1a2 : w1.frozen? ⟨w.heap.size, 2, none⟩ = false := by rw [ff _ _ (by first | omega | (simp; omega) | simp)]; simp [go_sem, *]
    have C1b0 : w1.cell? ⟨w.heap.size + 1, 0, none⟩ = some (Value.bool true) := by rw [fc _ _ (by first | omega | (simp; omega) | simp)]; simp [go_sem, *]
    have F1b0 : w1.frozen? ⟨w.heap.size + 1, 0, none⟩ = false := by rw [ff _ _ (by first | omega | (simp; omega) | simp)]; simp [go_sem, *]
    have C1b1 : w1.cell? ⟨w.heap.size + 1, 1, none⟩ = some (Value.int IntKind.u64 nh) := by rw [fc _ _ (by first | omega | (simp; omega) | simp)]; simp [go_sem, *]
    have F1b1 : w1.frozen? ⟨w.heap.size + 1, 1, none⟩ = false := by rw [ff _ _ (by first | omega | (simp; omega) | simp)]; simp [go_sem, *]
    have C1b2 : w1.cell? ⟨w.heap.size + 1, 2, none⟩ = some (Value.int IntKind.u64 nl) := by rw [fc _ _ (by first | omega | (simp; omega) | simp)]; simp [go_sem, *]
    have F1b2 : w1.frozen? ⟨w.heap.size + 1, 2, none⟩ = false := by rw [ff _ _ (by first | omega | (simp; omega) | simp)]; simp [go_sem, *]
    clear fc ff
    have X1 : Ext w w1 := Ext.trans (by repeat (first | (with_reducible exact Ext.refl _) | (with_reducible assumption) | (with_reducible refine Ext.alloc ?_ _) | (with_reducible refine Ext.drewN ?_ _) | (with_reducible refine Ext.drew ?_) | (with_reducible refine Ext.setCell ?_ (by simp <;> omega) _))) hx
    clear hx 
    have l1a : w.heap.size < w1.heap.size := by omega
    have l1b : w.heap.size + 1 < w1.heap.size := by omega
    go_wp2_with fail
    refine (HD1.out _).mono ?_
    rintro e w2 ⟨rfl, hx⟩
    have fs2 : w1.heap.size + 1 ≤ w2.heap.size := by simpa using hx.size
    obtain ⟨fc, ff⟩ := And.intro hx.cells hx.marks
    have C2a0 : w2.cell? ⟨w.heap.size, 0, none⟩ = some (Value.bool false) := by rw [fc _ _ (by first | omega | (simp; omega) | simp)]; simp [go_sem, *]
    have F2a0 : w2.frozen? ⟨w.heap.size, 0, none⟩ = false := by rw [ff _ _ (by first | omega | (simp; omega) | simp)]; simp [go_sem, *]
    have C2a1 : w2.cell? ⟨w.heap.size, 1, none⟩ = some (Value.int IntKind.u64 mh) := by rw [fc _ _ (by first | omega | (simp; omega) | simp)]; simp [go_sem, *]
    have F2a1 : w2.frozen? ⟨w.heap.size, 1, none⟩ = false := by rw [ff _ _ (by first | omega | (simp; omega) | simp)]; simp [go_sem, *]
    have C2a2 : w2.cell? ⟨w.heap.size, 2, none⟩ = some (Value.int IntKind.u64 ml) := by rw [fc _ _ (by first | omega | (simp; omega) | simp)]; simp [go_sem, *]
    have F2a2 : w2.frozen? ⟨w.heap.size, 2, none⟩ = false := by rw [ff _ _ (by first | omega | (simp; omega) | simp)]; simp [go_sem, *]
    have C2b0 : w2.cell? ⟨w.heap.size + 1, 0, none⟩ = some (Value.bool true) := by rw [fc _ _ (by first | omega | (simp; omega) | simp)]; simp [go_sem, *]
    have F2b0 : w2.frozen? ⟨w.heap.size + 1, 0, none⟩ = false := by rw [ff _ _ (by first | omega | (simp; omega) | simp)]; simp [go_sem, *]
    have C2b1 : w2.cell? ⟨w.heap.size + 1, 1, none⟩ = some (Value.int IntKind.u64 nh) := by rw [fc _ _ (by first | omega | (simp; omega) | simp)]; simp [go_sem, *]
    have F2b1 : w2.frozen? ⟨w.heap.size + 1, 1, none⟩ = false := by rw [ff _ _ (by first | omega | (simp; omega) | simp)]; simp [go_sem, *]
    have C2b2 : w2.cell? ⟨w.heap.size + 1, 2, none⟩ = some (Value.int IntKind.u64 nl) := by rw [fc _ _ (by first | omega | (simp; omega) | simp)]; simp [go_sem, *]
    have F2b2 : w2.frozen? ⟨w.heap.size + 1, 2, none⟩ = false := by rw [ff _ _ (by first | omega | (simp; omega) | simp)]; simp [go_sem, *]
    have C2g0 : w2.cell? ⟨w1.heap.size, 0, none⟩ = some (Value.bool false) := by rw [fc _ _ (by first | omega | (simp; omega) | simp)]; simp [go_sem, *]
    have F2g0 : w2.frozen? ⟨w1.heap.size, 0, none⟩ = false := by rw [ff _ _ (by first | omega | (simp; omega) | simp)]; simp [go_sem, *]
    have C2g1 : w2.cell? ⟨w1.heap.size, 1, none⟩ = some (Value.int IntKind.u64 gh) := by rw [fc _ _ (by first | omega | (simp; omega) | simp)]; simp [go_sem, *]
    have F2g1 : w2.frozen? ⟨w1.heap.size, 1, none⟩ = false := by rw [ff _ _ (by first | omega | (simp; omega) | simp)]; simp [go_sem, *]
    have C2g2 : w2.cell? ⟨w1.heap.size, 2, none⟩ = some (Value.int IntKind.u64 gl) := by rw [fc _ _ (by first | omega | (simp; omega) | simp)]; simp [go_sem, *]
    have F2g2 : w2.frozen? ⟨w1.heap.size, 2, none⟩ = false := by rw [ff _ _ (by first | omega | (simp; omega) | simp)]; simp [go_sem, *]
    clear fc ff
    have X2 : Ext w w2 := Ext.trans (by repeat (first | (with_reducible exact Ext.refl _) | (with_reducible assumption) | (with_reducible refine Ext.alloc ?_ _) | (with_reducible refine Ext.drewN ?_ _) | (with_reducible refine Ext.drew ?_) | (with_reducible refine Ext.setCell ?_ (by simp <;> omega) _))) hx
    clear hx X1 C1a0 F1a0 C1a1 F1a1 C1a2 F1a2 C1b0 F1b0 C1b1 F1b1 C1b2 F1b2
    have l2a : w.heap.size < w2.heap.size := by omega
    have l2b : w.heap.size + 1 < w2.heap.size := by omega
    have l2g : w1.heap.size < w2.heap.size := by omega
    go_wp2_with fail
    refine (HD2.out _).mono ?_
    rintro e w3 ⟨rfl, hx⟩
    have fs3 : w2.heap.size + 1 + 1 ≤ w3.heap.size := by simpa using hx.size
    obtain ⟨fc, ff⟩ := And.intro hx.cells hx.marks
    have C3a0 : w3.cell? ⟨w.heap.size, 0, none⟩ = some (Value.bool false) := by rw [fc _ _ (by first | omega | (simp; omega) | simp)]; simp [go_sem, *]
    have F3a0 : w3.frozen? ⟨w.heap.size, 0, none⟩ = false := by rw [ff _ _ (by first | omega | (simp; omega) | simp)]; simp [go_sem, *]
    have C3a1 : w3.cell? ⟨w.heap.size, 1, none⟩ = some (Value.int IntKind.u64 mh) := by rw [fc _ _ (by first | omega | (simp; omega) | simp)]; simp [go_sem, *]
    have F3a1 : w3.frozen? ⟨w.heap.size, 1, none⟩ = false := by rw [ff _ _ (by first | omega | (simp; omega) | simp)]; simp [go_sem, *]
    have C3a2 : w3.cell? ⟨w.heap.size, 2, none⟩ = some (Value.int IntKind.u64 ml) := by rw [fc _ _ (by first | omega | (simp; omega) | simp)]; simp [go_sem, *]
    have F3a2 : w3.frozen? ⟨w.heap.size, 2, none⟩ = false := by rw [ff _ _ (by first | omega | (simp; omega) | simp)]; simp [go_sem, *]
    have C3b0 : w3.cell? ⟨w.heap.size + 1, 0, none⟩ = some (Value.bool true) := by rw [fc _ _ (by first | omega | (simp; omega) | simp)]; simp [go_sem, *]
    have F3b0 : w3.frozen? ⟨w.heap.size + 1, 0, none⟩ = false := by rw [ff _ _ (by first | omega | (simp; omega) | simp)]; simp [go_sem, *]
    have C3b1 : w3.cell? ⟨w.heap.size + 1, 1, none⟩ = some (Value.int IntKind.u64 nh) := by rw [fc _ _ (by first | omega | (simp; omega) | simp)]; simp [go_sem, *]
    have F3b1 : w3.frozen? ⟨w.heap.size + 1, 1, none⟩ = false := by rw [ff _ _ (by first | omega | (simp; omega) | simp)]; simp [go_sem, *]
    have C3b2 : w3.cell? ⟨w.heap.size + 1, 2, none⟩ = some (Value.int IntKind.u64 nl) := by rw [fc _ _ (by first | omega | (simp; omega) | simp)]; simp [go_sem, *]
    have F3b2 : w3.frozen? ⟨w.heap.size + 1, 2, none⟩ = false := by rw [ff _ _ (by first | omega | (simp; omega) | simp)]; simp [go_sem, *]
    have C3g0 : w3.cell? ⟨w1.heap.size, 0, none⟩ = some (Value.bool false) := by rw [fc _ _ (by first | omega | (simp; omega) | simp)]; simp [go_sem, *]
    have F3g0 : w3.frozen? ⟨w1.heap.size, 0, none⟩ = false := by rw [ff _ _ (by first | omega | (simp; omega) | simp)]; simp [go_sem, *]
    have C3g1 : w3.cell? ⟨w1.heap.size, 1, none⟩ = some (Value.int IntKind.u64 gh) := by rw [fc _ _ (by first | omega | (simp; omega) | simp)]; simp [go_sem, *]
    have F3g1 : w3.frozen? ⟨w1.heap.size, 1, none⟩ = false := by rw [ff _ _ (by first | omega | (simp; omega) | simp)]; simp [go_sem, *]
    have C3g2 : w3.cell? ⟨w1.heap.size, 2, none⟩ = some (Value.int IntKind.u64 gl) := by rw [fc _ _ (by first | omega | (simp; omega) | simp)]; simp [go_sem, *]
    have F3g2 : w3.frozen? ⟨w1.heap.size, 2, none⟩ = false := by rw [ff _ _ (by first | omega | (simp; omega) | simp)]; simp [go_sem, *]
    have C3x0 : w3.cell? ⟨w2.heap.size, 0, none⟩ = some (Value.bool false) := by rw [fc _ _ (by first | omega | (simp; omega) | simp)]; simp [go_sem, *]
    have F3x0 : w3.frozen? ⟨w2.heap.size, 0, none⟩ = false := by rw [ff _ _ (by first | omega | (simp; omega) | simp)]; simp [go_sem, *]
    have C3x1 : w3.cell? ⟨w2.heap.size, 1, none⟩ = some (Value.int IntKind.u64 xh) := by rw [fc _ _ (by first | omega | (simp; omega) | simp)]; simp [go_sem, *]
    have F3x1 : w3.frozen? ⟨w2.heap.size, 1, none⟩ = false := by rw [ff _ _ (by first | omega | (simp; omega) | simp)]; simp [go_sem, *]
    have C3x2 : w3.cell? ⟨w2.heap.size, 2, none⟩ = some (Value.int IntKind.u64 xl) := by rw [fc _ _ (by first | omega | (simp; omega) | simp)]; simp [go_sem, *]
    have F3x2 : w3.frozen? ⟨w2.heap.size, 2, none⟩ = false := by rw [ff _ _ (by first | omega | (simp; omega) | simp)]; simp [go_sem, *]
    have C3j0 : w3.cell? ⟨w2.heap.size + 1, 0, none⟩ = some (Value.bool false) := by rw [fc _ _ (by first | omega | (simp; omega) | simp)]; simp [go_sem, *]
    have F3j0 : w3.frozen? ⟨w2.heap.size + 1, 0, none⟩ = false := by rw [ff _ _ (by first | omega | (simp; omega) | simp)]; simp [go_sem, *]
    have C3j1 : w3.cell? ⟨w2.heap.size + 1, 1, none⟩ = some (Value.int IntKind.u64 j1) := by rw [fc _ _ (by first | omega | (simp; omega) | simp)]; simp [go_sem, *]
    have F3j1 : w3.frozen? ⟨w2.heap.size + 1, 1, none⟩ = false := by rw [ff _ _ (by first | omega | (simp; omega) | simp)]; simp [go_sem, *]
    have C3j2 : w3.cell? ⟨w2.heap.size + 1, 2, none⟩ = some (Value.int IntKind.u64 j2) := by rw [fc _ _ (by first | omega | (simp; omega) | simp)]; simp [go_sem, *]
    have F3j2 : w3.frozen? ⟨w2.heap.size + 1, 2, none⟩ = false := by rw [ff _ _ (by first | omega | (simp; omega) | simp)]; simp [go_sem, *]
    clear fc ff
    have X3 : Ext w w3 := Ext.trans (by repeat (first | (with_reducible exact Ext.refl _) | (with_reducible assumption) | (with_reducible refine Ext.alloc ?_ _) | (with_reducible refine Ext.drewN ?_ _) | (with_reducible refine Ext.drew ?_) | (with_reducible refine Ext.setCell ?_ (by simp <;> omega) _))) hx
    clear hx X2 C2a0 F2a0 C2a1 F2a1 C2a2 F2a2 C2b0 F2b0 C2b1 F2b1 C2b2 F2b2 C2g0 F2g0 C2g1 F2g1 C2g2 F2g2
    have l3a : w.heap.size < w3.heap.size := by omega
    have l3b : w.heap.size + 1 < w3.heap.size := by omega
    have l3g : w1.heap.size < w3.heap.size := by omega
    have l3x : w2.heap.size < w3.heap.size := by omega
    have l3j : w2.heap.size + 1 < w3.heap.size := by omega
    go_wp2_with fail
    refine (HZ.out _).mono ?_
    rintro e w4 ⟨rfl, hx⟩
    have fs4 : w3.heap.size + 1 + 1 ≤ w4.heap.size := by simpa using hx.size
    obtain ⟨fc, ff⟩ := And.intro hx.cells hx.marks
    have C4a0 : w4.cell? ⟨w.heap.size, 0, none⟩ = some (Value.bool false) := by rw [fc _ _ (by first | omega | (simp; omega) | simp)]; simp [go_sem, *]
    have F4a0 : w4.frozen? ⟨w.heap.size, 0, none⟩ = false := by rw [ff _ _ (by first | omega | (simp; omega) | simp)]; simp [go_sem, *]
    have C4a1 : w4.cell? ⟨w.heap.size, 1, none⟩ = some (Value.int IntKind.u64 mh) := by rw [fc _ _ (by first | omega | (simp; omega) | simp)]; simp [go_sem, *]
    have F4a1 : w4.frozen? ⟨w.heap.size, 1, none⟩ = false := by rw [ff _ _ (by first | omega | (simp; omega) | simp)]; simp [go_sem, *]
    have C4a2 : w4.cell? ⟨w.heap.size, 2, none⟩ = some (Value.int IntKind.u64 ml) := by rw [fc _ _ (by first | omega | (simp; omega) | simp)]; simp [go_sem, *]
    have F4a2 : w4.frozen? ⟨w.heap.size, 2, none⟩ = false := by rw [ff _ _ (by first | omega | (simp; omega) | simp)]; simp [go_sem, *]
    have C4b0 : w4.cell? ⟨w.heap.size + 1, 0, none⟩ = some (Value.bool true) := by rw [fc _ _ (by first | omega | (simp; omega) | simp)]; simp [go_sem, *]
    have F4b0 : w4.frozen? ⟨w.heap.size + 1, 0, none⟩ = false := by rw [ff _ _ (by first | omega | (simp; omega) | simp)]; simp [go_sem, *]
    have C4b1 : w4.cell? ⟨w.heap.size + 1, 1, none⟩ = some (Value.int IntKind.u64 nh) := by rw [fc _ _ (by first | omega | (simp; omega) | simp)]; simp [go_sem, *]
    have F4b1 : w4.frozen? ⟨w.heap.size + 1, 1, none⟩ = false := by rw [ff _ _ (by first | omega | (simp; omega) | simp)]; simp [go_sem, *]
    have C4b2 : w4.cell? ⟨w.heap.size + 1, 2, none⟩ = some (Value.int IntKind.u64 nl) := by rw [fc _ _ (by first | omega | (simp; omega) | simp)]; simp [go_sem, *]
    have F4b2 : w4.frozen? ⟨w.heap.size + 1, 2, none⟩ = false := by rw [ff _ _ (by first | omega | (simp; omega) | simp)]; simp [go_sem, *]
    have C4g0 : w4.cell? ⟨w1.heap.size, 0, none⟩ = some (Value.bool false) := by rw [fc _ _ (by first | omega | (simp; omega) | simp)]; simp [go_sem, *]
    have F4g0 : w4.frozen? ⟨w1.heap.size, 0, none⟩ = false := by rw [ff _ _ (by first | omega | (simp; omega) | simp)]; simp [go_sem, *]
    have C4g1 : w4.cell? ⟨w1.heap.size, 1, none⟩ = some (Value.int IntKind.u64 gh) := by rw [fc _ _ (by first | omega | (simp; omega) | simp)]; simp [go_sem, *]
    have F4g1 : w4.frozen? ⟨w1.heap.size, 1, none⟩ = false := by rw [ff _ _ (by first | omega | (simp; omega) | simp)]; simp [go_sem, *]
    have C4g2 : w4.cell? ⟨w1.heap.size, 2, none⟩ = some (Value.int IntKind.u64 gl) := by rw [fc _ _ (by first | omega | (simp; omega) | simp)]; simp [go_sem, *]
    have F4g2 : w4.frozen? ⟨w1.heap.size, 2, none⟩ = false := by rw [ff _ _ (by first | omega | (simp; omega) | simp)]; simp [go_sem, *]
    have C4x0 : w4.cell? ⟨w2.heap.size, 0, none⟩ = some (Value.bool false) := by rw [fc _ _ (by first | omega | (simp; omega) | simp)]; simp [go_sem, *]
    have F4x0 : w4.frozen? ⟨w2.heap.size, 0, none⟩ = false := by rw [ff _ _ (by first | omega | (simp; omega) | simp)]; simp [go_sem, *]
    have C4x1 : w4.cell? ⟨w2.heap.size, 1, none⟩ = some (Value.int IntKind.u64 xh) := by rw [fc _ _ (by first | omega | (simp; omega) | simp)]; simp [go_sem, *]
    have F4x1 : w4.frozen? ⟨w2.heap.size, 1, none⟩ = false := by rw [ff _ _ (by first | omega | (simp; omega) | simp)]; simp [go_sem, *]
    have C4x2 : w4.cell? ⟨w2.heap.size, 2, none⟩ = some (Value.int IntKind.u64 xl) := by rw [fc _ _ (by first | omega | (simp; omega) | simp)]; simp [go_sem, *]
    have F4x2 : w4.frozen? ⟨w2.heap.size, 2, none⟩ = false := by rw [ff _ _ (by first | omega | (simp; omega) | simp)]; simp [go_sem, *]
    have C4j0 : w4.cell? ⟨w2.heap.size + 1, 0, none⟩ = some (Value.bool false) := by rw [fc _ _ (by first | omega | (simp; omega) | simp)]; simp [go_sem, *]
    have F4j0 : w4.frozen? ⟨w2.heap.size + 1, 0, none⟩ = false := by rw [ff _ _ (by first | omega | (simp; omega) | simp)]; simp [go_sem, *]
    have C4j1 : w4.cell? ⟨w2.heap.size + 1, 1, none⟩ = some (Value.int IntKind.u64 j1) := by rw [fc _ _ (by first | omega | (simp; omega) | simp)]; simp [go_sem, *]
    have F4j1 : w4.frozen? ⟨w2.heap.size + 1, 1, none⟩ = false := by rw [ff _ _ (by first | omega | (simp; omega) | simp)]; simp [go_sem, *]
    have C4j2 : w4.cell? ⟨w2.heap.size + 1, 2, none⟩ = some (Value.int IntKind.u64 j2) := by rw [fc _ _ (by first | omega | (simp; omega) | simp)]; simp [go_sem, *]
    have F4j2 : w4.frozen? ⟨w2.heap.size + 1, 2, none⟩ = false := by rw [ff _ _ (by first | omega | (simp; omega) | simp)]; simp [go_sem, *]
    have C4y0 : w4.cell? ⟨w3.heap.size, 0, none⟩ = some (Value.bool false) := by rw [fc _ _ (by first | omega | (simp; omega) | simp)]; simp [go_sem, *]
    have F4y0 : w4.frozen? ⟨w3.heap.size, 0, none⟩ = false := by rw [ff _ _ (by first | omega | (simp; omega) | simp)]; simp [go_sem, *]
    have C4y1 : w4.cell? ⟨w3.heap.size, 1, none⟩ = some (Value.int IntKind.u64 yh) := by rw [fc _ _ (by first | omega | (simp; omega) | simp)]; simp [go_sem, *]
    have F4y1 : w4.frozen? ⟨w3.heap.size, 1, none⟩ = false := by rw [ff _ _ (by first | omega | (simp; omega) | simp)]; simp [go_sem, *]
    have C4y2 : w4.cell? ⟨w3.heap.size, 2, none⟩ = some (Value.int IntKind.u64 yl) := by rw [fc _ _ (by first | omega | (simp; omega) | simp)]; simp [go_sem, *]
    have F4y2 : w4.frozen? ⟨w3.heap.size, 2, none⟩ = false := by rw [ff _ _ (by first | omega | (simp; omega) | simp)]; simp [go_sem, *]
    have C4i0 : w4.cell? ⟨w3.heap.size + 1, 0, none⟩ = some (Value.bool false) := by rw [fc _ _ (by first | omega | (simp; omega) | simp)]; simp [go_sem, *]
    have F4i0 : w4.frozen? ⟨w3.heap.size + 1, 0, none⟩ = false := by rw [ff _ _ (by first | omega | (simp; omega) | simp)]; simp [go_sem, *]
    have C4i1 : w4.cell? ⟨w3.heap.size + 1, 1, none⟩ = some (Value.int IntKind.u64 j3) := by rw [fc _ _ (by first | omega | (simp; omega) | simp)]; simp [go_sem, *]
    have F4i1 : w4.frozen? ⟨w3.heap.size + 1, 1, none⟩ = false := by rw [ff _ _ (by first | omega | (simp; omega) | simp)]; simp [go_sem, *]
    have C4i2 : w4.cell? ⟨w3.heap.size + 1, 2, none⟩ = some (Value.int IntKind.u64 j4) := by rw [fc _ _ (by first | omega | (simp; omega) | simp)]; simp [go_sem, *]
    have F4i2 : w4.frozen? ⟨w3.heap.size + 1, 2, none⟩ = false := by rw [ff _ _ (by first | omega | (simp; omega) | simp)]; simp [go_sem, *]
    clear fc ff
    have X4 : Ext w w4 := Ext.trans (by repeat (first | (with_reducible exact Ext.refl _) | (with_reducible assumption) | (with_reducible refine Ext.alloc ?_ _) | (with_reducible refine Ext.drewN ?_ _) | (with_reducible refine Ext.drew ?_) | (with_reducible refine Ext.setCell ?_ (by simp <;> omega) _))) hx
    clear hx X3 C3a0 F3a0 C3a1 F3a1 C3a2 F3a2 C3b0 F3b0 C3b1 F3b1 C3b2 F3b2 C3g0 F3g0 C3g1 F3g1 C3g2 F3g2 C3x0 F3x0 C3x1 F3x1 C3x2 F3x2 C3j0 F3j0 C3j1 F3j1 C3j2 F3j2
    have l4a : w.heap.size < w4.heap.size := by omega
    have l4b : w.heap.size + 1 < w4.heap.size := by omega
    have l4g : w1.heap.size < w4.heap.size := by omega
    have l4x : w2.heap.size < w4.heap.size := by omega
    have l4j : w2.heap.size + 1 < w4.heap.size := by omega
    have l4y : w3.heap.size < w4.heap.size := by omega
    have l4i : w3.heap.size + 1 < w4.heap.size := by omega
    go_wp2_with fail
    refine (HN1.out _).mono ?_
    rintro e w5 ⟨rfl, hx⟩
    have fs5 : w4.heap.size ≤ w5.heap.size := by simpa using hx.size
    obtain ⟨fc, ff⟩ := And.intro hx.cells hx.marks
    have C5a0 : w5.cell? ⟨w.heap.size, 0, none⟩ = some (Value.bool false) := by rw [fc _ _ (by first | omega | (simp; omega) | simp)]; simp [go_sem, *]
    have F5a0 : w5.frozen? ⟨w.heap.size, 0, none⟩ = false := by rw [ff _ _ (by first | omega | (simp; omega) | simp)]; simp [go_sem, *]
    have C5a1 : w5.cell? ⟨w.heap.size, 1, none⟩ = some (Value.int IntKind.u64 mh) := by rw [fc _ _ (by first | omega | (simp; omega) | simp)]; simp [go_sem, *]
    have F5a1 : w5.frozen? ⟨w.heap.size, 1, none⟩ = false := by rw [ff _ _ (by first | omega | (simp; omega) | simp)]; simp [go_sem, *]
    have C5a2 : w5.cell? ⟨w.heap.size, 2, none⟩ = some (Value.int IntKind.u64 ml) := by rw [fc _ _ (by first | omega | (simp; omega) | simp)]; simp [go_sem, *]
    have F5a2 : w5.frozen? ⟨w.heap.size, 2, none⟩ = false := by rw [ff _ _ (by first | omega | (simp; omega) | simp)]; simp [go_sem, *]
    have C5b0 : w5.cell? ⟨w.heap.size + 1, 0, none⟩ = some (Value.bool true) := by rw [fc _ _ (by first | omega | (simp; omega) | simp)]; simp [go_sem, *]
    have F5b0 : w5.frozen? ⟨w.heap.size + 1, 0, none⟩ = false := by rw [ff _ _ (by first | omega | (simp; omega) | simp)]; simp [go_sem, *]
    have C5b1 : w5.cell? ⟨w.heap.size + 1, 1, none⟩ = some (Value.int IntKind.u64 nh) := by rw [fc _ _ (by first | omega | (simp; omega) | simp)]; simp [go_sem, *]
    have F5b1 : w5.frozen? ⟨w.heap.size + 1, 1, none⟩ = false := by rw [ff _ _ (by first | omega | (simp; omega) | simp)]; simp [go_sem, *]
    have C5b2 : w5.cell? ⟨w.heap.size + 1, 2, none⟩ = some (Value.int IntKind.u64 nl) := by rw [fc _ _ (by first | omega | (simp; omega) | simp)]; simp [go_sem, *]
    have F5b2 : w5.frozen? ⟨w.heap.size + 1, 2, none⟩ = false := by rw [ff _ _ (by first | omega | (simp; omega) | simp)]; simp [go_sem, *]
    have C5g0 : w5.cell? ⟨w1.heap.size, 0, none⟩ = some (Value.bool false) := by rw [fc _ _ (by first | omega | (simp; omega) | simp)]; simp [go_sem, *]
    have F5g0 : w5.frozen? ⟨w1.heap.size, 0, none⟩ = false := by rw [ff _ _ (by first | omega | (simp; omega) | simp)]; simp [go_sem, *]
    have C5g1 : w5.cell? ⟨w1.heap.size, 1, none⟩ = some (Value.int IntKind.u64 gh) := by rw [fc _ _ (by first | omega | (simp; omega) | simp)]; simp [go_sem, *]
    have F5g1 : w5.frozen? ⟨w1.heap.size, 1, none⟩ = false := by rw [ff _ _ (by first | omega | (simp; omega) | simp)]; simp [go_sem, *]
    have C5g2 : w5.cell? ⟨w1.heap.size, 2, none⟩ = some (Value.int IntKind.u64 gl) := by rw [fc _ _ (by first | omega | (simp; omega) | simp)]; simp [go_sem, *]
    have F5g2 : w5.frozen? ⟨w1.heap.size, 2, none⟩ = false := by rw [ff _ _ (by first | omega | (simp; omega) | simp)]; simp [go_sem, *]
    have C5x0 : w5.cell? ⟨w2.heap.size, 0, none⟩ = some (Value.bool (!mz)) := by rw [fc _ _ (by first | omega | (simp; omega) | simp)]; simp [go_sem, *]
    have F5x0 : w5.frozen? ⟨w2.heap.size, 0, none⟩ = false := by rw [ff _ _ (by first | omega | (simp; omega) | simp)]; simp [go_sem, *]
    have C5x1 : w5.cell? ⟨w2.heap.size, 1, none⟩ = some (Value.int IntKind.u64 xh) := by rw [fc _ _ (by first | omega | (simp; omega) | simp)]; simp [go_sem, *]
    have F5x1 : w5.frozen? ⟨w2.heap.size, 1, none⟩ = false := by rw [ff _ _ (by first | omega | (simp; omega) | simp)]; simp [go_sem, *]
    have C5x2 : w5.cell? ⟨w2.heap.size, 2, none⟩ = some (Value.int IntKind.u64 xl) := by rw [fc _ _ (by first | omega | (simp; omega) | simp)]; simp [go_sem, *]
    have F5x2 : w5.frozen? ⟨w2.heap.size, 2, none⟩ = false := by rw [ff _ _ (by first | omega | (simp; omega) | simp)]; simp [go_sem, *]
    have C5j0 : w5.cell? ⟨w2.heap.size + 1, 0, none⟩ = some (Value.bool false) := by rw [fc _ _ (by first | omega | (simp; omega) | simp)]; simp [go_sem, *]
    have F5j0 : w5.frozen? ⟨w2.heap.size + 1, 0, none⟩ = false := by rw [ff _ _ (by first | omega | (simp; omega) | simp)]; simp [go_sem, *]
    have C5j1 : w5.cell? ⟨w2.heap.size + 1, 1, none⟩ = some (Value.int IntKind.u64 j1) := by rw [fc _ _ (by first | omega | (simp; omega) | simp)]; simp [go_sem, *]
    have F5j1 : w5.frozen? ⟨w2.heap.size + 1, 1, none⟩ = false := by rw [ff _ _ (by first | omega | (simp; omega) | simp)]; simp [go_sem, *]
    have C5j2 : w5.cell? ⟨w2.heap.size + 1, 2, none⟩ = some (Value.int IntKind.u64 j2) := by rw [fc _ _ (by first | omega | (simp; omega) | simp)]; simp [go_sem, *]
    have F5j2 : w5.frozen? ⟨w2.heap.size + 1, 2, none⟩ = false := by rw [ff _ _ (by first | omega | (simp; omega) | simp)]; simp [go_sem, *]
    have C5y0 : w5.cell? ⟨w3.heap.size, 0, none⟩ = some (Value.bool false) := by rw [fc _ _ (by first | omega | (simp; omega) | simp)]; simp [go_sem, *]
    have F5y0 : w5.frozen? ⟨w3.heap.size, 0, none⟩ = false := by rw [ff _ _ (by first | omega | (simp; omega) | simp)]; simp [go_sem, *]
    have C5y1 : w5.cell? ⟨w3.heap.size, 1, none⟩ = some (Value.int IntKind.u64 yh) := by rw [fc _ _ (by first | omega | (simp; omega) | simp)]; simp [go_sem, *]
    have F5y1 : w5.frozen? ⟨w3.heap.size, 1, none⟩ = false := by rw [ff _ _ (by first | omega | (simp; omega) | simp)]; simp [go_sem, *]
    have C5y2 : w5.cell? ⟨w3.heap.size, 2, none⟩ = some (Value.int IntKind.u64 yl) := by rw [fc _ _ (by first | omega | (simp; omega) | simp)]; simp [go_sem, *]
    have F5y2 : w5.frozen? ⟨w3.heap.size, 2, none⟩ = false := by rw [ff _ _ (by first | omega | (simp; omega) | simp)]; simp [go_sem, *]
    have C5i0 : w5.cell? ⟨w3.heap.size + 1, 0, none⟩ = some (Value.bool false) := by rw [fc _ _ (by first | omega | (simp; omega) | simp)]; simp [go_sem, *]
    have F5i0 : w5.frozen? ⟨w3.heap.size + 1, 0, none⟩ = false := by rw [ff _ _ (by first | omega | (simp; omega) | simp)]; simp [go_sem, *]
    have C5i1 : w5.cell? ⟨w3.heap.size + 1, 1, none⟩ = some (Value.int IntKind.u64 j3) := by rw [fc _ _ (by first | omega | (simp; omega) | simp)]; simp [go_sem, *]
    have F5i1 : w5.frozen? ⟨w3.heap.size + 1, 1, none⟩ = false := by rw [ff _ _ (by first | omega | (simp; omega) | simp)]; simp [go_sem, *]
    have C5i2 : w5.cell? ⟨w3.heap.size + 1, 2, none⟩ = some (Value.int IntKind.u64 j4) := by rw [fc _ _ (by first | omega | (simp; omega) | simp)]; simp [go_sem, *]
    have F5i2 : w5.frozen? ⟨w3.heap.size + 1, 2, none⟩ = false := by rw [ff _ _ (by first | omega | (simp; omega) | simp)]; simp [go_sem, *]
    clear fc ff
    have X5 : Ext w w5 := Ext.trans (by repeat (first | (with_reducible exact Ext.refl _) | (with_reducible assumption) | (with_reducible refine Ext.alloc ?_ _) | (with_reducible refine Ext.drewN ?_ _) | (with_reducible refine Ext.drew ?_) | (with_reducible refine Ext.setCell ?_ (by simp <;> omega) _))) hx
    clear hx X4 C4a0 F4a0 C4a1 F4a1 C4a2 F4a2 C4b0 F4b0 C4b1 F4b1 C4b2 F4b2 C4g0 F4g0 C4g1 F4g1 C4g2 F4g2 C4x0 F4x0 C4x1 F4x1 C4x2 F4x2 C4j0 F4j0 C4j1 F4j1 C4j2 F4j2 C4y0 F4y0 C4y1 F4y1 C4y2 F4y2 C4i0 F4i0 C4i1 F4i1 C4i2 F4i2
    have l5a : w.heap.size < w5.heap.size := by omega
    have l5b : w.heap.size + 1 < w5.heap.size := by omega
    have l5g : w1.heap.size < w5.heap.size := by omega
    have l5x : w2.heap.size < w5.heap.size := by omega
    have l5j : w2.heap.size + 1 < w5.heap.size := by omega
    have l5y : w3.heap.size < w5.heap.size := by omega
    have l5i : w3.heap.size + 1 < w5.heap.size := by omega
    go_wp2_with fail
    refine (HN2.out _).mono ?_
    rintro e w6 ⟨rfl, hx⟩
    have fs6 : w5.heap.size ≤ w6.heap.size := by simpa using hx.size
    obtain ⟨fc, ff⟩ := And.intro hx.cells hx.marks
    have C6a0 : w6.cell? ⟨w.heap.size, 0, none⟩ = some (Value.bool false) := by rw [fc _ _ (by first | omega | (simp; omega) | simp)]; simp [go_sem, *]
    have F6a0 : w6.frozen? ⟨w.heap.size, 0, none⟩ = false := by rw [ff _ _ (by first | omega | (simp; omega) | simp)]; simp [go_sem, *]
    have C6a1 : w6.cell? ⟨w.heap.size, 1, none⟩ = some (Value.int IntKind.u64 mh) := by rw [fc _ _ (by first | omega | (simp; omega) | simp)]; simp [go_sem, *]
    have F6a1 : w6.frozen? ⟨w.heap.size, 1, none⟩ = false := by rw [ff _ _ (by first | omega | (simp; omega) | simp)]; simp [go_sem, *]
    have C6a2 : w6.cell? ⟨w.heap.size, 2, none⟩ = some (Value.int IntKind.u64 ml) := by rw [fc _ _ (by first | omega | (simp; omega) | simp)]; simp [go_sem, *]
    have F6a2 : w6.frozen? ⟨w.heap.size, 2, none⟩ = false := by rw [ff _ _ (by first | omega | (simp; omega) | simp)]; simp [go_sem, *]
    have C6b0 : w6.cell? ⟨w.heap.size + 1, 0, none⟩ = some (Value.bool true) := by rw [fc _ _ (by first | omega | (simp; omega) | simp)]; simp [go_sem, *]
    have F6b0 : w6.frozen? ⟨w.heap.size + 1, 0, none⟩ = false := by rw [ff _ _ (by first | omega | (simp; omega) | simp)]; simp [go_sem, *]
    have C6b1 : w6.cell? ⟨w.heap.size + 1, 1, none⟩ = some (Value.int IntKind.u64 nh) := by rw [fc _ _ (by first | omega | (simp; omega) | simp)]; simp [go_sem, *]
    have F6b1 : w6.frozen? ⟨w.heap.size + 1, 1, none⟩ = false := by rw [ff _ _ (by first | omega | (simp; omega) | simp)]; simp [go_sem, *]
    have C6b2 : w6.cell? ⟨w.heap.size + 1, 2, none⟩ = some (Value.int IntKind.u64 nl) := by rw [fc _ _ (by first | omega | (simp; omega) | simp)]; simp [go_sem, *]
    have F6b2 : w6.frozen? ⟨w.heap.size + 1, 2, none⟩ = false := by rw [ff _ _ (by first | omega | (simp; omega) | simp)]; simp [go_sem, *]
    have C6g0 : w6.cell? ⟨w1.heap.size, 0, none⟩ = some (Value.bool false) := by rw [fc _ _ (by first | omega | (simp; omega) | simp)]; simp [go_sem, *]
    have F6g0 : w6.frozen? ⟨w1.heap.size, 0, none⟩ = false := by rw [ff _ _ (by first | omega | (simp; omega) | simp)]; simp [go_sem, *]
    have C6g1 : w6.cell? ⟨w1.heap.size, 1, none⟩ = some (Value.int IntKind.u64 gh) := by rw [fc _ _ (by first | omega | (simp; omega) | simp)]; simp [go_sem, *]
    have F6g1 : w6.frozen? ⟨w1.heap.size, 1, none⟩ = false := by rw [ff _ _ (by first | omega | (simp; omega) | simp)]; simp [go_sem, *]
    have C6g2 : w6.cell? ⟨w1.heap.size, 2, none⟩ = some (Value.int IntKind.u64 gl) := by rw [fc _ _ (by first | omega | (simp; omega) | simp)]; simp [go_sem, *]
    have F6g2 : w6.frozen? ⟨w1.heap.size, 2, none⟩ = false := by rw [ff _ _ (by first | omega | (simp; omega) | simp)]; simp [go_sem, *]
    have C6x0 : w6.cell? ⟨w2.heap.size, 0, none⟩ = some (Value.bool (!mz)) := by rw [fc _ _ (by first | omega | (simp; omega) | simp)]; simp [go_sem, *]
    have F6x0 : w6.frozen? ⟨w2.heap.size, 0, none⟩ = false := by rw [ff _ _ (by first | omega | (simp; omega) | simp)]; simp [go_sem, *]
    have C6x1 : w6.cell? ⟨w2.heap.size, 1, none⟩ = some (Value.int IntKind.u64 xh) := by rw [fc _ _ (by first | omega | (simp; omega) | simp)]; simp [go_sem, *]
    have F6x1 : w6.frozen? ⟨w2.heap.size, 1, none⟩ = false := by rw [ff _ _ (by first | omega | (simp; omega) | simp)]; simp [go_sem, *]
    have C6x2 : w6.cell? ⟨w2.heap.size, 2, none⟩ = some (Value.int IntKind.u64 xl) := by rw [fc _ _ (by first | omega | (simp; omega) | simp)]; simp [go_sem, *]
    have F6x2 : w6.frozen? ⟨w2.heap.size, 2, none⟩ = false := by rw [ff _ _ (by first | omega | (simp; omega) | simp)]; simp [go_sem, *]
    have C6j0 : w6.cell? ⟨w2.heap.size + 1, 0, none⟩ = some (Value.bool false) := by rw [fc _ _ (by first | omega | (simp; omega) | simp)]; simp [go_sem, *]
    have F6j0 : w6.frozen? ⟨w2.heap.size + 1, 0, none⟩ = false := by rw [ff _ _ (by first | omega | (simp; omega) | simp)]; simp [go_sem, *]
    have C6j1 : w6.cell? ⟨w2.heap.size + 1, 1, none⟩ = some (Value.int IntKind.u64 j1) := by rw [fc _ _ (by first | omega | (simp; omega) | simp)]; simp [go_sem, *]
    have F6j1 : w6.frozen? ⟨w2.heap.size + 1, 1, none⟩ = false := by rw [ff _ _ (by first | omega | (simp; omega) | simp)]; simp [go_sem, *]
    have C6j2 : w6.cell? ⟨w2.heap.size + 1, 2, none⟩ = some (Value.int IntKind.u64 j2) := by rw [fc _ _ (by first | omega | (simp; omega) | simp)]; simp [go_sem, *]
    have F6j2 : w6.frozen? ⟨w2.heap.size + 1, 2, none⟩ = false := by rw [ff _ _ (by first | omega | (simp; omega) | simp)]; simp [go_sem, *]
    have C6y0 : w6.cell? ⟨w3.heap.size, 0, none⟩ = some (Value.bool false) := by rw [fc _ _ (by first | omega | (simp; omega) | simp)]; simp [go_sem, *]
    have F6y0 : w6.frozen? ⟨w3.heap.size, 0, none⟩ = false := by rw [ff _ _ (by first | omega | (simp; omega) | simp)]; simp [go_sem, *]
    have C6y1 : w6.cell? ⟨w3.heap.size, 1, none⟩ = some (Value.int IntKind.u64 yh) := by rw [fc _ _ (by first | omega | (simp; omega) | simp)]; simp [go_sem, *]
    have F6y1 : w6.frozen? ⟨w3.heap.size, 1, none⟩ = false := by rw [ff _ _ (by first | omega | (simp; omega) | simp)]; simp [go_sem, *]
    have C6y2 : w6.cell? ⟨w3.heap.size, 2, none⟩ = some (Value.int IntKind.u64 yl) := by rw [fc _ _ (by first | omega | (simp; omega) | simp)]; simp [go_sem, *]
    have F6y2 : w6.frozen? ⟨w3.heap.size, 2, none⟩ = false := by rw [ff _ _ (by first | omega | (simp; omega) | simp)]; simp [go_sem, *]
    have C6i0 : w6.cell? ⟨w3.heap.size + 1, 0, none⟩ = some (Value.bool false) := by rw [fc _ _ (by first | omega | (simp; omega) | simp)]; simp [go_sem, *]
    have F6i0 : w6.frozen? ⟨w3.heap.size + 1, 0, none⟩ = false := by rw [ff _ _ (by first | omega | (simp; omega) | simp)]; simp [go_sem, *]
    have C6i1 : w6.cell? ⟨w3.heap.size + 1, 1, none⟩ = some (Value.int IntKind.u64 j3) := by rw [fc _ _ (by first | omega | (simp; omega) | simp)]; simp [go_sem, *]
    have F6i1 : w6.frozen? ⟨w3.heap.size + 1, 1, none⟩ = false := by rw [ff _ _ (by first | omega | (simp; omega) | simp)]; simp [go_sem, *]
    have C6i2 : w6.cell? ⟨w3.heap.size + 1, 2, none⟩ = some (Value.int IntKind.u64 j4) := by rw [fc _ _ (by first | omega | (simp; omega) | simp)]; simp [go_sem, *]
    have F6i2 : w6.frozen? ⟨w3.heap.size + 1, 2, none⟩ = false := by rw [ff _ _ (by first | omega | (simp; omega) | simp)]; simp [go_sem, *]
    clear fc ff
    have X6 : Ext w w6 := Ext.trans (by repeat (first | (with_reducible exact Ext.refl _) | (with_reducible assumption) | (with_reducible refine Ext.alloc ?_ _) | (with_reducible refine Ext.drewN ?_ _) | (with_reducible refine Ext.drew ?_) | (with_reducible refine Ext.setCell ?_ (by simp <;> omega) _))) hx
    clear hx X5 C5a0 F5a0 C5a1 F5a1 C5a2 F5a2 C5b0 F5b0 C5b1 F5b1 C5b2 F5b2 C5g0 F5g0 C5g1 F5g1 C5g2 F5g2 C5x0 F5x0 C5x1 F5x1 C5x2 F5x2 C5j0 F5j0 C5j1 F5j1 C5j2 F5j2 C5y0 F5y0 C5y1 F5y1 C5y2 F5y2 C5i0 F5i0 C5i1 F5i1 C5i2 F5i2
    have l6a : w.heap.size < w6.heap.size := by omega
    have l6b : w.heap.size + 1 < w6.heap.size := by omega
    have l6g : w1.heap.size < w6.heap.size := by omega
    have l6x : w2.heap.size < w6.heap.size := by omega
    have l6j : w2.heap.size + 1 < w6.heap.size := by omega
    have l6y : w3.heap.size < w6.heap.size := by omega
    have l6i : w3.heap.size + 1 < w6.heap.size := by omega
    go_wp2_with fail
    exact bodyPost_ret (v := .tuple #[.int .i64 p, .int .i64 q, .bool (true && qo)]) (by simp [results, Tryd.results34, go_sem]) rfl ⟨rfl, (by repeat (first | (with_reducible exact Ext.refl _) | (with_reducible assumption) | (with_reducible refine Ext.alloc ?_ _) | (with_reducible refine Ext.drewN ?_ _) | (with_reducible refine Ext.drew ?_) | (with_reducible refine Ext.setCell ?_ (by simp <;> omega) _)))⟩
  · go_enter Tryd.func34, Tryd.ntmps34
    go_wp2_with fail
    refine (HG.out _).mono ?_
    rintro e w1 ⟨rfl, hx⟩
    have fs1 : w.heap.size + 1 + 1 ≤ w1.heap.size := by simpa using hx.size
    obtain ⟨fc, ff⟩ := And.intro hx.cells hx.marks
    have C1a0 : w1.cell? ⟨w.heap.size, 0, none⟩ = some (Value.bool true) := by rw [fc _ _ (by first | omega | (simp; omega) | simp)]; simp [go_sem, *]
    have F1a0 : w1.frozen? ⟨w.heap.size, 0, none⟩ = false := by rw [ff _ _ (by first | omega | (simp; omega) | simp)]; simp [go_sem, *]
    have C1a1 : w1.cell? ⟨w.heap.size, 1, none⟩ = some (Value.int IntKind.u64 mh) := by rw [fc _ _ (by first | omega | (simp; omega) | simp)]; simp [go_sem, *]
    have F1a1 : w1.frozen? ⟨w.heap.size, 1, none⟩ = false := by rw [ff _ _ (by first | omega | (simp; omega) | simp)]; simp [go_sem, *]
    have C1a2 : w1.cell? ⟨w.heap.size, 2, none⟩ = some (Value.int IntKind.u64 ml) := by rw [fc _ _ (by first | omega | (simp; omega) | simp)]; simp [go_sem, *]
    have F1a2 : w1.frozen? ⟨w.heap.size, 2, none⟩ = false := by rw [ff _ _ (by first | omega | (simp; omega) | simp)]; simp [go_sem, *]
    have C1b0 : w1.cell? ⟨w.heap.size + 1, 0, none⟩ = some (Value.bool false) := by rw [fc _ _ (by first | omega | (simp; omega) | simp)]; simp [go_sem, *]
    have F1b0 : w1.frozen? ⟨w.heap.size + 1, 0, none⟩ = false := by rw [ff _ _ (by first | omega | (simp; omega) | simp)]; simp [go_sem, *]
    have C1b1 : w1.cell? ⟨w.heap.size + 1, 1, none⟩ = some (Value.int IntKind.u64 nh) := by rw [fc _ _ (by first | omega | (simp; omega) | simp)]; simp [go_sem, *]
    have F1b1 : w1.frozen? ⟨w.heap.size + 1, 1, none⟩ = false := by rw [ff _ _ (by first | omega | (simp; omega) | simp)]; simp [go_sem, *]
    have C1b2 : w1.cell? ⟨w.heap.size + 1, 2, none⟩ = some (Value.int IntKind.u64 nl) := by rw [fc _ _ (by first | omega | (simp; omega) | simp)]; simp [go_sem, *]
    have F1b2 : w1.frozen? ⟨w.heap.size + 1, 2, none⟩ = false := by rw [ff _ _ (by first | omega | (simp; omega) | simp)]; simp [go_sem, *]
    clear fc ff
    have X1 : Ext w w1 := Ext.trans (by repeat (first | (with_reducible exact Ext.refl _) | (with_reducible assumption) | (with_reducible refine Ext.alloc ?_ _) | (with_reducible refine Ext.drewN ?_ _) | (with_reducible refine Ext.drew ?_) | (with_reducible refine Ext.setCell ?_ (by simp <;> omega) _))) hx
    clear hx 
    have l1a : w.heap.size < w1.heap.size := by omega
    have l1b : w.heap.size + 1 < w1.heap.size := by omega
    go_wp2_with fail
    refine (HD1.out _).mono ?_
    rintro e w2 ⟨rfl, hx⟩
    have fs2 : w1.heap.size + 1 ≤ w2.heap.size := by simpa using hx.size
    obtain ⟨fc, ff⟩ := And.intro hx.cells hx.marks
    have C2a0 : w2.cell? ⟨w.heap.size, 0, none⟩ = some (Value.bool true) := by rw [fc _ _ (by first | omega | (simp; omega) | simp)]; simp [go_sem, *]
    have F2a0 : w2.frozen? ⟨w.heap.size, 0, none⟩ = false := by rw [ff _ _ (by first | omega | (simp; omega) | simp)]; simp [go_sem, *]
    have C2a1 : w2.cell? ⟨w.heap.size, 1, none⟩ = some (Value.int IntKind.u64 mh) := by rw [fc _ _ (by first | omega | (simp; omega) | simp)]; simp [go_sem, *]
    have F2a1 : w2.frozen? ⟨w.heap.size, 1, none⟩ = false := by rw [ff _ _ (by first | omega | (simp; omega) | simp)]; simp [go_sem, *]
    have C2a2 : w2.cell? ⟨w.heap.size, 2, none⟩ = some (Value.int IntKind.u64 ml) := by rw [fc _ _ (by first | omega | (simp; omega) | simp)]; simp [go_sem, *]
    have F2a2 : w2.frozen? ⟨w.heap.size, 2, none⟩ = false := by rw [ff _ _ (by first | omega | (simp; omega) | simp)]; simp [go_sem, *]
    have C2b0 : w2.cell? ⟨w.heap.size + 1, 0, none⟩ = some (Value.bool false) := by rw [fc _ _ (by first | omega | (simp; omega) | simp)]; simp [go_sem, *]
    have F2b0 : w2.frozen? ⟨w.heap.size + 1, 0, none⟩ = false := by rw [ff _ _ (by first | omega | (simp; omega) | simp)]; simp [go_sem, *]
    have C2b1 : w2.cell? ⟨w.heap.size + 1, 1, none⟩ = some (Value.int IntKind.u64 nh) := by rw [fc _ _ (by first | omega | (simp; omega) | simp)]; simp [go_sem, *]
    have F2b1 : w2.frozen? ⟨w.heap.size + 1, 1, none⟩ = false := by rw [ff _ _ (by first | omega | (simp; omega) | simp)]; simp [go_sem, *]
    have C2b2 : w2.cell? ⟨w.heap.size + 1, 2, none⟩ = some (Value.int IntKind.u64 nl) := by rw [fc _ _ (by first | omega | (simp; omega) | simp)]; simp [go_sem, *]
    have F2b2 : w2.frozen? ⟨w.heap.size + 1, 2, none⟩ = false := by rw [ff _ _ (by first | omega | (simp; omega) | simp)]; simp [go_sem, *]
    have C2g0 : w2.cell? ⟨w1.heap.size, 0, none⟩ = some (Value.bool false) := by rw [fc _ _ (by first | omega | (simp; omega) | simp)]; simp [go_sem, *]
    have F2g0 : w2.frozen? ⟨w1.heap.size, 0, none⟩ = false := by rw [ff _ _ (by first | omega | (simp; omega) | simp)]; simp [go_sem, *]
    have C2g1 : w2.cell? ⟨w1.heap.size, 1, none⟩ = some (Value.int IntKind.u64 gh) := by rw [fc _ _ (by first | omega | (simp; omega) | simp)]; simp [go_sem, *]
    have F2g1 : w2.frozen? ⟨w1.heap.size, 1, none⟩ = false := by rw [ff _ _ (by first | omega | (simp; omega) | simp)]; simp [go_sem, *]
    have C2g2 : w2.cell? ⟨w1.heap.size, 2, none⟩ = some (Value.int IntKind.u64 gl) := by rw [fc _ _ (by first | omega | (simp; omega) | simp)]; simp [go_sem, *]
    have F2g2 : w2.frozen? ⟨w1.heap.size, 2, none⟩ = false := by rw [ff _ _ (by first | omega | (simp; omega) | simp)]; simp [go_sem, *]
    clear fc ff
    have X2 : Ext w w2 := Ext.trans (by repeat (first | (with_reducible exact Ext.refl _) | (with_reducible assumption) | (with_reducible refine Ext.alloc ?_ _) | (with_reducible refine Ext.drewN ?_ _) | (with_reducible refine Ext.drew ?_) | (with_reducible refine Ext.setCell ?_ (by simp <;> omega) _))) hx
    clear hx X1 C1a0 F1a0 C1a1 F1a1 C1a2 F1a2 C1b0 F1b0 C1b1 F1b1 C1b2 F1b2
    have l2a : w.heap.size < w2.heap.size := by omega
    have l2b : w.heap.size + 1 < w2.heap.size := by omega
    have l2g : w1.heap.size < w2.heap.size := by omega
    go_wp2_with fail
    refine (HD2.out _).mono ?_
    rintro e w3 ⟨rfl, hx⟩
    have fs3 : w2.heap.size + 1 + 1 ≤ w3.heap.size := by simpa using hx.size
    obtain ⟨fc, ff⟩ := And.intro hx.cells hx.marks
    have C3a0 : w3.cell? ⟨w.heap.size, 0, none⟩ = some (Value.bool true) := by rw [fc _ _ (by first | omega | (simp; omega) | simp)]; simp [go_sem, *]
    have F3a0 : w3.frozen? ⟨w.heap.size, 0, none⟩ = false := by rw [ff _ _ (by first | omega | (simp; omega) | simp)]; simp [go_sem, *]
    have C3a1 : w3.cell? ⟨w.heap.size, 1, none⟩ = some (Value.int IntKind.u64 mh) := by rw [fc _ _ (by first | omega | (simp; omega) | simp)]; simp [go_sem, *]
    have F3a1 : w3.frozen? ⟨w.heap.size, 1, none⟩ = false := by rw [ff _ _ (by first | omega | (simp; omega) | simp)]; simp [go_sem, *]
    have C3a2 : w3.cell? ⟨w.heap.size, 2, none⟩ = some (Value.int IntKind.u64 ml) := by rw [fc _ _ (by first | omega | (simp; omega) | simp)]; simp [go_sem, *]
    have F3a2 : w3.frozen? ⟨w.heap.size, 2, none⟩ = false := by rw [ff _ _ (by first | omega | (simp; omega) | simp)]; simp [go_sem, *]
    have C3b0 : w3.cell? ⟨w.heap.size + 1, 0, none⟩ = some (Value.bool false) := by rw [fc _ _ (by first | omega | (simp; omega) | simp)]; simp [go_sem, *]
    have F3b0 : w3.frozen? ⟨w.heap.size + 1, 0, none⟩ = false := by rw [ff _ _ (by first | omega | (simp; omega) | simp)]; simp [go_sem, *]
    have C3b1 : w3.cell? ⟨w.heap.size + 1, 1, none⟩ = some (Value.int IntKind.u64 nh) := by rw [fc _ _ (by first | omega | (simp; omega) | simp)]; simp [go_sem, *]
    have F3b1 : w3.frozen? ⟨w.heap.size + 1, 1, none⟩ = false := by rw [ff _ _ (by first | omega | (simp; omega) | simp)]; simp [go_sem, *]
    have C3b2 : w3.cell? ⟨w.heap.size + 1, 2, none⟩ = some (Value.int IntKind.u64 nl) := by rw [fc _ _ (by first | omega | (simp; omega) | simp)]; simp [go_sem, *]
    have F3b2 : w3.frozen? ⟨w.heap.size + 1, 2, none⟩ = false := by rw [ff _ _ (by first | omega | (simp; omega) | simp)]; simp [go_sem, *]
    have C3g0 : w3.cell? ⟨w1.heap.size, 0, none⟩ = some (Value.bool false) := by rw [fc _ _ (by first | omega | (simp; omega) | simp)]; simp [go_sem, *]
    have F3g0 : w3.frozen? ⟨w1.heap.size, 0, none⟩ = false := by rw [ff _ _ (by first | omega | (simp; omega) | simp)]; simp [go_sem, *]
    have C3g1 : w3.cell? ⟨w1.heap.size, 1, none⟩ = some (Value.int IntKind.u64 gh) := by rw [fc _ _ (by first | omega | (simp; omega) | simp)]; simp [go_sem, *]
    have F3g1 : w3.frozen? ⟨w1.heap.size, 1, none⟩ = false := by rw [ff _ _ (by first | omega | (simp; omega) | simp)]; simp [go_sem, *]
    have C3g2 : w3.cell? ⟨w1.heap.size, 2, none⟩ = some (Value.int IntKind.u64 gl) := by rw [fc _ _ (by first | omega | (simp; omega) | simp)]; simp [go_sem, *]
    have F3g2 : w3.frozen? ⟨w1.heap.size, 2, none⟩ = false := by rw [ff _ _ (by first | omega | (simp; omega) | simp)]; simp [go_sem, *]
    have C3x0 : w3.cell? ⟨w2.heap.size, 0, none⟩ = some (Value.bool false) := by rw [fc _ _ (by first | omega | (simp; omega) | simp)]; simp [go_sem, *]
    have F3x0 : w3.frozen? ⟨w2.heap.size, 0, none⟩ = false := by rw [ff _ _ (by first | omega | (simp; omega) | simp)]; simp [go_sem, *]
    have C3x1 : w3.cell? ⟨w2.heap.size, 1, none⟩ = some (Value.int IntKind.u64 xh) := by rw [fc _ _ (by first | omega | (simp; omega) | simp)]; simp [go_sem, *]
    have F3x1 : w3.frozen? ⟨w2.heap.size, 1, none⟩ = false := by rw [ff _ _ (by first | omega | (simp; omega) | simp)]; simp [go_sem, *]
    have C3x2 : w3.cell? ⟨w2.heap.size, 2, none⟩ = some (Value.int IntKind.u64 xl) := by rw [fc _ _ (by first | omega | (simp; omega) | simp)]; simp [go_sem, *]
    have F3x2 : w3.frozen? ⟨w2.heap.size, 2, none⟩ = false := by rw [ff _ _ (by first | omega | (simp; omega) | simp)]; simp [go_sem, *]
    have C3j0 : w3.cell? ⟨w2.heap.size + 1, 0, none⟩ = some (Value.bool false) := by rw [fc _ _ (by first | omega | (simp; omega) | simp)]; simp [go_sem, *]
    have F3j0 : w3.frozen? ⟨w2.heap.size + 1, 0, none⟩ = false := by rw [ff _ _ (by first | omega | (simp; omega) | simp)]; simp [go_sem, *]
    have C3j1 : w3.cell? ⟨w2.heap.size + 1, 1, none⟩ = some (Value.int IntKind.u64 j1) := by rw [fc _ _ (by first | omega | (simp; omega) | simp)]; simp [go_sem, *]
    have F3j1 : w3.frozen? ⟨w2.heap.size + 1, 1, none⟩ = false := by rw [ff _ _ (by first | omega | (simp; omega) | simp)]; simp [go_sem, *]
    have C3j2 : w3.cell? ⟨w2.heap.size + 1, 2, none⟩ = some (Value.int IntKind.u64 j2) := by rw [fc _ _ (by first | omega | (simp; omega) | simp)]; simp [go_sem, *]
    have F3j2 : w3.frozen? ⟨w2.heap.size + 1, 2, none⟩ = false := by rw [ff _ _ (by first | omega | (simp; omega) | simp)]; simp [go_sem, *]
    clear fc ff
    have X3 : Ext w w3 := Ext.trans (by repeat (first | (with_reducible exact Ext.refl _) | (with_reducible assumption) | (with_reducible refine Ext.alloc ?_ _) | (with_reducible refine Ext.drewN ?_ _) | (with_reducible refine Ext.drew ?_) | (with_reducible refine Ext.setCell ?_ (by simp <;> omega) _))) hx
    clear hx X2 C2a0 F2a0 C2a1 F2a1 C2a2 F2a2 C2b0 F2b0 C2b1 F2b1 C2b2 F2b2 C2g0 F2g0 C2g1 F2g1 C2g2 F2g2
    have l3a : w.heap.size < w3.heap.size := by omega
    have l3b : w.heap.size + 1 < w3.heap.size := by omega
    have l3g : w1.heap.size < w3.heap.size := by omega
    have l3x : w2.heap.size < w3.heap.size := by omega
    have l3j : w2.heap.size + 1 < w3.heap.size := by omega
    go_wp2_with fail
    refine (HZ.out _).mono ?_
    rintro e w4 ⟨rfl, hx⟩
    have fs4 : w3.heap.size + 1 + 1 ≤ w4.heap.size := by simpa using hx.size
    obtain ⟨fc, ff⟩ := And.intro hx.cells hx.marks
    have C4a0 : w4.cell? ⟨w.heap.size, 0, none⟩ = some (Value.bool true) := by rw [fc _ _ (by first | omega | (simp; omega) | simp)]; simp [go_sem, *]
    have F4a0 : w4.frozen? ⟨w.heap.size, 0, none⟩ = false := by rw [ff _ _ (by first | omega | (simp; omega) | simp)]; simp [go_sem, *]
    have C4a1 : w4.cell? ⟨w.heap.size, 1, none⟩ = some (Value.int IntKind.u64 mh) := by rw [fc _ _ (by first | omega | (simp; omega) | simp)]; simp [go_sem, *]
    have F4a1 : w4.frozen? ⟨w.heap.size, 1, none⟩ = false := by rw [ff _ _ (by first | omega | (simp; omega) | simp)]; simp [go_sem, *]
    have C4a2 : w4.cell? ⟨w.heap.size, 2, none⟩ = some (Value.int IntKind.u64 ml) := by rw [fc _ _ (by first | omega | (simp; omega) | simp)]; simp [go_sem, *]
    have F4a2 : w4.frozen? ⟨w.heap.size, 2, none⟩ = false := by rw [ff _ _ (by first | omega | (simp; omega) | simp)]; simp [go_sem, *]
    have C4b0 : w4.cell? ⟨w.heap.size + 1, 0, none⟩ = some (Value.bool false) := by rw [fc _ _ (by first | omega | (simp; omega) | simp)]; simp [go_sem, *]
    have F4b0 : w4.frozen? ⟨w.heap.size + 1, 0, none⟩ = false := by rw [ff _ _ (by first | omega | (simp; omega) | simp)]; simp [go_sem, *]
    have C4b1 : w4.cell? ⟨w.heap.size + 1, 1, none⟩ = some (Value.int IntKind.u64 nh) := by rw [fc _ _ (by first | omega | (simp; omega) | simp)]; simp [go_sem, *]
    have F4b1 : w4.frozen? ⟨w.heap.size + 1, 1, none⟩ = false := by rw [ff _ _ (by first | omega | (simp; omega) | simp)]; simp [go_sem, *]
    have C4b2 : w4.cell? ⟨w.heap.size + 1, 2, none⟩ = some (Value.int IntKind.u64 nl) := by rw [fc _ _ (by first | omega | (simp; omega) | simp)]; simp [go_sem, *]
    have F4b2 : w4.frozen? ⟨w.heap.size + 1, 2, none⟩ = false := by rw [ff _ _ (by first | omega | (simp; omega) | simp)]; simp [go_sem, *]
    have C4g0 : w4.cell? ⟨w1.heap.size, 0, none⟩ = some (Value.bool false) := by rw [fc _ _ (by first | omega | (simp; omega) | simp)]; simp [go_sem, *]
    have F4g0 : w4.frozen? ⟨w1.heap.size, 0, none⟩ = false := by rw [ff _ _ (by first | omega | (simp; omega) | simp)]; simp [go_sem, *]
    have C4g1 : w4.cell? ⟨w1.heap.size, 1, none⟩ = some (Value.int IntKind.u64 gh) := by rw [fc _ _ (by first | omega | (simp; omega) | simp)]; simp [go_sem, *]
    have F4g1 : w4.frozen? ⟨w1.heap.size, 1, none⟩ = false := by rw [ff _ _ (by first | omega | (simp; omega) | simp)]; simp [go_sem, *]
    have C4g2 : w4.cell? ⟨w1.heap.size, 2, none⟩ = some (Value.int IntKind.u64 gl) := by rw [fc _ _ (by first | omega | (simp; omega) | simp)]; simp [go_sem, *]
    have F4g2 : w4.frozen? ⟨w1.heap.size, 2, none⟩ = false := by rw [ff _ _ (by first | omega | (simp; omega) | simp)]; simp [go_sem, *]
    have C4x0 : w4.cell? ⟨w2.heap.size, 0, none⟩ = some (Value.bool false) := by rw [fc _ _ (by first | omega | (simp; omega) | simp)]; simp [go_sem, *]
    have F4x0 : w4.frozen? ⟨w2.heap.size, 0, none⟩ = false := by rw [ff _ _ (by first | omega | (simp; omega) | simp)]; simp [go_sem, *]
    have C4x1 : w4.cell? ⟨w2.heap.size, 1, none⟩ = some (Value.int IntKind.u64 xh) := by rw [fc _ _ (by first | omega | (simp; omega) | simp)]; simp [go_sem, *]
    have F4x1 : w4.frozen? ⟨w2.heap.size, 1, none⟩ = false := by rw [ff _ _ (by first | omega | (simp; omega) | simp)]; simp [go_sem, *]
    have C4x2 : w4.cell? ⟨w2.heap.size, 2, none⟩ = some (Value.int IntKind.u64 xl) := by rw [fc _ _ (by first | omega | (simp; omega) | simp)]; simp [go_sem, *]
    have F4x2 : w4.frozen? ⟨w2.heap.size, 2, none⟩ = false := by rw [ff _ _ (by first | omega | (simp; omega) | simp)]; simp [go_sem, *]
    have C4j0 : w4.cell? ⟨w2.heap.size + 1, 0, none⟩ = some (Value.bool false) := by rw [fc _ _ (by first | omega | (simp; omega) | simp)]; simp [go_sem, *]
    have F4j0 : w4.frozen? ⟨w2.heap.size + 1, 0, none⟩ = false := by rw [ff _ _ (by first | omega | (simp; omega) | simp)]; simp [go_sem, *]
    have C4j1 : w4.cell? ⟨w2.heap.size + 1, 1, none⟩ = some (Value.int IntKind.u64 j1) := by rw [fc _ _ (by first | omega | (simp; omega) | simp)]; simp [go_sem, *]
    have F4j1 : w4.frozen? ⟨w2.heap.size + 1, 1, none⟩ = false := by rw [ff _ _ (by first | omega | (simp; omega) | simp)]; simp [go_sem, *]
    have C4j2 : w4.cell? ⟨w2.heap.size + 1, 2, none⟩ = some (Value.int IntKind.u64 j2) := by rw [fc _ _ (by first | omega | (simp; omega) | simp)]; simp [go_sem, *]
    have F4j2 : w4.frozen? ⟨w2.heap.size + 1, 2, none⟩ = false := by rw [ff _ _ (by first | omega | (simp; omega) | simp)]; simp [go_sem, *]
    have C4y0 : w4.cell? ⟨w3.heap.size, 0, none⟩ = some (Value.bool false) := by rw [fc _ _ (by first | omega | (simp; omega) | simp)]; simp [go_sem, *]
    have F4y0 : w4.frozen? ⟨w3.heap.size, 0, none⟩ = false := by rw [ff _ _ (by first | omega | (simp; omega) | simp)]; simp [go_sem, *]
    have C4y1 : w4.cell? ⟨w3.heap.size, 1, none⟩ = some (Value.int IntKind.u64 yh) := by rw [fc _ _ (by first | omega | (simp; omega) | simp)]; simp [go_sem, *]
    have F4y1 : w4.frozen? ⟨w3.heap.size, 1, none⟩ = false := by rw [ff _ _ (by first | omega | (simp; omega) | simp)]; simp [go_sem, *]
    have C4y2 : w4.cell? ⟨w3.heap.size, 2, none⟩ = some (Value.int IntKind.u64 yl) := by rw [fc _ _ (by first | omega | (simp; omega) | simp)]; simp [go_sem, *]
    have F4y2 : w4.frozen? ⟨w3.heap.size, 2, none⟩ = false := by rw [ff _ _ (by first | omega | (simp; omega) | simp)]; simp [go_sem, *]
    have C4i0 : w4.cell? ⟨w3.heap.size + 1, 0, none⟩ = some (Value.bool false) := by rw [fc _ _ (by first | omega | (simp; omega) | simp)]; simp [go_sem, *]
    have F4i0 : w4.frozen? ⟨w3.heap.size + 1, 0, none⟩ = false := by rw [ff _ _ (by first | omega | (simp; omega) | simp)]; simp [go_sem, *]
    have C4i1 : w4.cell? ⟨w3.heap.size + 1, 1, none⟩ = some (Value.int IntKind.u64 j3) := by rw [fc _ _ (by first | omega | (simp; omega) | simp)]; simp [go_sem, *]
    have F4i1 : w4.frozen? ⟨w3.heap.size + 1, 1, none⟩ = false := by rw [ff _ _ (by first | omega | (simp; omega) | simp)]; simp [go_sem, *]
    have C4i2 : w4.cell? ⟨w3.heap.size + 1, 2, none⟩ = some (Value.int IntKind.u64 j4) := by rw [fc _ _ (by first | omega | (simp; omega) | simp)]; simp [go_sem, *]
    have F4i2 : w4.frozen? ⟨w3.heap.size + 1, 2, none⟩ = false := by rw [ff _ _ (by first | omega | (simp; omega) | simp)]; simp [go_sem, *]
    clear fc ff
    have X4 : Ext w w4 := Ext.trans (by repeat (first | (with_reducible exact Ext.refl _) | (with_reducible assumption) | (with_reducible refine Ext.alloc ?_ _) | (with_reducible refine Ext.drewN ?_ _) | (with_reducible refine Ext.drew ?_) | (with_reducible refine Ext.setCell ?_ (by simp <;> omega) _))) hx
    clear hx X3 C3a0 F3a0 C3a1 F3a1 C3a2 F3a2 C3b0 F3b0 C3b1 F3b1 C3b2 F3b2 C3g0 F3g0 C3g1 F3g1 C3g2 F3g2 C3x0 F3x0 C3x1 F3x1 C3x2 F3x2 C3j0 F3j0 C3j1 F3j1 C3j2 F3j2
    have l4a : w.heap.size < w4.heap.size := by omega
    have l4b : w.heap.size + 1 < w4.heap.size := by omega
    have l4g : w1.heap.size < w4.heap.size := by omega
    have l4x : w2.heap.size < w4.heap.size := by omega
    have l4j : w2.heap.size + 1 < w4.heap.size := by omega
    have l4y : w3.heap.size < w4.heap.size := by omega
    have l4i : w3.heap.size + 1 < w4.heap.size := by omega
    go_wp2_with fail
    refine (HN1.out _).mono ?_
    rintro e w5 ⟨rfl, hx⟩
    have fs5 : w4.heap.size ≤ w5.heap.size := by simpa using hx.size
    obtain ⟨fc, ff⟩ := And.intro hx.cells hx.marks
    have C5a0 : w5.cell? ⟨w.heap.size, 0, none⟩ = some (Value.bool true) := by rw [fc _ _ (by first | omega | (simp; omega) | simp)]; simp [go_sem, *]
    have F5a0 : w5.frozen? ⟨w.heap.size, 0, none⟩ = false := by rw [ff _ _ (by first | omega | (simp; omega) | simp)]; simp [go_sem, *]
    have C5a1 : w5.cell? ⟨w.heap.size, 1, none⟩ = some (Value.int IntKind.u64 mh) := by rw [fc _ _ (by first | omega | (simp; omega) | simp)]; simp [go_sem, *]
    have F5a1 : w5.frozen? ⟨w.heap.size, 1, none⟩ = false := by rw [ff _ _ (by first | omega | (simp; omega) | simp)]; simp [go_sem, *]
    have C5a2 : w5.cell? ⟨w.heap.size, 2, none⟩ = some (Value.int IntKind.u64 ml) := by rw [fc _ _ (by first | omega | (simp; omega) | simp)]; simp [go_sem, *]
    have F5a2 : w5.frozen? ⟨w.heap.size, 2, none⟩ = false := by rw [ff _ _ (by first | omega | (simp; omega) | simp)]; simp [go_sem, *]
    have C5b0 : w5.cell? ⟨w.heap.size + 1, 0, none⟩ = some (Value.bool false) := by rw [fc _ _ (by first | omega | (simp; omega) | simp)]; simp [go_sem, *]
    have F5b0 : w5.frozen? ⟨w.heap.size + 1, 0, none⟩ = false := by rw [ff _ _ (by first | omega | (simp; omega) | simp)]; simp [go_sem, *]
    have C5b1 : w5.cell? ⟨w.heap.size + 1, 1, none⟩ = some (Value.int IntKind.u64 nh) := by rw [fc _ _ (by first | omega | (simp; omega) | simp)]; simp [go_sem, *]
    have F5b1 : w5.frozen? ⟨w.heap.size + 1, 1, none⟩ = false := by rw [ff _ _ (by first | omega | (simp; omega) | simp)]; simp [go_sem, *]
    have C5b2 : w5.cell? ⟨w.heap.size + 1, 2, none⟩ = some (Value.int IntKind.u64 nl) := by rw [fc _ _ (by first | omega | (simp; omega) | simp)]; simp [go_sem, *]
    have F5b2 : w5.frozen? ⟨w.heap.size + 1, 2, none⟩ = false := by rw [ff _ _ (by first | omega | (simp; omega) | simp)]; simp [go_sem, *]
    have C5g0 : w5.cell? ⟨w1.heap.size, 0, none⟩ = some (Value.bool false) := by rw [fc _ _ (by first | omega | (simp; omega) | simp)]; simp [go_sem, *]
    have F5g0 : w5.frozen? ⟨w1.heap.size, 0, none⟩ = false := by rw [ff _ _ (by first | omega | (simp; omega) | simp)]; simp [go_sem, *]
    have C5g1 : w5.cell? ⟨w1.heap.size, 1, none⟩ = some (Value.int IntKind.u64 gh) := by rw [fc _ _ (by first | omega | (simp; omega) | simp)]; simp [go_sem, *]
    have F5g1 : w5.frozen? ⟨w1.heap.size, 1, none⟩ = false := by rw [ff _ _ (by first | omega | (simp; omega) | simp)]; simp [go_sem, *]
    have C5g2 : w5.cell? ⟨w1.heap.size, 2, none⟩ = some (Value.int IntKind.u64 gl) := by rw [fc _ _ (by first | omega | (simp; omega) | simp)]; simp [go_sem, *]
    have F5g2 : w5.frozen? ⟨w1.heap.size, 2, none⟩ = false := by rw [ff _ _ (by first | omega | (simp; omega) | simp)]; simp [go_sem, *]
    have C5x0 : w5.cell? ⟨w2.heap.size, 0, none⟩ = some (Value.bool (!mz)) := by rw [fc _ _ (by first | omega | (simp; omega) | simp)]; simp [go_sem, *]
    have F5x0 : w5.frozen? ⟨w2.heap.size, 0, none⟩ = false := by rw [ff _ _ (by first | omega | (simp; omega) | simp)]; simp [go_sem, *]
    have C5x1 : w5.cell? ⟨w2.heap.size, 1, none⟩ = some (Value.int IntKind.u64 xh) := by rw [fc _ _ (by first | omega | (simp; omega) | simp)]; simp [go_sem, *]
    have F5x1 : w5.frozen? ⟨w2.heap.size, 1, none⟩ = false := by rw [ff _ _ (by first | omega | (simp; omega) | simp)]; simp [go_sem, *]
    have C5x2 : w5.cell? ⟨w2.heap.size, 2, none⟩ = some (Value.int IntKind.u64 xl) := by rw [fc _ _ (by first | omega | (simp; omega) | simp)]; simp [go_sem, *]
    have F5x2 : w5.frozen? ⟨w2.heap.size, 2, none⟩ = false := by rw [ff _ _ (by first | omega | (simp; omega) | simp)]; simp [go_sem, *]
    have C5j0 : w5.cell? ⟨w2.heap.size + 1, 0, none⟩ = some (Value.bool false) := by rw [fc _ _ (by first | omega | (simp; omega) | simp)]; simp [go_sem, *]
    have F5j0 : w5.frozen? ⟨w2.heap.size + 1, 0, none⟩ = false := by rw [ff _ _ (by first | omega | (simp; omega) | simp)]; simp [go_sem, *]
    have C5j1 : w5.cell? ⟨w2.heap.size + 1, 1, none⟩ = some (Value.int IntKind.u64 j1) := by rw [fc _ _ (by first | omega | (simp; omega) | simp)]; simp [go_sem, *]
    have F5j1 : w5.frozen? ⟨w2.heap.size + 1, 1, none⟩ = false := by rw [ff _ _ (by first | omega | (simp; omega) | simp)]; simp [go_sem, *]
    have C5j2 : w5.cell? ⟨w2.heap.size + 1, 2, none⟩ = some (Value.int IntKind.u64 j2) := by rw [fc _ _ (by first | omega | (simp; omega) | simp)]; simp [go_sem, *]
    have F5j2 : w5.frozen? ⟨w2.heap.size + 1, 2, none⟩ = false := by rw [ff _ _ (by first | omega | (simp; omega) | simp)]; simp [go_sem, *]
    have C5y0 : w5.cell? ⟨w3.heap.size, 0, none⟩ = some (Value.bool false) := by rw [fc _ _ (by first | omega | (simp; omega) | simp)]; simp [go_sem, *]
    have F5y0 : w5.frozen? ⟨w3.heap.size, 0, none⟩ = false := by rw [ff _ _ (by first | omega | (simp; omega) | simp)]; simp [go_sem, *]
    have C5y1 : w5.cell? ⟨w3.heap.size, 1, none⟩ = some (Value.int IntKind.u64 yh) := by rw [fc _ _ (by first | omega | (simp; omega) | simp)]; simp [go_sem, *]
    have F5y1 : w5.frozen? ⟨w3.heap.size, 1, none⟩ = false := by rw [ff _ _ (by first | omega | (simp; omega) | simp)]; simp [go_sem, *]
    have C5y2 : w5.cell? ⟨w3.heap.size, 2, none⟩ = some (Value.int IntKind.u64 yl) := by rw [fc _ _ (by first | omega | (simp; omega) | simp)]; simp [go_sem, *]
    have F5y2 : w5.frozen? ⟨w3.heap.size, 2, none⟩ = false := by rw [ff _ _ (by first | omega | (simp; omega) | simp)]; simp [go_sem, *]
    have C5i0 : w5.cell? ⟨w3.heap.size + 1, 0, none⟩ = some (Value.bool false) := by rw [fc _ _ (by first | omega | (simp; omega) | simp)]; simp [go_sem, *]
    have F5i0 : w5.frozen? ⟨w3.heap.size + 1, 0, none⟩ = false := by rw [ff _ _ (by first | omega | (simp; omega) | simp)]; simp [go_sem, *]
    have C5i1 : w5.cell? ⟨w3.heap.size + 1, 1, none⟩ = some (Value.int IntKind.u64 j3) := by rw [fc _ _ (by first | omega | (simp; omega) | simp)]; simp [go_sem, *]
    have F5i1 : w5.frozen? ⟨w3.heap.size + 1, 1, none⟩ = false := by rw [ff _ _ (by first | omega | (simp; omega) | simp)]; simp [go_sem, *]
    have C5i2 : w5.cell? ⟨w3.heap.size + 1, 2, none⟩ = some (Value.int IntKind.u64 j4) := by rw [fc _ _ (by first | omega | (simp; omega) | simp)]; simp [go_sem, *]
    have F5i2 : w5.frozen? ⟨w3.heap.size + 1, 2, none⟩ = false := by rw [ff _ _ (by first | omega | (simp; omega) | simp)]; simp [go_sem, *]
    clear fc ff
    have X5 : Ext w w5 := Ext.trans (by repeat (first | (with_reducible exact Ext.refl _) | (with_reducible assumption) | (with_reducible refine Ext.alloc ?_ _) | (with_reducible refine Ext.drewN ?_ _) | (with_reducible refine Ext.drew ?_) | (with_reducible refine Ext.setCell ?_ (by simp <;> omega) _))) hx
    clear hx X4 C4a0 F4a0 C4a1 F4a1 C4a2 F4a2 C4b0 F4b0 C4b1 F4b1 C4b2 F4b2 C4g0 F4g0 C4g1 F4g1 C4g2 F4g2 C4x0 F4x0 C4x1 F4x1 C4x2 F4x2 C4j0 F4j0 C4j1 F4j1 C4j2 F4j2 C4y0 F4y0 C4y1 F4y1 C4y2 F4y2 C4i0 F4i0 C4i1 F4i1 C4i2 F4i2
    have l5a : w.heap.size < w5.heap.size := by omega
    have l5b : w.heap.size + 1 < w5.heap.size := by omega
    have l5g : w1.heap.size < w5.heap.size := by omega
    have l5x : w2.heap.size < w5.heap.size := by omega
    have l5j : w2.heap.size + 1 < w5.heap.size := by omega
    have l5y : w3.heap.size < w5.heap.size := by omega
    have l5i : w3.heap.size + 1 < w5.heap.size := by omega
    go_wp2_with fail
    refine (HN2.out _).mono ?_
    rintro e w6 ⟨rfl, hx⟩
    have fs6 : w5.heap.size ≤ w6.heap.size := by simpa using hx.size
    obtain ⟨fc, ff⟩ := And.intro hx.cells hx.marks
    have C6a0 : w6.cell? ⟨w.heap.size, 0, none⟩ = some (Value.bool true) := by rw [fc _ _ (by first | omega | (simp; omega) | simp)]; simp [go_sem, *]
    have F6a0 : w6.frozen? ⟨w.heap.size, 0, none⟩ = false := by rw [ff _ _ (by first | omega | (simp; omega) | simp)]; simp [go_sem, *]
    have C6a1 : w6.cell? ⟨w.heap.size, 1, none⟩ = some (Value.int IntKind.u64 mh) := by rw [fc _ _ (by first | omega | (simp; omega) | simp)]; simp [go_sem, *]
    have F6a1 : w6.frozen? ⟨w.heap.size, 1, none⟩ = false := by rw [ff _ _ (by first | omega | (simp; omega) | simp)]; simp [go_sem, *]
    have C6a2 : w6.cell? ⟨w.heap.size, 2, none⟩ = some (Value.int IntKind.u64 ml) := by rw [fc _ _ (by first | omega | (simp; omega) | simp)]; simp [go_sem, *]
    have F6a2 : w6.frozen? ⟨w.heap.size, 2, none⟩ = false := by rw [ff _ _ (by first | omega | (simp; omega) | simp)]; simp [go_sem, *]
    have C6b0 : w6.cell? ⟨w.heap.size + 1, 0, none⟩ = some (Value.bool false) := by rw [fc _ _ (by first | omega | (simp; omega) | simp)]; simp [go_sem, *]
    have F6b0 : w6.frozen? ⟨w.heap.size + 1, 0, none⟩ = false := by rw [ff _ _ (by first | omega | (simp; omega) | simp)]; simp [go_sem, *]
    have C6b1 : w6.cell? ⟨w.heap.size + 1, 1, none⟩ = some (Value.int IntKind.u64 nh) := by rw [fc _ _ (by first | omega | (simp; omega) | simp)]; simp [go_sem, *]
    have F6b1 : w6.frozen? ⟨w.heap.size + 1, 1, none⟩ = false := by rw [ff _ _ (by first | omega | (simp; omega) | simp)]; simp [go_sem, *]
    have C6b2 : w6.cell? ⟨w.heap.size + 1, 2, none⟩ = some (Value.int IntKind.u64 nl) := by rw [fc _ _ (by first | omega | (simp; omega) | simp)]; simp [go_sem, *]
    have F6b2 : w6.frozen? ⟨w.heap.size + 1, 2, none⟩ = false := by rw [ff _ _ (by first | omega | (simp; omega) | simp)]; simp [go_sem, *]
    have C6g0 : w6.cell? ⟨w1.heap.size, 0, none⟩ = some (Value.bool false) := by rw [fc _ _ (by first | omega | (simp; omega) | simp)]; simp [go_sem, *]
    have F6g0 : w6.frozen? ⟨w1.heap.size, 0, none⟩ = false := by rw [ff _ _ (by first | omega | (simp; omega) | simp)]; simp [go_sem, *]
    have C6g1 : w6.cell? ⟨w1.heap.size, 1, none⟩ = some (Value.int IntKind.u64 gh) := by rw [fc _ _ (by first | omega | (simp; omega) | simp)]; simp [go_sem, *]
    have F6g1 : w6.frozen? ⟨w1.heap.size, 1, none⟩ = false := by rw [ff _ _ (by first | omega | (simp; omega) | simp)]; simp [go_sem, *]
    have C6g2 : w6.cell? ⟨w1.heap.size, 2, none⟩ = some (Value.int IntKind.u64 gl) := by rw [fc _ _ (by first | omega | (simp; omega) | simp)]; simp [go_sem, *]
    have F6g2 : w6.frozen? ⟨w1.heap.size, 2, none⟩ = false := by rw [ff _ _ (by first | omega | (simp; omega) | simp)]; simp [go_sem, *]
    have C6x0 : w6.cell? ⟨w2.heap.size, 0, none⟩ = some (Value.bool (!mz)) := by rw [fc _ _ (by first | omega | (simp; omega) | simp)]; simp [go_sem, *]
    have F6x0 : w6.frozen? ⟨w2.heap.size, 0, none⟩ = false := by rw [ff _ _ (by first | omega | (simp; omega) | simp)]; simp [go_sem, *]
    have C6x1 : w6.cell? ⟨w2.heap.size, 1, none⟩ = some (Value.int IntKind.u64 xh) := by rw [fc _ _ (by first | omega | (simp; omega) | simp)]; simp [go_sem, *]
    have F6x1 : w6.frozen? ⟨w2.heap.size, 1, none⟩ = false := by rw [ff _ _ (by first | omega | (simp; omega) | simp)]; simp [go_sem, *]
    have C6x2 : w6.cell? ⟨w2.heap.size, 2, none⟩ = some (Value.int IntKind.u64 xl) := by rw [fc _ _ (by first | omega | (simp; omega) | simp)]; simp [go_sem, *]
    have F6x2 : w6.frozen? ⟨w2.heap.size, 2, none⟩ = false := by rw [ff _ _ (by first | omega | (simp; omega) | simp)]; simp [go_sem, *]
    have C6j0 : w6.cell? ⟨w2.heap.size + 1, 0, none⟩ = some (Value.bool false) := by rw [fc _ _ (by first | omega | (simp; omega) | simp)]; simp [go_sem, *]
    have F6j0 : w6.frozen? ⟨w2.heap.size + 1, 0, none⟩ = false := by rw [ff _ _ (by first | omega | (simp; omega) | simp)]; simp [go_sem, *]
    have C6j1 : w6.cell? ⟨w2.heap.size + 1, 1, none⟩ = some (Value.int IntKind.u64 j1) := by rw [fc _ _ (by first | omega | (simp; omega) | simp)]; simp [go_sem, *]
    have F6j1 : w6.frozen? ⟨w2.heap.size + 1, 1, none⟩ = false := by rw [ff _ _ (by first | omega | (simp; omega) | simp)]; simp [go_sem, *]
    have C6j2 : w6.cell? ⟨w2.heap.size + 1, 2, none⟩ = some (Value.int IntKind.u64 j2) := by rw [fc _ _ (by first | omega | (simp; omega) | simp)]; simp [go_sem, *]
    have F6j2 : w6.frozen? ⟨w2.heap.size + 1, 2, none⟩ = false := by rw [ff _ _ (by first | omega | (simp; omega) | simp)]; simp [go_sem, *]
    have C6y0 : w6.cell? ⟨w3.heap.size, 0, none⟩ = some (Value.bool false) := by rw [fc _ _ (by first | omega | (simp; omega) | simp)]; simp [go_sem, *]
    have F6y0 : w6.frozen? ⟨w3.heap.size, 0, none⟩ = false := by rw [ff _ _ (by first | omega | (simp; omega) | simp)]; simp [go_sem, *]
    have C6y1 : w6.cell? ⟨w3.heap.size, 1, none⟩ = some (Value.int IntKind.u64 yh) := by rw [fc _ _ (by first | omega | (simp; omega) | simp)]; simp [go_sem, *]
    have F6y1 : w6.frozen? ⟨w3.heap.size, 1, none⟩ = false := by rw [ff _ _ (by first | omega | (simp; omega) | simp)]; simp [go_sem, *]
    have C6y2 : w6.cell? ⟨w3.heap.size, 2, none⟩ = some (Value.int IntKind.u64 yl) := by rw [fc _ _ (by first | omega | (simp; omega) | simp)]; simp [go_sem, *]
    have F6y2 : w6.frozen? ⟨w3.heap.size, 2, none⟩ = false := by rw [ff _ _ (by first | omega | (simp; omega) | simp)]; simp [go_sem, *]
    have C6i0 : w6.cell? ⟨w3.heap.size + 1, 0, none⟩ = some (Value.bool false) := by rw [fc _ _ (by first | omega | (simp; omega) | simp)]; simp [go_sem, *]
    have F6i0 : w6.frozen? ⟨w3.heap.size + 1, 0, none⟩ = false := by rw [ff _ _ (by first | omega | (simp; omega) | simp)]; simp [go_sem, *]
    have C6i1 : w6.cell? ⟨w3.heap.size + 1, 1, none⟩ = some (Value.int IntKind.u64 j3) := by rw [fc _ _ (by first | omega | (simp; omega) | simp)]; simp [go_sem, *]
    have F6i1 : w6.frozen? ⟨w3.heap.size + 1, 1, none⟩ = false := by rw [ff _ _ (by first | omega | (simp; omega) | simp)]; simp [go_sem, *]
    have C6i2 : w6.cell? ⟨w3.heap.size + 1, 2, none⟩ = some (Value.int IntKind.u64 j4) := by rw [fc _ _ (by first | omega | (simp; omega) | simp)]; simp [go_sem, *]
    have F6i2 : w6.frozen? ⟨w3.heap.size + 1, 2, none⟩ = false := by rw [ff _ _ (by first | omega | (simp; omega) | simp)]; simp [go_sem, *]
    clear fc ff
    have X6 : Ext w w6 := Ext.trans (by repeat (first | (with_reducible exact Ext.refl _) | (with_reducible assumption) | (with_reducible refine Ext.alloc ?_ _) | (with_reducible refine Ext.drewN ?_ _) | (with_reducible refine Ext.drew ?_) | (with_reducible refine Ext.setCell ?_ (by simp <;> omega) _))) hx
    clear hx X5 C5a0 F5a0 C5a1 F5a1 C5a2 F5a2 C5b0 F5b0 C5b1 F5b1 C5b2 F5b2 C5g0 F5g0 C5g1 F5g1 C5g2 F5g2 C5x0 F5x0 C5x1 F5x1 C5x2 F5x2 C5j0 F5j0 C5j1 F5j1 C5j2 F5j2 C5y0 F5y0 C5y1 F5y1 C5y2 F5y2 C5i0 F5i0 C5i1 F5i1 C5i2 F5i2
    have l6a : w.heap.size < w6.heap.size := by omega
    have l6b : w.heap.size + 1 < w6.heap.size := by omega
    have l6g : w1.heap.size < w6.heap.size := by omega
    have l6x : w2.heap.size < w6.heap.size := by omega
    have l6j : w2.heap.size + 1 < w6.heap.size := by omega
    have l6y : w3.heap.size < w6.heap.size := by omega
    have l6i : w3.heap.size + 1 < w6.heap.size := by omega
    go_wp2_with fail
    exact bodyPost_ret (v := .tuple #[.int .i64 p, .int .i64 q, .bool (false && qo)]) (by simp [results, Tryd.results34, go_sem]) rfl ⟨rfl, (by repeat (first | (with_reducible exact Ext.refl _) | (with_reducible assumption) | (with_reducible refine Ext.alloc ?_ _) | (with_reducible refine Ext.drewN ?_ _) | (with_reducible refine Ext.drew ?_) | (with_reducible refine Ext.setCell ?_ (by simp <;> omega) _)))⟩
  · go_enter Tryd.func34, Tryd.ntmps34
    go_wp2_with fail
    refine (HG.out _).mono ?_
    rintro e w1 ⟨rfl, hx⟩
    have fs1 : w.heap.size + 1 + 1 ≤ w1.heap.size := by simpa using hx.size
    obtain ⟨fc, ff⟩ := And.intro hx.cells hx.marks
    have C1a0 : w1.cell? ⟨w.heap.size, 0, none⟩ = some (Value.bool true) := by rw [fc _ _ (by first | omega | (simp; omega) | simp)]; simp [go_sem, *]
    have F1a0 : w1.frozen? ⟨w.heap.size, 0, none⟩ = false := by rw [ff _ _ (by first | omega | (simp; omega) | simp)]; simp [go_sem, *]
    have C1a1 : w1.cell? ⟨w.heap.size, 1, none⟩ = some (Value.int IntKind.u64 mh) := by rw [fc _ _ (by first | omega | (simp; omega) | simp)]; simp [go_sem, *]
    have F1a1 : w1.frozen? ⟨w.heap.size, 1, none⟩ = false := by rw [ff _ _ (by first | omega | (simp; omega) | simp)]; simp [go_sem, *]
    have C1a2 : w1.cell? ⟨w.heap.size, 2, none⟩ = some (Value.int IntKind.u64 ml) := by rw [fc _ _ (by first | omega | (simp; omega) | simp)]; simp [go_sem, *]
    have F1a2 : w1.frozen? ⟨w.heap.size, 2, none⟩ = false := by rw [ff _ _ (by first | omega | (simp; omega) | simp)]; simp [go_sem, *]
    have C1b0 : w1.cell? ⟨w.heap.size + 1, 0, none⟩ = some (Value.bool false) := by rw [fc _ _ (by first | omega | (simp; omega) | simp)]; simp [go_sem, *]
    have F1b0 : w1.frozen? ⟨w.heap.size + 1, 0, none⟩ = false := by rw [ff _ _ (by first | omega | (simp; omega) | simp)]; simp [go_sem, *]
    have C1b1 : w1.cell? ⟨w.heap.size + 1, 1, none⟩ = some (Value.int IntKind.u64 nh) := by rw [fc _ _ (by first | omega | (simp; omega) | simp)]; simp [go_sem, *]
    have F1b1 : w1.frozen? ⟨w.heap.size + 1, 1, none⟩ = false := by rw [ff _ _ (by first | omega | (simp; omega) | simp)]; simp [go_sem, *]
    have C1b2 : w1.cell? ⟨w.heap.size + 1, 2, none⟩ = some (Value.int IntKind.u64 nl) := by rw [fc _ _ (by first | omega | (simp; omega) | simp)]; simp [go_sem, *]
    have F1b2 : w1.frozen? ⟨w.heap.size + 1, 2, none⟩ = false := by rw [ff _ _ (by first | omega | (simp; omega) | simp)]; simp [go_sem, *]
    clear fc ff
    have X1 : Ext w w1 := Ext.trans (by repeat (first | (with_reducible exact Ext.refl _) | (with_reducible assumption) | (with_reducible refine Ext.alloc ?_ _) | (with_reducible refine Ext.drewN ?_ _) | (with_reducible refine Ext.drew ?_) | (with_reducible refine Ext.setCell ?_ (by simp <;> omega) _))) hx
    clear hx 
    have l1a : w.heap.size < w1.heap.size := by omega
    have l1b : w.heap.size + 1 < w1.heap.size := by omega
    go_wp2_with fail
    refine (HD1.out _).mono ?_
    rintro e w2 ⟨rfl, hx⟩
    have fs2 : w1.heap.size + 1 ≤ w2.heap.size := by simpa using hx.size
    obtain ⟨fc, ff⟩ := And.intro hx.cells hx.marks
    have C2a0 : w2.cell? ⟨w.heap.size, 0, none⟩ = some (Value.bool true) := by rw [fc _ _ (by first | omega | (simp; omega) | simp)]; simp [go_sem, *]
    have F2a0 : w2.frozen? ⟨w.heap.size, 0, none⟩ = false := by rw [ff _ _ (by first | omega | (simp; omega) | simp)]; simp [go_sem, *]
    have C2a1 : w2.cell? ⟨w.heap.size, 1, none⟩ = some (Value.int IntKind.u64 mh) := by rw [fc _ _ (by first | omega | (simp; omega) | simp)]; simp [go_sem, *]
    have F2a1 : w2.frozen? ⟨w.heap.size, 1, none⟩ = false := by rw [ff _ _ (by first | omega | (simp; omega) | simp)]; simp [go_sem, *]
    have C2a2 : w2.cell? ⟨w.heap.size, 2, none⟩ = some (Value.int IntKind.u64 ml) := by rw [fc _ _ (by first | omega | (simp; omega) | simp)]; simp [go_sem, *]
    have F2a2 : w2.frozen? ⟨w.heap.size, 2, none⟩ = false := by rw [ff _ _ (by first | omega | (simp; omega) | simp)]; simp [go_sem, *]
    have C2b0 : w2.cell? ⟨w.heap.size + 1, 0, none⟩ = some (Value.bool false) := by rw [fc _ _ (by first | omega | (simp; omega) | simp)]; simp [go_sem, *]
    have F2b0 : w2.frozen? ⟨w.heap.size + 1, 0, none⟩ = false := by rw [ff _ _ (by first | omega | (simp; omega) | simp)]; simp [go_sem, *]
    have C2b1 : w2.cell? ⟨w.heap.size + 1, 1, none⟩ = some (Value.int IntKind.u64 nh) := by rw [fc _ _ (by first | omega | (simp; omega) | simp)]; simp [go_sem, *]
    have F2b1 : w2.frozen? ⟨w.heap.size + 1, 1, none⟩ = false := by rw [ff _ _ (by first | omega | (simp; omega) | simp)]; simp [go_sem, *]
    have C2b2 : w2.cell? ⟨w.heap.size + 1, 2, none⟩ = some (Value.int IntKind.u64 nl) := by rw [fc _ _ (by first | omega | (simp; omega) | simp)]; simp [go_sem, *]
    have F2b2 : w2.frozen? ⟨w.heap.size + 1, 2, none⟩ = false := by rw [ff _ _ (by first | omega | (simp; omega) | simp)]; simp [go_sem, *]
    have C2g0 : w2.cell? ⟨w1.heap.size, 0, none⟩ = some (Value.bool false) := by rw [fc _ _ (by first | omega | (simp; omega) | simp)]; simp [go_sem, *]
    have F2g0 : w2.frozen? ⟨w1.heap.size, 0, none⟩ = false := by rw [ff _ _ (by first | omega | (simp; omega) | simp)]; simp [go_sem, *]
    have C2g1 : w2.cell? ⟨w1.heap.size, 1, none⟩ = some (Value.int IntKind.u64 gh) := by rw [fc _ _ (by first | omega | (simp; omega) | simp)]; simp [go_sem, *]
    have F2g1 : w2.frozen? ⟨w1.heap.size, 1, none⟩ = false := by rw [ff _ _ (by first | omega | (simp; omega) | simp)]; simp [go_sem, *]
    have C2g2 : w2.cell? ⟨w1.heap.size, 2, none⟩ = some (Value.int IntKind.u64 gl) := by rw [fc _ _ (by first | omega | (simp; omega) | simp)]; simp [go_sem, *]
    have F2g2 : w2.frozen? ⟨w1.heap.size, 2, none⟩ = false := by rw [ff _ _ (by first | omega | (simp; omega) | simp)]; simp [go_sem, *]
    clear fc ff
    have X2 : Ext w w2 := Ext.trans (by repeat (first | (with_reducible exact Ext.refl _) | (with_reducible assumption) | (with_reducible refine Ext.alloc ?_ _) | (with_reducible refine Ext.drewN ?_ _) | (with_reducible refine Ext.drew ?_) | (with_reducible refine Ext.setCell ?_ (by simp <;> omega) _))) hx
    clear hx X1 C1a0 F1a0 C1a1 F1a1 C1a2 F1a2 C1b0 F1b0 C1b1 F1b1 C1b2 F1b2
    have l2a : w.heap.size < w2.heap.size := by omega
    have l2b : w.heap.size + 1 < w2.heap.size := by omega
    have l2g : w1.heap.size < w2.heap.size := by omega
    go_wp2_with fail
    refine (HD2.out _).mono ?_
    rintro e w3 ⟨rfl, hx⟩
    have fs3 : w2.heap.size + 1 + 1 ≤ w3.heap.size := by simpa using hx.size
    obtain ⟨fc, ff⟩ := And.intro hx.cells hx.marks
    have C3a0 : w3.cell? ⟨w.heap.size, 0, none⟩ = some (Value.bool true) := by rw [fc _ _ (by first | omega | (simp; omega) | simp)]; simp [go_sem, *]
    have F3a0 : w3.frozen? ⟨w.heap.size, 0, none⟩ = false := by rw [ff _ _ (by first | omega | (simp; omega) | simp)]; simp [go_sem, *]
    have C3a1 : w3.cell? ⟨w.heap.size, 1, none⟩ = some (Value.int IntKind.u64 mh) := by rw [fc _ _ (by first | omega | (simp; omega) | simp)]; simp [go_sem, *]
    have F3a1 : w3.frozen? ⟨w.heap.size, 1, none⟩ = false := by rw [ff _ _ (by first | omega | (simp; omega) | simp)]; simp [go_sem, *]
    have C3a2 : w3.cell? ⟨w.heap.size, 2, none⟩ = some (Value.int IntKind.u64 ml) := by rw [fc _ _ (by first | omega | (simp; omega) | simp)]; simp [go_sem, *]
    have F3a2 : w3.frozen? ⟨w.heap.size, 2, none⟩ = false := by rw [ff _ _ (by first | omega | (simp; omega) | simp)]; simp [go_sem, *]
    have C3b0 : w3.cell? ⟨w.heap.size + 1, 0, none⟩ = some (Value.bool false) := by rw [fc _ _ (by first | omega | (simp; omega) | simp)]; simp [go_sem, *]
    have F3b0 : w3.frozen? ⟨w.heap.size + 1, 0, none⟩ = false := by rw [ff _ _ (by first | omega | (simp; omega) | simp)]; simp [go_sem, *]
    have C3b1 : w3.cell? ⟨w.heap.size + 1, 1, none⟩ = some (Value.int IntKind.u64 nh) := by rw [fc _ _ (by first | omega | (simp; omega) | simp)]; simp [go_sem, *]
    have F3b1 : w3.frozen? ⟨w.heap.size + 1, 1, none⟩ = false := by rw [ff _ _ (by first | omega | (simp; omega) | simp)]; simp [go_sem, *]
    have C3b2 : w3.cell? ⟨w.heap.size + 1, 2, none⟩ = some (Value.int IntKind.u64 nl) := by rw [fc _ _ (by first | omega | (simp; omega) | simp)]; simp [go_sem, *]
    have F3b2 : w3.frozen? ⟨w.heap.size + 1, 2, none⟩ = false := by rw [ff _ _ (by first | omega | (simp; omega) | simp)]; simp [go_sem, *]
    have C3g0 : w3.cell? ⟨w1.heap.size, 0, none⟩ = some (Value.bool false) := by rw [fc _ _ (by first | omega | (simp; omega) | simp)]; simp [go_sem, *]
    have F3g0 : w3.frozen? ⟨w1.heap.size, 0, none⟩ = false := by rw [ff _ _ (by first | omega | (simp; omega) | simp)]; simp [go_sem, *]
    have C3g1 : w3.cell? ⟨w1.heap.size, 1, none⟩ = some (Value.int IntKind.u64 gh) := by rw [fc _ _ (by first | omega | (simp; omega) | simp)]; simp [go_sem, *]
    have F3g1 : w3.frozen? ⟨w1.heap.size, 1, none⟩ = false := by rw [ff _ _ (by first | omega | (simp; omega) | simp)]; simp [go_sem, *]
    have C3g2 : w3.cell? ⟨w1.heap.size, 2, none⟩ = some (Value.int IntKind.u64 gl) := by rw [fc _ _ (by first | omega | (simp; omega) | simp)]; simp [go_sem, *]
    have F3g2 : w3.frozen? ⟨w1.heap.size, 2, none⟩ = false := by rw [ff _ _ (by first | omega | (simp; omega) | simp)]; simp [go_sem, *]
    have C3x0 : w3.cell? ⟨w2.heap.size, 0, none⟩ = some (Value.bool false) := by rw [fc _ _ (by first | omega | (simp; omega) | simp)]; simp [go_sem, *]
    have F3x0 : w3.frozen? ⟨w2.heap.size, 0, none⟩ = false := by rw [ff _ _ (by first | omega | (simp; omega) | simp)]; simp [go_sem, *]
    have C3x1 : w3.cell? ⟨w2.heap.size, 1, none⟩ = some (Value.int IntKind.u64 xh) := by rw [fc _ _ (by first | omega | (simp; omega) | simp)]; simp [go_sem, *]
    have F3x1 : w3.frozen? ⟨w2.heap.size, 1, none⟩ = false := by rw [ff _ _ (by first | omega | (simp; omega) | simp)]; simp [go_sem, *]
    have C3x2 : w3.cell? ⟨w2.heap.size, 2, none⟩ = some (Value.int IntKind.u64 xl) := by rw [fc _ _ (by first | omega | (simp; omega) | simp)]; simp [go_sem, *]
    have F3x2 : w3.frozen? ⟨w2.heap.size, 2, none⟩ = false := by rw [ff _ _ (by first | omega | (simp; omega) | simp)]; simp [go_sem, *]
    have C3j0 : w3.cell? ⟨w2.heap.size + 1, 0, none⟩ = some (Value.bool false) := by rw [fc _ _ (by first | omega | (simp; omega) | simp)]; simp [go_sem, *]
    have F3j0 : w3.frozen? ⟨w2.heap.size + 1, 0, none⟩ = false := by rw [ff _ _ (by first | omega | (simp; omega) | simp)]; simp [go_sem, *]
    have C3j1 : w3.cell? ⟨w2.heap.size + 1, 1, none⟩ = some (Value.int IntKind.u64 j1) := by rw [fc _ _ (by first | omega | (simp; omega) | simp)]; simp [go_sem, *]
    have F3j1 : w3.frozen? ⟨w2.heap.size + 1, 1, none⟩ = false := by rw [ff _ _ (by first | omega | (simp; omega) | simp)]; simp [go_sem, *]
    have C3j2 : w3.cell? ⟨w2.heap.size + 1, 2, none⟩ = some (Value.int IntKind.u64 j2) := by rw [fc _ _ (by first | omega | (simp; omega) | simp)]; simp [go_sem, *]
    have F3j2 : w3.frozen? ⟨w2.heap.size + 1, 2, none⟩ = false := by rw [ff _ _ (by first | omega | (simp; omega) | simp)]; simp [go_sem, *]
    clear fc ff
    have X3 : Ext w w3 := Ext.trans (by repeat (first | (with_reducible exact Ext.refl _) | (with_reducible assumption) | (with_reducible refine Ext.alloc ?_ _) | (with_reducible refine Ext.drewN ?_ _) | (with_reducible refine Ext.drew ?_) | (with_reducible refine Ext.setCell ?_ (by simp <;> omega) _))) hx
    clear hx X2 C2a0 F2a0 C2a1 F2a1 C2a2 F2a2 C2b0 F2b0 C2b1 F2b1 C2b2 F2b2 C2g0 F2g0 C2g1 F2g1 C2g2 F2g2
    have l3a : w.heap.size < w3.heap.size := by omega
    have l3b : w.heap.size + 1 < w3.heap.size := by omega
    have l3g : w1.heap.size < w3.heap.size := by omega
    have l3x : w2.heap.size < w3.heap.size := by omega
    have l3j : w2.heap.size + 1 < w3.heap.size := by omega
    go_wp2_with fail
    refine (HZ.out _).mono ?_
    rintro e w4 ⟨rfl, hx⟩
    have fs4 : w3.heap.size + 1 + 1 ≤ w4.heap.size := by simpa using hx.size
    obtain ⟨fc, ff⟩ := And.intro hx.cells hx.marks
    have C4a0 : w4.cell? ⟨w.heap.size, 0, none⟩ = some (Value.bool true) := by rw [fc _ _ (by first | omega | (simp; omega) | simp)]; simp [go_sem, *]
    have F4a0 : w4.frozen? ⟨w.heap.size, 0, none⟩ = false := by rw [ff _ _ (by first | omega | (simp; omega) | simp)]; simp [go_sem, *]
    have C4a1 : w4.cell? ⟨w.heap.size, 1, none⟩ = some (Value.int IntKind.u64 mh) := by rw [fc _ _ (by first | omega | (simp; omega) | simp)]; simp [go_sem, *]
    have F4a1 : w4.frozen? ⟨w.heap.size, 1, none⟩ = false := by rw [ff _ _ (by first | omega | (simp; omega) | simp)]; simp [go_sem, *]
    have C4a2 : w4.cell? ⟨w.heap.size, 2, none⟩ = some (Value.int IntKind.u64 ml) := by rw [fc _ _ (by first | omega | (simp; omega) | simp)]; simp [go_sem, *]
    have F4a2 : w4.frozen? ⟨w.heap.size, 2, none⟩ = false := by rw [ff _ _ (by first | omega | (simp; omega) | simp)]; simp [go_sem, *]
    have C4b0 : w4.cell? ⟨w.heap.size + 1, 0, none⟩ = some (Value.bool false) := by rw [fc _ _ (by first | omega | (simp; omega) | simp)]; simp [go_sem, *]
    have F4b0 : w4.frozen? ⟨w.heap.size + 1, 0, none⟩ = false := by rw [ff _ _ (by first | omega | (simp; omega) | simp)]; simp [go_sem, *]
    have C4b1 : w4.cell? ⟨w.heap.size + 1, 1, none⟩ = some (Value.int IntKind.u64 nh) := by rw [fc _ _ (by first | omega | (simp; omega) | simp)]; simp [go_sem, *]
    have F4b1 : w4.frozen? ⟨w.heap.size + 1, 1, none⟩ = false := by rw [ff _ _ (by first | omega | (simp; omega) | simp)]; simp [go_sem, *]
    have C4b2 : w4.cell? ⟨w.heap.size + 1, 2, none⟩ = some (Value.int IntKind.u64 nl) := by rw [fc _ _ (by first | omega | (simp; omega) | simp)]; simp [go_sem, *]
    have F4b2 : w4.frozen? ⟨w.heap.size + 1, 2, none⟩ = false := by rw [ff _ _ (by first | omega | (simp; omega) | simp)]; simp [go_sem, *]
    have C4g0 : w4.cell? ⟨w1.heap.size, 0, none⟩ = some (Value.bool false) := by rw [fc _ _ (by first | omega | (simp; omega) | simp)]; simp [go_sem, *]
    have F4g0 : w4.frozen? ⟨w1.heap.size, 0, none⟩ = false := by rw [ff _ _ (by first | omega | (simp; omega) | simp)]; simp [go_sem, *]
    have C4g1 : w4.cell? ⟨w1.heap.size, 1, none⟩ = some (Value.int IntKind.u64 gh) := by rw [fc _ _ (by first | omega | (simp; omega) | simp)]; simp [go_sem, *]
    have F4g1 : w4.frozen? ⟨w1.heap.size, 1, none⟩ = false := by rw [ff _ _ (by first | omega | (simp; omega) | simp)]; simp [go_sem, *]
    have C4g2 : w4.cell? ⟨w1.heap.size, 2, none⟩ = some (Value.int IntKind.u64 gl) := by rw [fc _ _ (by first | omega | (simp; omega) | simp)]; simp [go_sem, *]
    have F4g2 : w4.frozen? ⟨w1.heap.size, 2, none⟩ = false := by rw [ff _ _ (by first | omega | (simp; omega) | simp)]; simp [go_sem, *]
    have C4x0 : w4.cell? ⟨w2.heap.size, 0, none⟩ = some (Value.bool false) := by rw [fc _ _ (by first | omega | (simp; omega) | simp)]; simp [go_sem, *]
    have F4x0 : w4.frozen? ⟨w2.heap.size, 0, none⟩ = false := by rw [ff _ _ (by first | omega | (simp; omega) | simp)]; simp [go_sem, *]
    have C4x1 : w4.cell? ⟨w2.heap.size, 1, none⟩ = some (Value.int IntKind.u64 xh) := by rw [fc _ _ (by first | omega | (simp; omega) | simp)]; simp [go_sem, *]
    have F4x1 : w4.frozen? ⟨w2.heap.size, 1, none⟩ = false := by rw [ff _ _ (by first | omega | (simp; omega) | simp)]; simp [go_sem, *]
    have C4x2 : w4.cell? ⟨w2.heap.size, 2, none⟩ = some (Value.int IntKind.u64 xl) := by rw [fc _ _ (by first | omega | (simp; omega) | simp)]; simp [go_sem, *]
    have F4x2 : w4.frozen? ⟨w2.heap.size, 2, none⟩ = false := by rw [ff _ _ (by first | omega | (simp; omega) | simp)]; simp [go_sem, *]
    have C4j0 : w4.cell? ⟨w2.heap.size + 1, 0, none⟩ = some (Value.bool false) := by rw [fc _ _ (by first | omega | (simp; omega) | simp)]; simp [go_sem, *]
    have F4j0 : w4.frozen? ⟨w2.heap.size + 1, 0, none⟩ = false := by rw [ff _ _ (by first | omega | (simp; omega) | simp)]; simp [go_sem, *]
    have C4j1 : w4.cell? ⟨w2.heap.size + 1, 1, none⟩ = some (Value.int IntKind.u64 j1) := by rw [fc _ _ (by first | omega | (simp; omega) | simp)]; simp [go_sem, *]
    have F4j1 : w4.frozen? ⟨w2.heap.size + 1, 1, none⟩ = false := by rw [ff _ _ (by first | omega | (simp; omega) | simp)]; simp [go_sem, *]
    have C4j2 : w4.cell? ⟨w2.heap.size + 1, 2, none⟩ = some (Value.int IntKind.u64 j2) := by rw [fc _ _ (by first | omega | (simp; omega) | simp)]; simp [go_sem, *]
    have F4j2 : w4.frozen? ⟨w2.heap.size + 1, 2, none⟩ = false := by rw [ff _ _ (by first | omega | (simp; omega) | simp)]; simp [go_sem, *]
    have C4y0 : w4.cell? ⟨w3.heap.size, 0, none⟩ = some (Value.bool false) := by rw [fc _ _ (by first | omega | (simp; omega) | simp)]; simp [go_sem, *]
    have F4y0 : w4.frozen? ⟨w3.heap.size, 0, none⟩ = false := by rw [ff _ _ (by first | omega | (simp; omega) | simp)]; simp [go_sem, *]
    have C4y1 : w4.cell? ⟨w3.heap.size, 1, none⟩ = some (Value.int IntKind.u64 yh) := by rw [fc _ _ (by first | omega | (simp; omega) | simp)]; simp [go_sem, *]
    have F4y1 : w4.frozen? ⟨w3.heap.size, 1, none⟩ = false := by rw [ff _ _ (by first | omega | (simp; omega) | simp)]; simp [go_sem, *]
    have C4y2 : w4.cell? ⟨w3.heap.size, 2, none⟩ = some (Value.int IntKind.u64 yl) := by rw [fc _ _ (by first | omega | (simp; omega) | simp)]; simp [go_sem, *]
    have F4y2 : w4.frozen? ⟨w3.heap.size, 2, none⟩ = false := by rw [ff _ _ (by first | omega | (simp; omega) | simp)]; simp [go_sem, *]
    have C4i0 : w4.cell? ⟨w3.heap.size + 1, 0, none⟩ = some (Value.bool false) := by rw [fc _ _ (by first | omega | (simp; omega) | simp)]; simp [go_sem, *]
    have F4i0 : w4.frozen? ⟨w3.heap.size + 1, 0, none⟩ = false := by rw [ff _ _ (by first | omega | (simp; omega) | simp)]; simp [go_sem, *]
    have C4i1 : w4.cell? ⟨w3.heap.size + 1, 1, none⟩ = some (Value.int IntKind.u64 j3) := by rw [fc _ _ (by first | omega | (simp; omega) | simp)]; simp [go_sem, *]
    have F4i1 : w4.frozen? ⟨w3.heap.size + 1, 1, none⟩ = false := by rw [ff _ _ (by first | omega | (simp; omega) | simp)]; simp [go_sem, *]
    have C4i2 : w4.cell? ⟨w3.heap.size + 1, 2, none⟩ = some (Value.int IntKind.u64 j4) := by rw [fc _ _ (by first | omega | (simp; omega) | simp)]; simp [go_sem, *]
    have F4i2 : w4.frozen? ⟨w3.heap.size + 1, 2, none⟩ = false := by rw [ff _ _ (by first | omega | (simp; omega) | simp)]; simp [go_sem, *]
    clear fc ff
    have X4 : Ext w w4 := Ext.trans (by repeat (first | (with_reducible exact Ext.refl _) | (with_reducible assumption) | (with_reducible refine Ext.alloc ?_ _) | (with_reducible refine Ext.drewN ?_ _) | (with_reducible refine Ext.drew ?_) | (with_reducible refine Ext.setCell ?_ (by simp <;> omega) _))) hx
    clear hx X3 C3a0 F3a0 C3a1 F3a1 C3a2 F3a2 C3b0 F3b0 C3b1 F3b1 C3b2 F3b2 C3g0 F3g0 C3g1 F3g1 C3g2 F3g2 C3x0 F3x0 C3x1 F3x1 C3x2 F3x2 C3j0 F3j0 C3j1 F3j1 C3j2 F3j2
    have l4a : w.heap.size < w4.heap.size := by omega
    have l4b : w.heap.size + 1 < w4.heap.size := by omega
    have l4g : w1.heap.size < w4.heap.size := by omega
    have l4x : w2.heap.size < w4.heap.size := by omega
    have l4j : w2.heap.size + 1 < w4.heap.size := by omega
    have l4y : w3.heap.size < w4.heap.size := by omega
    have l4i : w3.heap.size + 1 < w4.heap.size := by omega
    go_wp2_with fail
    refine (HN1.out _).mono ?_
    rintro e w5 ⟨rfl, hx⟩
    have fs5 : w4.heap.size ≤ w5.heap.size := by simpa using hx.size
    obtain ⟨fc, ff⟩ := And.intro hx.cells hx.marks
    have C5a0 : w5.cell? ⟨w.heap.size, 0, none⟩ = some (Value.bool true) := by rw [fc _ _ (by first | omega | (simp; omega) | simp)]; simp [go_sem, *]
    have F5a0 : w5.frozen? ⟨w.heap.size, 0, none⟩ = false := by rw [ff _ _ (by first | omega | (simp; omega) | simp)]; simp [go_sem, *]
    have C5a1 : w5.cell? ⟨w.heap.size, 1, none⟩ = some (Value.int IntKind.u64 mh) := by rw [fc _ _ (by first | omega | (simp; omega) | simp)]; simp [go_sem, *]
    have F5a1 : w5.frozen? ⟨w.heap.size, 1, none⟩ = false := by rw [ff _ _ (by first | omega | (simp; omega) | simp)]; simp [go_sem, *]
    have C5a2 : w5.cell? ⟨w.heap.size, 2, none⟩ = some (Value.int IntKind.u64 ml) := by rw [fc _ _ (by first | omega | (simp; omega) | simp)]; simp [go_sem, *]
    have F5a2 : w5.frozen? ⟨w.heap.size, 2, none⟩ = false := by rw [ff _ _ (by first | omega | (simp; omega) | simp)]; simp [go_sem, *]
    have C5b0 : w5.cell? ⟨w.heap.size + 1, 0, none⟩ = some (Value.bool false) := by rw [fc _ _ (by first | omega | (simp; omega) | simp)]; simp [go_sem, *]
    have F5b0 : w5.frozen? ⟨w.heap.size + 1, 0, none⟩ = false := by rw [ff _ _ (by first | omega | (simp; omega) | simp)]; simp [go_sem, *]
    have C5b1 : w5.cell? ⟨w.heap.size + 1, 1, none⟩ = some (Value.int IntKind.u64 nh) := by rw [fc _ _ (by first | omega | (simp; omega) | simp)]; simp [go_sem, *]
    have F5b1 : w5.frozen? ⟨w.heap.size + 1, 1, none⟩ = false := by rw [ff _ _ (by first | omega | (simp; omega) | simp)]; simp [go_sem, *]
    have C5b2 : w5.cell? ⟨w.heap.size + 1, 2, none⟩ = some (Value.int IntKind.u64 nl) := by rw [fc _ _ (by first | omega | (simp; omega) | simp)]; simp [go_sem, *]
    have F5b2 : w5.frozen? ⟨w.heap.size + 1, 2, none⟩ = false := by rw [ff _ _ (by first | omega | (simp; omega) | simp)]; simp [go_sem, *]
    have C5g0 : w5.cell? ⟨w1.heap.size, 0, none⟩ = some (Value.bool false) := by rw [fc _ _ (by first | omega | (simp; omega) | simp)]; simp [go_sem, *]
    have F5g0 : w5.frozen? ⟨w1.heap.size, 0, none⟩ = false := by rw [ff _ _ (by first | omega | (simp; omega) | simp)]; simp [go_sem, *]
    have C5g1 : w5.cell? ⟨w1.heap.size, 1, none⟩ = some (Value.int IntKind.u64 gh) := by rw [fc _ _ (by first | omega | (simp; omega) | simp)]; simp [go_sem, *]
    have F5g1 : w5.frozen? ⟨w1.heap.size, 1, none⟩ = false := by rw [ff _ _ (by first | omega | (simp; omega) | simp)]; simp [go_sem, *]
    have C5g2 : w5.cell? ⟨w1.heap.size, 2, none⟩ = some (Value.int IntKind.u64 gl) := by rw [fc _ _ (by first | omega | (simp; omega) | simp)]; simp [go_sem, *]
    have F5g2 : w5.frozen? ⟨w1.heap.size, 2, none⟩ = false := by rw [ff _ _ (by first | omega | (simp; omega) | simp)]; simp [go_sem, *]
    have C5x0 : w5.cell? ⟨w2.heap.size, 0, none⟩ = some (Value.bool (!mz)) := by rw [fc _ _ (by first | omega | (simp; omega) | simp)]; simp [go_sem, *]
    have F5x0 : w5.frozen? ⟨w2.heap.size, 0, none⟩ = false := by rw [ff _ _ (by first | omega | (simp; omega) | simp)]; simp [go_sem, *]
    have C5x1 : w5.cell? ⟨w2.heap.size, 1, none⟩ = some (Value.int IntKind.u64 xh) := by rw [fc _ _ (by first | omega | (simp; omega) | simp)]; simp [go_sem, *]
    have F5x1 : w5.frozen? ⟨w2.heap.size, 1, none⟩ = false := by rw [ff _ _ (by first | omega | (simp; omega) | simp)]; simp [go_sem, *]
    have C5x2 : w5.cell? ⟨w2.heap.size, 2, none⟩ = some (Value.int IntKind.u64 xl) := by rw [fc _ _ (by first | omega | (simp; omega) | simp)]; simp [go_sem, *]
    have F5x2 : w5.frozen? ⟨w2.heap.size, 2, none⟩ = false := by rw [ff _ _ (by first | omega | (simp; omega) | simp)]; simp [go_sem, *]
    have C5j0 : w5.cell? ⟨w2.heap.size + 1, 0, none⟩ = some (Value.bool false) := by rw [fc _ _ (by first | omega | (simp; omega) | simp)]; simp [go_sem, *]
    have F5j0 : w5.frozen? ⟨w2.heap.size + 1, 0, none⟩ = false := by rw [ff _ _ (by first | omega | (simp; omega) | simp)]; simp [go_sem, *]
    have C5j1 : w5.cell? ⟨w2.heap.size + 1, 1, none⟩ = some (Value.int IntKind.u64 j1) := by rw [fc _ _ (by first | omega | (simp; omega) | simp)]; simp [go_sem, *]
    have F5j1 : w5.frozen? ⟨w2.heap.size + 1, 1, none⟩ = false := by rw [ff _ _ (by first | omega | (simp; omega) | simp)]; simp [go_sem, *]
    have C5j2 : w5.cell? ⟨w2.heap.size + 1, 2, none⟩ = some (Value.int IntKind.u64 j2) := by rw [fc _ _ (by first | omega | (simp; omega) | simp)]; simp [go_sem, *]
    have F5j2 : w5.frozen? ⟨w2.heap.size + 1, 2, none⟩ = false := by rw [ff _ _ (by first | omega | (simp; omega) | simp)]; simp [go_sem, *]
    have C5y0 : w5.cell? ⟨w3.heap.size, 0, none⟩ = some (Value.bool false) := by rw [fc _ _ (by first | omega | (simp; omega) | simp)]; simp [go_sem, *]
    have F5y0 : w5.frozen? ⟨w3.heap.size, 0, none⟩ = false := by rw [ff _ _ (by first | omega | (simp; omega) | simp)]; simp [go_sem, *]
    have C5y1 : w5.cell? ⟨w3.heap.size, 1, none⟩ = some (Value.int IntKind.u64 yh) := by rw [fc _ _ (by first | omega | (simp; omega) | simp)]; simp [go_sem, *]
    have F5y1 : w5.frozen? ⟨w3.heap.size, 1, none⟩ = false := by rw [ff _ _ (by first | omega | (simp; omega) | simp)]; simp [go_sem, *]
    have C5y2 : w5.cell? ⟨w3.heap.size, 2, none⟩ = some (Value.int IntKind.u64 yl) := by rw [fc _ _ (by first | omega | (simp; omega) | simp)]; simp [go_sem, *]
    have F5y2 : w5.frozen? ⟨w3.heap.size, 2, none⟩ = false := by rw [ff _ _ (by first | omega | (simp; omega) | simp)]; simp [go_sem, *]
    have C5i0 : w5.cell? ⟨w3.heap.size + 1, 0, none⟩ = some (Value.bool false) := by rw [fc _ _ (by first | omega | (simp; omega) | simp)]; simp [go_sem, *]
    have F5i0 : w5.frozen? ⟨w3.heap.size + 1, 0, none⟩ = false := by rw [ff _ _ (by first | omega | (simp; omega) | simp)]; simp [go_sem, *]
    have C5i1 : w5.cell? ⟨w3.heap.size + 1, 1, none⟩ = some (Value.int IntKind.u64 j3) := by rw [fc _ _ (by first | omega | (simp; omega) | simp)]; simp [go_sem, *]
    have F5i1 : w5.frozen? ⟨w3.heap.size + 1, 1, none⟩ = false := by rw [ff _ _ (by first | omega | (simp; omega) | simp)]; simp [go_sem, *]
    have C5i2 : w5.cell? ⟨w3.heap.size + 1, 2, none⟩ = some (Value.int IntKind.u64 j4) := by rw [fc _ _ (by first | omega | (simp; omega) | simp)]; simp [go_sem, *]
    have F5i2 : w5.frozen? ⟨w3.heap.size + 1, 2, none⟩ = false := by rw [ff _ _ (by first | omega | (simp; omega) | simp)]; simp [go_sem, *]
    clear fc ff
    have X5 : Ext w w5 := Ext.trans (by repeat (first | (with_reducible exact Ext.refl _) | (with_reducible assumption) | (with_reducible refine Ext.alloc ?_ _) | (with_reducible refine Ext.drewN ?_ _) | (with_reducible refine Ext.drew ?_) | (with_reducible refine Ext.setCell ?_ (by simp <;> omega) _))) hx
    clear hx X4 C4a0 F4a0 C4a1 F4a1 C4a2 F4a2 C4b0 F4b0 C4b1 F4b1 C4b2 F4b2 C4g0 F4g0 C4g1 F4g1 C4g2 F4g2 C4x0 F4x0 C4x1 F4x1 C4x2 F4x2 C4j0 F4j0 C4j1 F4j1 C4j2 F4j2 C4y0 F4y0 C4y1 F4y1 C4y2 F4y2 C4i0 F4i0 C4i1 F4i1 C4i2 F4i2
    have l5a : w.heap.size < w5.heap.size := by omega
    have l5b : w.heap.size + 1 < w5.heap.size := by omega
    have l5g : w1.heap.size < w5.heap.size := by omega
    have l5x : w2.heap.size < w5.heap.size := by omega
    have l5j : w2.heap.size + 1 < w5.heap.size := by omega
    have l5y : w3.heap.size < w5.heap.size := by omega
    have l5i : w3.heap.size + 1 < w5.heap.size := by omega
    go_wp2_with fail
    refine (HN2.out _).mono ?_
    rintro e w6 ⟨rfl, hx⟩
    have fs6 : w5.heap.size ≤ w6.heap.size := by simpa using hx.size
    obtain ⟨fc, ff⟩ := And.intro hx.cells hx.marks
    have C6a0 : w6.cell? ⟨w.heap.size, 0, none⟩ = some (Value.bool true) := by rw [fc _ _ (by first | omega | (simp; omega) | simp)]; simp [go_sem, *]
    have F6a0 : w6.frozen? ⟨w.heap.size, 0, none⟩ = false := by rw [ff _ _ (by first | omega | (simp; omega) | simp)]; simp [go_sem, *]
    have C6a1 : w6.cell? ⟨w.heap.size, 1, none⟩ = some (Value.int IntKind.u64 mh) := by rw [fc _ _ (by first | omega | (simp; omega) | simp)]; simp [go_sem, *]
    have F6a1 : w6.frozen? ⟨w.heap.size, 1, none⟩ = false := by rw [ff _ _ (by first | omega | (simp; omega) | simp)]; simp [go_sem, *]
    have C6a2 : w6.cell? ⟨w.heap.size, 2, none⟩ = some (Value.int IntKind.u64 ml) := by rw [fc _ _ (by first | omega | (simp; omega) | simp)]; simp [go_sem, *]
    have F6a2 : w6.frozen? ⟨w.heap.size, 2, none⟩ = false := by rw [ff _ _ (by first | omega | (simp; omega) | simp)]; simp [go_sem, *]
    have C6b0 : w6.cell? ⟨w.heap.size + 1, 0, none⟩ = some (Value.bool false) := by rw [fc _ _ (by first | omega | (simp; omega) | simp)]; simp [go_sem, *]
    have F6b0 : w6.frozen? ⟨w.heap.size + 1, 0, none⟩ = false := by rw [ff _ _ (by first | omega | (simp; omega) | simp)]; simp [go_sem, *]
    have C6b1 : w6.cell? ⟨w.heap.size + 1, 1, none⟩ = some (Value.int IntKind.u64 nh) := by rw [fc _ _ (by first | omega | (simp; omega) | simp)]; simp [go_sem, *]
    have F6b1 : w6.frozen? ⟨w.heap.size + 1, 1, none⟩ = false := by rw [ff _ _ (by first | omega | (simp; omega) | simp)]; simp [go_sem, *]
    have C6b2 : w6.cell? ⟨w.heap.size + 1, 2, none⟩ = some (Value.int IntKind.u64 nl) := by rw [fc _ _ (by first | omega | (simp; omega) | simp)]; simp [go_sem, *]
    have F6b2 : w6.frozen? ⟨w.heap.size + 1, 2, none⟩ = false := by rw [ff _ _ (by first | omega | (simp; omega) | simp)]; simp [go_sem, *]
    have C6g0 : w6.cell? ⟨w1.heap.size, 0, none⟩ = some (Value.bool false) := by rw [fc _ _ (by first | omega | (simp; omega) | simp)]; simp [go_sem, *]
    have F6g0 : w6.frozen? ⟨w1.heap.size, 0, none⟩ = false := by rw [ff _ _ (by first | omega | (simp; omega) | simp)]; simp [go_sem, *]
    have C6g1 : w6.cell? ⟨w1.heap.size, 1, none⟩ = some (Value.int IntKind.u64 gh) := by rw [fc _ _ (by first | omega | (simp; omega) | simp)]; simp [go_sem, *]
    have F6g1 : w6.frozen? ⟨w1.heap.size, 1, none⟩ = false := by rw [ff _ _ (by first | omega | (simp; omega) | simp)]; simp [go_sem, *]
    have C6g2 : w6.cell? ⟨w1.heap.size, 2, none⟩ = some (Value.int IntKind.u64 gl) := by rw [fc _ _ (by first | omega | (simp; omega) | simp)]; simp [go_sem, *]
    have F6g2 : w6.frozen? ⟨w1.heap.size, 2, none⟩ = false := by rw [ff _ _ (by first | omega | (simp; omega) | simp)]; simp [go_sem, *]
    have C6x0 : w6.cell? ⟨w2.heap.size, 0, none⟩ = some (Value.bool (!mz)) := by rw [fc _ _ (by first | omega | (simp; omega) | simp)]; simp [go_sem, *]
    have F6x0 : w6.frozen? ⟨w2.heap.size, 0, none⟩ = false := by rw [ff _ _ (by first | omega | (simp; omega) | simp)]; simp [go_sem, *]
    have C6x1 : w6.cell? ⟨w2.heap.size, 1, none⟩ = some (Value.int IntKind.u64 xh) := by rw [fc _ _ (by first | omega | (simp; omega) | simp)]; simp [go_sem, *]
    have F6x1 : w6.frozen? ⟨w2.heap.size, 1, none⟩ = false := by rw [ff _ _ (by first | omega | (simp; omega) | simp)]; simp [go_sem, *]
    have C6x2 : w6.cell? ⟨w2.heap.size, 2, none⟩ = some (Value.int IntKind.u64 xl) := by rw [fc _ _ (by first | omega | (simp; omega) | simp)]; simp [go_sem, *]
    have F6x2 : w6.frozen? ⟨w2.heap.size, 2, none⟩ = false := by rw [ff _ _ (by first | omega | (simp; omega) | simp)]; simp [go_sem, *]
    have C6j0 : w6.cell? ⟨w2.heap.size + 1, 0, none⟩ = some (Value.bool false) := by rw [fc _ _ (by first | omega | (simp; omega) | simp)]; simp [go_sem, *]
    have F6j0 : w6.frozen? ⟨w2.heap.size + 1, 0, none⟩ = false := by rw [ff _ _ (by first | omega | (simp; omega) | simp)]; simp [go_sem, *]
    have C6j1 : w6.cell? ⟨w2.heap.size + 1, 1, none⟩ = some (Value.int IntKind.u64 j1) := by rw [fc _ _ (by first | omega | (simp; omega) | simp)]; simp [go_sem, *]
    have F6j1 : w6.frozen? ⟨w2.heap.size + 1, 1, none⟩ = false := by rw [ff _ _ (by first | omega | (simp; omega) | simp)]; simp [go_sem, *]
    have C6j2 : w6.cell? ⟨w2.heap.size + 1, 2, none⟩ = some (Value.int IntKind.u64 j2) := by rw [fc _ _ (by first | omega | (simp; omega) | simp)]; simp [go_sem, *]
    have F6j2 : w6.frozen? ⟨w2.heap.size + 1, 2, none⟩ = false := by rw [ff _ _ (by first | omega | (simp; omega) | simp)]; simp [go_sem, *]
    have C6y0 : w6.cell? ⟨w3.heap.size, 0, none⟩ = some (Value.bool false) := by rw [fc _ _ (by first | omega | (simp; omega) | simp)]; simp [go_sem, *]
    have F6y0 : w6.frozen? ⟨w3.heap.size, 0, none⟩ = false := by rw [ff _ _ (by first | omega | (simp; omega) | simp)]; simp [go_sem, *]
    have C6y1 : w6.cell? ⟨w3.heap.size, 1, none⟩ = some (Value.int IntKind.u64 yh) := by rw [fc _ _ (by first | omega | (simp; omega) | simp)]; simp [go_sem, *]
    have F6y1 : w6.frozen? ⟨w3.heap.size, 1, none⟩ = false := by rw [ff _ _ (by first | omega | (simp; omega) | simp)]; simp [go_sem, *]
    have C6y2 : w6.cell? ⟨w3.heap.size, 2, none⟩ = some (Value.int IntKind.u64 yl) := by rw [fc _ _ (by first | omega | (simp; omega) | simp)]; simp [go_sem, *]
    have F6y2 : w6.frozen? ⟨w3.heap.size, 2, none⟩ = false := by rw [ff _ _ (by first | omega | (simp; omega) | simp)]; simp [go_sem, *]
    have C6i0 : w6.cell? ⟨w3.heap.size + 1, 0, none⟩ = some (Value.bool false) := by rw [fc _ _ (by first | omega | (simp; omega) | simp)]; simp [go_sem, *]
    have F6i0 : w6.frozen? ⟨w3.heap.size + 1, 0, none⟩ = false := by rw [ff _ _ (by first | omega | (simp; omega) | simp)]; simp [go_sem, *]
    have C6i1 : w6.cell? ⟨w3.heap.size + 1, 1, none⟩ = some (Value.int IntKind.u64 j3) := by rw [fc _ _ (by first | omega | (simp; omega) | simp)]; simp [go_sem, *]
    have F6i1 : w6.frozen? ⟨w3.heap.size + 1, 1, none⟩ = false := by rw [ff _ _ (by first | omega | (simp; omega) | simp)]; simp [go_sem, *]
    have C6i2 : w6.cell? ⟨w3.heap.size + 1, 2, none⟩ = some (Value.int IntKind.u64 j4) := by rw [fc _ _ (by first | omega | (simp; omega) | simp)]; simp [go_sem, *]
    have F6i2 : w6.frozen? ⟨w3.heap.size + 1, 2, none⟩ = false := by rw [ff _ _ (by first | omega | (simp; omega) | simp)]; simp [go_sem, *]
    clear fc ff
    have X6 : Ext w w6 := Ext.trans (by repeat (first | (with_reducible exact Ext.refl _) | (with_reducible assumption) | (with_reducible refine Ext.alloc ?_ _) | (with_reducible refine Ext.drewN ?_ _) | (with_reducible refine Ext.drew ?_) | (with_reducible refine Ext.setCell ?_ (by simp <;> omega) _))) hx
    clear hx X5 C5a0 F5a0 C5a1 F5a1 C5a2 F5a2 C5b0 F5b0 C5b1 F5b1 C5b2 F5b2 C5g0 F5g0 C5g1 F5g1 C5g2 F5g2 C5x0 F5x0 C5x1 F5x1 C5x2 F5x2 C5j0 F5j0 C5j1 F5j1 C5j2 F5j2 C5y0 F5y0 C5y1 F5y1 C5y2 F5y2 C5i0 F5i0 C5i1 F5i1 C5i2 F5i2
    have l6a : w.heap.size < w6.heap.size := by omega
    have l6b : w.heap.size + 1 < w6.heap.size := by omega
    have l6g : w1.heap.size < w6.heap.size := by omega
    have l6x : w2.heap.size < w6.heap.size := by omega
    have l6j : w2.heap.size + 1 < w6.heap.size := by omega
    have l6y : w3.heap.size < w6.heap.size := by omega
    have l6i : w3.heap.size + 1 < w6.heap.size := by omega
    go_wp2_with fail
    exact bodyPost_ret (v := .tuple #[.int .i64 p, .int .i64 q, .bool (true && qo)]) (by simp [results, Tryd.results34, go_sem]) rfl ⟨rfl, (by repeat (first | (with_reducible exact Ext.refl _) | (with_reducible assumption) | (with_reducible refine Ext.alloc ?_ _) | (with_reducible refine Ext.drewN ?_ _) | (with_reducible refine Ext.drew ?_) | (with_reducible refine Ext.setCell ?_ (by simp <;> omega) _)))⟩
  · go_enter Tryd.func34, Tryd.ntmps34
    go_wp2_with fail
    refine (HG.out _).mono ?_
    rintro e w1 ⟨rfl, hx⟩
    have fs1 : w.heap.size + 1 + 1 ≤ w1.heap.size := by simpa using hx.size
    obtain ⟨fc, ff⟩ := And.intro hx.cells hx.marks
    have C1a0 : w1.cell? ⟨w.heap.size, 0, none⟩ = some (Value.bool true) := by rw [fc _ _ (by first | omega | (simp; omega) | simp)]; simp [go_sem, *]
    have F1a0 : w1.frozen? ⟨w.heap.size, 0, none⟩ = false := by rw [ff _ _ (by first | omega | (simp; omega) | simp)]; simp [go_sem, *]
    have C1a1 : w1.cell? ⟨w.heap.size, 1, none⟩ = some (Value.int IntKind.u64 mh) := by rw [fc _ _ (by first | omega | (simp; omega) | simp)]; simp [go_sem, *]
    have F1a1 : w1.frozen? ⟨w.heap.size, 1, none⟩ = false := by rw [ff _ _ (by first | omega | (simp; omega) | simp)]; simp [go_sem, *]
    have C1a2 : w1.cell? ⟨w.heap.size, 2, none⟩ = some (Value.int IntKind.u64 ml) := by rw [fc _ _ (by first | omega | (simp; omega) | simp)]; simp [go_sem, *]
    have F1a2 : w1.frozen? ⟨w.heap.size, 2, none⟩ = false := by rw [ff _ _ (by first | omega | (simp; omega) | simp)]; simp [go_sem, *]
    have C1b0 : w1.cell? ⟨w.heap.size + 1, 0, none⟩ = some (Value.bool true) := by rw [fc _ _ (by first | omega | (simp; omega) | simp)]; simp [go_sem, *]
    have F1b0 : w1.frozen? ⟨w.heap.size + 1, 0, none⟩ = false := by rw [ff _ _ (by first | omega | (simp; omega) | simp)]; simp [go_sem, *]
    have C1b1 : w1.cell? ⟨w.heap.size + 1, 1, none⟩ = some (Value.int IntKind.u64 nh) := by rw [fc _ _ (by first | omega | (simp; omega) | simp)]; simp [go_sem, *]
    have F1b1 : w1.frozen? ⟨w.heap.size + 1, 1, none⟩ = false := by rw [ff _ _ (by first | omega | (simp; omega) | simp)]; simp [go_sem, *]
    have C1b2 : w1.cell? ⟨w.heap.size + 1, 2, none⟩ = some (Value.int IntKind.u64 nl) := by rw [fc _ _ (by first | omega | (simp; omega) | simp)]; simp [go_sem, *]
    have F1b2 : w1.frozen? ⟨w.heap.size + 1, 2, none⟩ = false := by rw [ff _ _ (by first | omega | (simp; omega) | simp)]; simp [go_sem, *]
    clear fc ff
    have X1 : Ext w w1 := Ext.trans (by repeat (first | (with_reducible exact Ext.refl _) | (with_reducible assumption) | (with_reducible refine Ext.alloc ?_ _) | (with_reducible refine Ext.drewN ?_ _) | (with_reducible refine Ext.drew ?_) | (with_reducible refine Ext.setCell ?_ (by simp <;> omega) _))) hx
    clear hx 
    have l1a : w.heap.size < w1.heap.size := by omega
    have l1b : w.heap.size + 1 < w1.heap.size := by omega
    go_wp2_with fail
    refine (HD1.out _).mono ?_
    rintro e w2 ⟨rfl, hx⟩
    have fs2 : w1.heap.size + 1 ≤ w2.heap.size := by simpa using hx.size
    obtain ⟨fc, ff⟩ := And.intro hx.cells hx.marks
    have C2a0 : w2.cell? ⟨w.heap.size, 0, none⟩ = some (Value.bool true) := by rw [fc _ _ (by first | omega | (simp; omega) | simp)]; simp [go_sem, *]
    have F2a0 : w2.frozen? ⟨w.heap.size, 0, none⟩ = false := by rw [ff _ _ (by first | omega | (simp; omega) | simp)]; simp [go_sem, *]
    have C2a1 : w2.cell? ⟨w.heap.size, 1, none⟩ = some (Value.int IntKind.u64 mh) := by rw [fc _ _ (by first | omega | (simp; omega) | simp)]; simp [go_sem, *]
    have F2a1 : w2.frozen? ⟨w.heap.size, 1, none⟩ = false := by rw [ff _ _ (by first | omega | (simp; omega) | simp)]; simp [go_sem, *]
    have C2a2 : w2.cell? ⟨w.heap.size, 2, none⟩ = some (Value.int IntKind.u64 ml) := by rw [fc _ _ (by first | omega | (simp; omega) | simp)]; simp [go_sem, *]
    have F2a2 : w2.frozen? ⟨w.heap.size, 2, none⟩ = false := by rw [ff _ _ (by first | omega | (simp; omega) | simp)]; simp [go_sem, *]
    have C2b0 : w2.cell? ⟨w.heap.size + 1, 0, none⟩ = some (Value.bool true) := by rw [fc _ _ (by first | omega | (simp; omega) | simp)]; simp [go_sem, *]
    have F2b0 : w2.frozen? ⟨w.heap.size + 1, 0, none⟩ = false := by rw [ff _ _ (by first | omega | (simp; omega) | simp)]; simp [go_sem, *]
    have C2b1 : w2.cell? ⟨w.heap.size + 1, 1, none⟩ = some (Value.int IntKind.u64 nh) := by rw [fc _ _ (by first | omega | (simp; omega) | simp)]; simp [go_sem, *]
    have F2b1 : w2.frozen? ⟨w.heap.size + 1, 1, none⟩ = false := by rw [ff _ _ (by first | omega | (simp; omega) | simp)]; simp [go_sem, *]
    have C2b2 : w2.cell? ⟨w.heap.size + 1, 2, none⟩ = some (Value.int IntKind.u64 nl) := by rw [fc _ _ (by first | omega | (simp; omega) | simp)]; simp [go_sem, *]
    have F2b2 : w2.frozen? ⟨w.heap.size + 1, 2, none⟩ = false := by rw [ff _ _ (by first | omega | (simp; omega) | simp)]; simp [go_sem, *]
    have C2g0 : w2.cell? ⟨w1.heap.size, 0, none⟩ = some (Value.bool false) := by rw [fc _ _ (by first | omega | (simp; omega) | simp)]; simp [go_sem, *]
    have F2g0 : w2.frozen? ⟨w1.heap.size, 0, none⟩ = false := by rw [ff _ _ (by first | omega | (simp; omega) | simp)]; simp [go_sem, *]
    have C2g1 : w2.cell? ⟨w1.heap.size, 1, none⟩ = some (Value.int IntKind.u64 gh) := by rw [fc _ _ (by first | omega | (simp; omega) | simp)]; simp [go_sem, *]
    have F2g1 : w2.frozen? ⟨w1.heap.size, 1, none⟩ = false := by rw [ff _ _ (by first | omega | (simp; omega) | simp)]; simp [go_sem, *]
    have C2g2 : w2.cell? ⟨w1.heap.size, 2, none⟩ = some (Value.int IntKind.u64 gl) := by rw [fc _ _ (by first | omega | (simp; omega) | simp)]; simp [go_sem, *]
    have F2g2 : w2.frozen? ⟨w1.heap.size, 2, none⟩ = false := by rw [ff _ _ (by first | omega | (simp; omega) | simp)]; simp [go_sem, *]
    clear fc ff
    have X2 : Ext w w2 := Ext.trans (by repeat (first | (with_reducible exact Ext.refl _) | (with_reducible assumption) | (with_reducible refine Ext.alloc ?_ _) | (with_reducible refine Ext.drewN ?_ _) | (with_reducible refine Ext.drew ?_) | (with_reducible refine Ext.setCell ?_ (by simp <;> omega) _))) hx
    clear hx X1 C1a0 F1a0 C1a1 F1a1 C1a2 F1a2 C1b0 F1b0 C1b1 F1b1 C1b2 F1b2
    have l2a : w.heap.size < w2.heap.size := by omega
    have l2b : w.heap.size + 1 < w2.heap.size := by omega
    have l2g : w1.heap.size < w2.heap.size := by omega
    go_wp2_with fail
    refine (HD2.out _).mono ?_
    rintro e w3 ⟨rfl, hx⟩
    have fs3 : w2.heap.size + 1 + 1 ≤ w3.heap.size := by simpa using hx.size
    obtain ⟨fc, ff⟩ := And.intro hx.cells hx.marks
    have C3a0 : w3.cell? ⟨w.heap.size, 0, none⟩ = some (Value.bool true) := by rw [fc _ _ (by first | omega | (simp; omega) | simp)]; simp [go_sem, *]
    have F3a0 : w3.frozen? ⟨w.heap.size, 0, none⟩ = false := by rw [ff _ _ (by first | omega | (simp; omega) | simp)]; simp [go_sem, *]
    have C3a1 : w3.cell? ⟨w.heap.size, 1, none⟩ = some (Value.int IntKind.u64 mh) := by rw [fc _ _ (by first | omega | (simp; omega) | simp)]; simp [go_sem, *]
    have F3a1 : w3.frozen? ⟨w.heap.size, 1, none⟩ = false := by rw [ff _ _ (by first | omega | (simp; omega) | simp)]; simp [go_sem, *]
    have C3a2 : w3.cell? ⟨w.heap.size, 2, none⟩ = some (Value.int IntKind.u64 ml) := by rw [fc _ _ (by first | omega | (simp; omega) | simp)]; simp [go_sem, *]
    have F3a2 : w3.frozen? ⟨w.heap.size, 2, none⟩ = false := by rw [ff _ _ (by first | omega | (simp; omega) | simp)]; simp [go_sem, *]
    have C3b0 : w3.cell? ⟨w.heap.size + 1, 0, none⟩ = some (Value.bool true) := by rw [fc _ _ (by first | omega | (simp; omega) | simp)]; simp [go_sem, *]
    have F3b0 : w3.frozen? ⟨w.heap.size + 1, 0, none⟩ = false := by rw [ff _ _ (by first | omega | (simp; omega) | simp)]; simp [go_sem, *]
    have C3b1 : w3.cell? ⟨w.heap.size + 1, 1, none⟩ = some (Value.int IntKind.u64 nh) := by rw [fc _ _ (by first | omega | (simp; omega) | simp)]; simp [go_sem, *]
    have F3b1 : w3.frozen? ⟨w.heap.size + 1, 1, none⟩ = false := by rw [ff _ _ (by first | omega | (simp; omega) | simp)]; simp [go_sem, *]
    have C3b2 : w3.cell? ⟨w.heap.size + 1, 2, none⟩ = some (Value.int IntKind.u64 nl) := by rw [fc _ _ (by first | omega | (simp; omega) | simp)]; simp [go_sem, *]
    have F3b2 : w3.frozen? ⟨w.heap.size + 1, 2, none⟩ = false := by rw [ff _ _ (by first | omega | (simp; omega) | simp)]; simp [go_sem, *]
    have C3g0 : w3.cell? ⟨w1.heap.size, 0, none⟩ = some (Value.bool false) := by rw [fc _ _ (by first | omega | (simp; omega) | simp)]; simp [go_sem, *]
    have F3g0 : w3.frozen? ⟨w1.heap.size, 0, none⟩ = false := by rw [ff _ _ (by first | omega | (simp; omega) | simp)]; simp [go_sem, *]
    have C3g1 : w3.cell? ⟨w1.heap.size, 1, none⟩ = some (Value.int IntKind.u64 gh) := by rw [fc _ _ (by first | omega | (simp; omega) | simp)]; simp [go_sem, *]
    have F3g1 : w3.frozen? ⟨w1.heap.size, 1, none⟩ = false := by rw [ff _ _ (by first | omega | (simp; omega) | simp)]; simp [go_sem, *]
    have C3g2 : w3.cell? ⟨w1.heap.size, 2, none⟩ = some (Value.int IntKind.u64 gl) := by rw [fc _ _ (by first | omega | (simp; omega) | simp)]; simp [go_sem, *]
    have F3g2 : w3.frozen? ⟨w1.heap.size, 2, none⟩ = false := by rw [ff _ _ (by first | omega | (simp; omega) | simp)]; simp [go_sem, *]
    have C3x0 : w3.cell? ⟨w2.heap.size, 0, none⟩ = some (Value.bool false) := by rw [fc _ _ (by first | omega | (simp; omega) | simp)]; simp [go_sem, *]
    have F3x0 : w3.frozen? ⟨w2.heap.size, 0, none⟩ = false := by rw [ff _ _ (by first | omega | (simp; omega) | simp)]; simp [go_sem, *]
    have C3x1 : w3.cell? ⟨w2.heap.size, 1, none⟩ = some (Value.int IntKind.u64 xh) := by rw [fc _ _ (by first | omega | (simp; omega) | simp)]; simp [go_sem, *]
    have F3x1 : w3.frozen? ⟨w2.heap.size, 1, none⟩ = false := by rw [ff _ _ (by first | omega | (simp; omega) | simp)]; simp [go_sem, *]
    have C3x2 : w3.cell? ⟨w2.heap.size, 2, none⟩ = some (Value.int IntKind.u64 xl) := by rw [fc _ _ (by first | omega | (simp; omega) | simp)]; simp [go_sem, *]
    have F3x2 : w3.frozen? ⟨w2.heap.size, 2, none⟩ = false := by rw [ff _ _ (by first | omega | (simp; omega) | simp)]; simp [go_sem, *]
    have C3j0 : w3.cell? ⟨w2.heap.size + 1, 0, none⟩ = some (Value.bool false) := by rw [fc _ _ (by first | omega | (simp; omega) | simp)]; simp [go_sem, *]
    have F3j0 : w3.frozen? ⟨w2.heap.size + 1, 0, none⟩ = false := by rw [ff _ _ (by first | omega | (simp; omega) | simp)]; simp [go_sem, *]
    have C3j1 : w3.cell? ⟨w2.heap.size + 1, 1, none⟩ = some (Value.int IntKind.u64 j1) := by rw [fc _ _ (by first | omega | (simp; omega) | simp)]; simp [go_sem, *]
    have F3j1 : w3.frozen? ⟨w2.heap.size + 1, 1, none⟩ = false := by rw [ff _ _ (by first | omega | (simp; omega) | simp)]; simp [go_sem, *]
    have C3j2 : w3.cell? ⟨w2.heap.size + 1, 2, none⟩ = some (Value.int IntKind.u64 j2) := by rw [fc _ _ (by first | omega | (simp; omega) | simp)]; simp [go_sem, *]
    have F3j2 : w3.frozen? ⟨w2.heap.size + 1, 2, none⟩ = false := by rw [ff _ _ (by first | omega | (simp; omega) | simp)]; simp [go_sem, *]
    clear fc ff
    have X3 : Ext w w3 := Ext.trans (by repeat (first | (with_reducible exact Ext.refl _) | (with_reducible assumption) | (with_reducible refine Ext.alloc ?_ _) | (with_reducible refine Ext.drewN ?_ _) | (with_reducible refine Ext.drew ?_) | (with_reducible refine Ext.setCell ?_ (by simp <;> omega) _))) hx
    clear hx X2 C2a0 F2a0 C2a1 F2a1 C2a2 F2a2 C2b0 F2b0 C2b1 F2b1 C2b2 F2b2 C2g0 F2g0 C2g1 F2g1 C2g2 F2g2
    have l3a : w.heap.size < w3.heap.size := by omega
    have l3b : w.heap.size + 1 < w3.heap.size := by omega
    have l3g : w1.heap.size < w3.heap.size := by omega
    have l3x : w2.heap.size < w3.heap.size := by omega
    have l3j : w2.heap.size + 1 < w3.heap.size := by omega
    go_wp2_with fail
    refine (HN1.out _).mono ?_
    rintro e w4 ⟨rfl, hx⟩
    have fs4 : w3.heap.size + 1 + 1 ≤ w4.heap.size := by simpa using hx.size
    obtain ⟨fc, ff⟩ := And.intro hx.cells hx.marks
    have C4a0 : w4.cell? ⟨w.heap.size, 0, none⟩ = some (Value.bool true) := by rw [fc _ _ (by first | omega | (simp; omega) | simp)]; simp [go_sem, *]
    have F4a0 : w4.frozen? ⟨w.heap.size, 0, none⟩ = false := by rw [ff _ _ (by first | omega | (simp; omega) | simp)]; simp [go_sem, *]
    have C4a1 : w4.cell? ⟨w.heap.size, 1, none⟩ = some (Value.int IntKind.u64 mh) := by rw [fc _ _ (by first | omega | (simp; omega) | simp)]; simp [go_sem, *]
    have F4a1 : w4.frozen? ⟨w.heap.size, 1, none⟩ = false := by rw [ff _ _ (by first | omega | (simp; omega) | simp)]; simp [go_sem, *]
    have C4a2 : w4.cell? ⟨w.heap.size, 2, none⟩ = some (Value.int IntKind.u64 ml) := by rw [fc _ _ (by first | omega | (simp; omega) | simp)]; simp [go_sem, *]
    have F4a2 : w4.frozen? ⟨w.heap.size, 2, none⟩ = false := by rw [ff _ _ (by first | omega | (simp; omega) | simp)]; simp [go_sem, *]
    have C4b0 : w4.cell? ⟨w.heap.size + 1, 0, none⟩ = some (Value.bool true) := by rw [fc _ _ (by first | omega | (simp; omega) | simp)]; simp [go_sem, *]
    have F4b0 : w4.frozen? ⟨w.heap.size + 1, 0, none⟩ = false := by rw [ff _ _ (by first | omega | (simp; omega) | simp)]; simp [go_sem, *]
    have C4b1 : w4.cell? ⟨w.heap.size + 1, 1, none⟩ = some (Value.int IntKind.u64 nh) := by rw [fc _ _ (by first | omega | (simp; omega) | simp)]; simp [go_sem, *]
    have F4b1 : w4.frozen? ⟨w.heap.size + 1, 1, none⟩ = false := by rw [ff _ _ (by first | omega | (simp; omega) | simp)]; simp [go_sem, *]
    have C4b2 : w4.cell? ⟨w.heap.size + 1, 2, none⟩ = some (Value.int IntKind.u64 nl) := by rw [fc _ _ (by first | omega | (simp; omega) | simp)]; simp [go_sem, *]
    have F4b2 : w4.frozen? ⟨w.heap.size + 1, 2, none⟩ = false := by rw [ff _ _ (by first | omega | (simp; omega) | simp)]; simp [go_sem, *]
    have C4g0 : w4.cell? ⟨w1.heap.size, 0, none⟩ = some (Value.bool false) := by rw [fc _ _ (by first | omega | (simp; omega) | simp)]; simp [go_sem, *]
    have F4g0 : w4.frozen? ⟨w1.heap.size, 0, none⟩ = false := by rw [ff _ _ (by first | omega | (simp; omega) | simp)]; simp [go_sem, *]
    have C4g1 : w4.cell? ⟨w1.heap.size, 1, none⟩ = some (Value.int IntKind.u64 gh) := by rw [fc _ _ (by first | omega | (simp; omega) | simp)]; simp [go_sem, *]
    have F4g1 : w4.frozen? ⟨w1.heap.size, 1, none⟩ = false := by rw [ff _ _ (by first | omega | (simp; omega) | simp)]; simp [go_sem, *]
    have C4g2 : w4.cell? ⟨w1.heap.size, 2, none⟩ = some (Value.int IntKind.u64 gl) := by rw [fc _ _ (by first | omega | (simp; omega) | simp)]; simp [go_sem, *]
    have F4g2 : w4.frozen? ⟨w1.heap.size, 2, none⟩ = false := by rw [ff _ _ (by first | omega | (simp; omega) | simp)]; simp [go_sem, *]
    have C4x0 : w4.cell? ⟨w2.heap.size, 0, none⟩ = some (Value.bool false) := by rw [fc _ _ (by first | omega | (simp; omega) | simp)]; simp [go_sem, *]
    have F4x0 : w4.frozen? ⟨w2.heap.size, 0, none⟩ = false := by rw [ff _ _ (by first | omega | (simp; omega) | simp)]; simp [go_sem, *]
    have C4x1 : w4.cell? ⟨w2.heap.size, 1, none⟩ = some (Value.int IntKind.u64 xh) := by rw [fc _ _ (by first | omega | (simp; omega) | simp)]; simp [go_sem, *]
    have F4x1 : w4.frozen? ⟨w2.heap.size, 1, none⟩ = false := by rw [ff _ _ (by first | omega | (simp; omega) | simp)]; simp [go_sem, *]
    have C4x2 : w4.cell? ⟨w2.heap.size, 2, none⟩ = some (Value.int IntKind.u64 xl) := by rw [fc _ _ (by first | omega | (simp; omega) | simp)]; simp [go_sem, *]
    have F4x2 : w4.frozen? ⟨w2.heap.size, 2, none⟩ = false := by rw [ff _ _ (by first | omega | (simp; omega) | simp)]; simp [go_sem, *]
    have C4j0 : w4.cell? ⟨w2.heap.size + 1, 0, none⟩ = some (Value.bool false) := by rw [fc _ _ (by first | omega | (simp; omega) | simp)]; simp [go_sem, *]
    have F4j0 : w4.frozen? ⟨w2.heap.size + 1, 0, none⟩ = false := by rw [ff _ _ (by first | omega | (simp; omega) | simp)]; simp [go_sem, *]
    have C4j1 : w4.cell? ⟨w2.heap.size + 1, 1, none⟩ = some (Value.int IntKind.u64 j1) := by rw [fc _ _ (by first | omega | (simp; omega) | simp)]; simp [go_sem, *]
    have F4j1 : w4.frozen? ⟨w2.heap.size + 1, 1, none⟩ = false := by rw [ff _ _ (by first | omega | (simp; omega) | simp)]; simp [go_sem, *]
    have C4j2 : w4.cell? ⟨w2.heap.size + 1, 2, none⟩ = some (Value.int IntKind.u64 j2) := by rw [fc _ _ (by first | omega | (simp; omega) | simp)]; simp [go_sem, *]
    have F4j2 : w4.frozen? ⟨w2.heap.size + 1, 2, none⟩ = false := by rw [ff _ _ (by first | omega | (simp; omega) | simp)]; simp [go_sem, *]
    have C4y0 : w4.cell? ⟨w3.heap.size, 0, none⟩ = some (Value.bool false) := by rw [fc _ _ (by first | omega | (simp; omega) | simp)]; simp [go_sem, *]
    have F4y0 : w4.frozen? ⟨w3.heap.size, 0, none⟩ = false := by rw [ff _ _ (by first | omega | (simp; omega) | simp)]; simp [go_sem, *]
    have C4y1 : w4.cell? ⟨w3.heap.size, 1, none⟩ = some (Value.int IntKind.u64 yh) := by rw [fc _ _ (by first | omega | (simp; omega) | simp)]; simp [go_sem, *]
    have F4y1 : w4.frozen? ⟨w3.heap.size, 1, none⟩ = false := by rw [ff _ _ (by first | omega | (simp; omega) | simp)]; simp [go_sem, *]
    have C4y2 : w4.cell? ⟨w3.heap.size, 2, none⟩ = some (Value.int IntKind.u64 yl) := by rw [fc _ _ (by first | omega | (simp; omega) | simp)]; simp [go_sem, *]
    have F4y2 : w4.frozen? ⟨w3.heap.size, 2, none⟩ = false := by rw [ff _ _ (by first | omega | (simp; omega) | simp)]; simp [go_sem, *]
    have C4i0 : w4.cell? ⟨w3.heap.size + 1, 0, none⟩ = some (Value.bool false) := by rw [fc _ _ (by first | omega | (simp; omega) | simp)]; simp [go_sem, *]
    have F4i0 : w4.frozen? ⟨w3.heap.size + 1, 0, none⟩ = false := by rw [ff _ _ (by first | omega | (simp; omega) | simp)]; simp [go_sem, *]
    have C4i1 : w4.cell? ⟨w3.heap.size + 1, 1, none⟩ = some (Value.int IntKind.u64 j3) := by rw [fc _ _ (by first | omega | (simp; omega) | simp)]; simp [go_sem, *]
    have F4i1 : w4.frozen? ⟨w3.heap.size + 1, 1, none⟩ = false := by rw [ff _ _ (by first | omega | (simp; omega) | simp)]; simp [go_sem, *]
    have C4i2 : w4.cell? ⟨w3.heap.size + 1, 2, none⟩ = some (Value.int IntKind.u64 j4) := by rw [fc _ _ (by first | omega | (simp; omega) | simp)]; simp [go_sem, *]
    have F4i2 : w4.frozen? ⟨w3.heap.size + 1, 2, none⟩ = false := by rw [ff _ _ (by first | omega | (simp; omega) | simp)]; simp [go_sem, *]
    clear fc ff
    have X4 : Ext w w4 := Ext.trans (by repeat (first | (with_reducible exact Ext.refl _) | (with_reducible assumption) | (with_reducible refine Ext.alloc ?_ _) | (with_reducible refine Ext.drewN ?_ _) | (with_reducible refine Ext.drew ?_) | (with_reducible refine Ext.setCell ?_ (by simp <;> omega) _))) hx
    clear hx X3 C3a0 F3a0 C3a1 F3a1 C3a2 F3a2 C3b0 F3b0 C3b1 F3b1 C3b2 F3b2 C3g0 F3g0 C3g1 F3g1 C3g2 F3g2 C3x0 F3x0 C3x1 F3x1 C3x2 F3x2 C3j0 F3j0 C3j1 F3j1 C3j2 F3j2
    have l4a : w.heap.size < w4.heap.size := by omega
    have l4b : w.heap.size + 1 < w4.heap.size := by omega
    have l4g : w1.heap.size < w4.heap.size := by omega
    have l4x : w2.heap.size < w4.heap.size := by omega
    have l4j : w2.heap.size + 1 < w4.heap.size := by omega
    have l4y : w3.heap.size < w4.heap.size := by omega
    have l4i : w3.heap.size + 1 < w4.heap.size := by omega
    go_wp2_with fail
    refine (HN2.out _).mono ?_
    rintro e w5 ⟨rfl, hx⟩
    have fs5 : w4.heap.size ≤ w5.heap.size := by simpa using hx.size
    obtain ⟨fc, ff⟩ := And.intro hx.cells hx.marks
    have C5a0 : w5.cell? ⟨w.heap.size, 0, none⟩ = some (Value.bool true) := by rw [fc _ _ (by first | omega | (simp; omega) | simp)]; simp [go_sem, *]
    have F5a0 : w5.frozen? ⟨w.heap.size, 0, none⟩ = false := by rw [ff _ _ (by first | omega | (simp; omega) | simp)]; simp [go_sem, *]
    have C5a1 : w5.cell? ⟨w.heap.size, 1, none⟩ = some (Value.int IntKind.u64 mh) := by rw [fc _ _ (by first | omega | (simp; omega) | simp)]; simp [go_sem, *]
    have F5a1 : w5.frozen? ⟨w.heap.size, 1, none⟩ = false := by rw [ff _ _ (by first | omega | (simp; omega) | simp)]; simp [go_sem, *]
    have C5a2 : w5.cell? ⟨w.heap.size, 2, none⟩ = some (Value.int IntKind.u64 ml) := by rw [fc _ _ (by first | omega | (simp; omega) | simp)]; simp [go_sem, *]
    have F5a2 : w5.frozen? ⟨w.heap.size, 2, none⟩ = false := by rw [ff _ _ (by first | omega | (simp; omega) | simp)]; simp [go_sem, *]
    have C5b0 : w5.cell? ⟨w.heap.size + 1, 0, none⟩ = some (Value.bool true) := by rw [fc _ _ (by first | omega | (simp; omega) | simp)]; simp [go_sem, *]
    have F5b0 : w5.frozen? ⟨w.heap.size + 1, 0, none⟩ = false := by rw [ff _ _ (by first | omega | (simp; omega) | simp)]; simp [go_sem, *]
    have C5b1 : w5.cell? ⟨w.heap.size + 1, 1, none⟩ = some (Value.int IntKind.u64 nh) := by rw [fc _ _ (by first | omega | (simp; omega) | simp)]; simp [go_sem, *]
    have F5b1 : w5.frozen? ⟨w.heap.size + 1, 1, none⟩ = false := by rw [ff _ _ (by first | omega | (simp; omega) | simp)]; simp [go_sem, *]
    have C5b2 : w5.cell? ⟨w.heap.size + 1, 2, none⟩ = some (Value.int IntKind.u64 nl) := by rw [fc _ _ (by first | omega | (simp; omega) | simp)]; simp [go_sem, *]
    have F5b2 : w5.frozen? ⟨w.heap.size + 1, 2, none⟩ = false := by rw [ff _ _ (by first | omega | (simp; omega) | simp)]; simp [go_sem, *]
    have C5g0 : w5.cell? ⟨w1.heap.size, 0, none⟩ = some (Value.bool false) := by rw [fc _ _ (by first | omega | (simp; omega) | simp)]; simp [go_sem, *]
    have F5g0 : w5.frozen? ⟨w1.heap.size, 0, none⟩ = false := by rw [ff _ _ (by first | omega | (simp; omega) | simp)]; simp [go_sem, *]
    have C5g1 : w5.cell? ⟨w1.heap.size, 1, none⟩ = some (Value.int IntKind.u64 gh) := by rw [fc _ _ (by first | omega | (simp; omega) | simp)]; simp [go_sem, *]
    have F5g1 : w5.frozen? ⟨w1.heap.size, 1, none⟩ = false := by rw [ff _ _ (by first | omega | (simp; omega) | simp)]; simp [go_sem, *]
    have C5g2 : w5.cell? ⟨w1.heap.size, 2, none⟩ = some (Value.int IntKind.u64 gl) := by rw [fc _ _ (by first | omega | (simp; omega) | simp)]; simp [go_sem, *]
    have F5g2 : w5.frozen? ⟨w1.heap.size, 2, none⟩ = false := by rw [ff _ _ (by first | omega | (simp; omega) | simp)]; simp [go_sem, *]
    have C5x0 : w5.cell? ⟨w2.heap.size, 0, none⟩ = some (Value.bool false) := by rw [fc _ _ (by first | omega | (simp; omega) | simp)]; simp [go_sem, *]
    have F5x0 : w5.frozen? ⟨w2.heap.size, 0, none⟩ = false := by rw [ff _ _ (by first | omega | (simp; omega) | simp)]; simp [go_sem, *]
    have C5x1 : w5.cell? ⟨w2.heap.size, 1, none⟩ = some (Value.int IntKind.u64 xh) := by rw [fc _ _ (by first | omega | (simp; omega) | simp)]; simp [go_sem, *]
    have F5x1 : w5.frozen? ⟨w2.heap.size, 1, none⟩ = false := by rw [ff _ _ (by first | omega | (simp; omega) | simp)]; simp [go_sem, *]
    have C5x2 : w5.cell? ⟨w2.heap.size, 2, none⟩ = some (Value.int IntKind.u64 xl) := by rw [fc _ _ (by first | omega | (simp; omega) | simp)]; simp [go_sem, *]
    have F5x2 : w5.frozen? ⟨w2.heap.size, 2, none⟩ = false := by rw [ff _ _ (by first | omega | (simp; omega) | simp)]; simp [go_sem, *]
    have C5j0 : w5.cell? ⟨w2.heap.size + 1, 0, none⟩ = some (Value.bool false) := by rw [fc _ _ (by first | omega | (simp; omega) | simp)]; simp [go_sem, *]
    have F5j0 : w5.frozen? ⟨w2.heap.size + 1, 0, none⟩ = false := by rw [ff _ _ (by first | omega | (simp; omega) | simp)]; simp [go_sem, *]
    have C5j1 : w5.cell? ⟨w2.heap.size + 1, 1, none⟩ = some (Value.int IntKind.u64 j1) := by rw [fc _ _ (by first | omega | (simp; omega) | simp)]; simp [go_sem, *]
    have F5j1 : w5.frozen? ⟨w2.heap.size + 1, 1, none⟩ = false := by rw [ff _ _ (by first | omega | (simp; omega) | simp)]; simp [go_sem, *]
    have C5j2 : w5.cell? ⟨w2.heap.size + 1, 2, none⟩ = some (Value.int IntKind.u64 j2) := by rw [fc _ _ (by first | omega | (simp; omega) | simp)]; simp [go_sem, *]
    have F5j2 : w5.frozen? ⟨w2.heap.size + 1, 2, none⟩ = false := by rw [ff _ _ (by first | omega | (simp; omega) | simp)]; simp [go_sem, *]
    have C5y0 : w5.cell? ⟨w3.heap.size, 0, none⟩ = some (Value.bool false) := by rw [fc _ _ (by first | omega | (simp; omega) | simp)]; simp [go_sem, *]
    have F5y0 : w5.frozen? ⟨w3.heap.size, 0, none⟩ = false := by rw [ff _ _ (by first | omega | (simp; omega) | simp)]; simp [go_sem, *]
    have C5y1 : w5.cell? ⟨w3.heap.size, 1, none⟩ = some (Value.int IntKind.u64 yh) := by rw [fc _ _ (by first | omega | (simp; omega) | simp)]; simp [go_sem, *]
    have F5y1 : w5.frozen? ⟨w3.heap.size, 1, none⟩ = false := by rw [ff _ _ (by first | omega | (simp; omega) | simp)]; simp [go_sem, *]
    have C5y2 : w5.cell? ⟨w3.heap.size, 2, none⟩ = some (Value.int IntKind.u64 yl) := by rw [fc _ _ (by first | omega | (simp; omega) | simp)]; simp [go_sem, *]
    have F5y2 : w5.frozen? ⟨w3.heap.size, 2, none⟩ = false := by rw [ff _ _ (by first | omega | (simp; omega) | simp)]; simp [go_sem, *]
    have C5i0 : w5.cell? ⟨w3.heap.size + 1, 0, none⟩ = some (Value.bool false) := by rw [fc _ _ (by first | omega | (simp; omega) | simp)]; simp [go_sem, *]
    have F5i0 : w5.frozen? ⟨w3.heap.size + 1, 0, none⟩ = false := by rw [ff _ _ (by first | omega | (simp; omega) | simp)]; simp [go_sem, *]
    have C5i1 : w5.cell? ⟨w3.heap.size + 1, 1, none⟩ = some (Value.int IntKind.u64 j3) := by rw [fc _ _ (by first | omega | (simp; omega) | simp)]; simp [go_sem, *]
    have F5i1 : w5.frozen? ⟨w3.heap.size + 1, 1, none⟩ = false := by rw [ff _ _ (by first | omega | (simp; omega) | simp)]; simp [go_sem, *]
    have C5i2 : w5.cell? ⟨w3.heap.size + 1, 2, none⟩ = some (Value.int IntKind.u64 j4) := by rw [fc _ _ (by first | omega | (simp; omega) | simp)]; simp [go_sem, *]
    have F5i2 : w5.frozen? ⟨w3.heap.size + 1, 2, none⟩ = false := by rw [ff _ _ (by first | omega | (simp; omega) | simp)]; simp [go_sem, *]
    clear fc ff
    have X5 : Ext w w5 := Ext.trans (by repeat (first | (with_reducible exact Ext.refl _) | (with_reducible assumption) | (with_reducible refine Ext.alloc ?_ _) | (with_reducible refine Ext.drewN ?_ _) | (with_reducible refine Ext.drew ?_) | (with_reducible refine Ext.setCell ?_ (by simp <;> omega) _))) hx
    clear hx X4 C4a0 F4a0 C4a1 F4a1 C4a2 F4a2 C4b0 F4b0 C4b1 F4b1 C4b2 F4b2 C4g0 F4g0 C4g1 F4g1 C4g2 F4g2 C4x0 F4x0 C4x1 F4x1 C4x2 F4x2 C4j0 F4j0 C4j1 F4j1 C4j2 F4j2 C4y0 F4y0 C4y1 F4y1 C4y2 F4y2 C4i0 F4i0 C4i1 F4i1 C4i2 F4i2
    have l5a : w.heap.size < w5.heap.size := by omega
    have l5b : w.heap.size + 1 < w5.heap.size := by omega
    have l5g : w1.heap.size < w5.heap.size := by omega
    have l5x : w2.heap.size < w5.heap.size := by omega
    have l5j : w2.heap.size + 1 < w5.heap.size := by omega
    have l5y : w3.heap.size < w5.heap.size := by omega
    have l5i : w3.heap.size + 1 < w5.heap.size := by omega
    go_wp2_with fail
    exact bodyPost_ret (v := .tuple #[.int .i64 p, .int .i64 q, .bool (false && qo)]) (by simp [results, Tryd.results34, go_sem]) rfl ⟨rfl, (by repeat (first | (with_reducible exact Ext.refl _) | (with_reducible assumption) | (with_reducible refine Ext.alloc ?_ _) | (with_reducible refine Ext.drewN ?_ _) | (with_reducible refine Ext.drew ?_) | (with_reducible refine Ext.setCell ?_ (by simp <;> omega) _)))⟩
  · go_enter Tryd.func34, Tryd.ntmps34
    go_wp2_with fail
    refine (HG.out _).mono ?_
    rintro e w1 ⟨rfl, hx⟩
    have fs1 : w.heap.size + 1 + 1 ≤ w1.heap.size := by simpa using hx.size
    obtain ⟨fc, ff⟩ := And.intro hx.cells hx.marks
    have C1a0 : w1.cell? ⟨w.heap.size, 0, none⟩ = some (Value.bool true) := by rw [fc _ _ (by first | omega | (simp; omega) | simp)]; simp [go_sem, *]
    have F1a0 : w1.frozen? ⟨w.heap.size, 0, none⟩ = false := by rw [ff _ _ (by first | omega | (simp; omega) | simp)]; simp [go_sem, *]
    have C1a1 : w1.cell? ⟨w.heap.size, 1, none⟩ = some (Value.int IntKind.u64 mh) := by rw [fc _ _ (by first | omega | (simp; omega) | simp)]; simp [go_sem, *]
    have F1a1 : w1.frozen? ⟨w.heap.size, 1, none⟩ = false := by rw [ff _ _ (by first | omega | (simp; omega) | simp)]; simp [go_sem, *]
    have C1a2 : w1.cell? ⟨w.heap.size, 2, none⟩ = some (Value.int IntKind.u64 ml) := by rw [fc _ _ (by first | omega | (simp; omega) | simp)]; simp [go_sem, *]
    have F1a2 : w1.frozen? ⟨w.heap.size, 2, none⟩ = false := by rw [ff _ _ (by first | omega | (simp; omega) | simp)]; simp [go_sem, *]
    have C1b0 : w1.cell? ⟨w.heap.size + 1, 0, none⟩ = some (Value.bool true) := by rw [fc _ _ (by first | omega | (simp; omega) | simp)]; simp [go_sem, *]
    have F1b0 : w1.frozen? ⟨w.heap.size + 1, 0, none⟩ = false := by rw [ff _ _ (by first | omega | (simp; omega) | simp)]; simp [go_sem, *]
    have C1b1 : w1.cell? ⟨w.heap.size + 1, 1, none⟩ = some (Value.int IntKind.u64 nh) := by rw [fc _ _ (by first | omega | (simp; omega) | simp)]; simp [go_sem, *]
    have F1b1 : w1.frozen? ⟨w.heap.size + 1, 1, none⟩ = false := by rw [ff _ _ (by first | omega | (simp; omega) | simp)]; simp [go_sem, *]
    have C1b2 : w1.cell? ⟨w.heap.size + 1, 2, none⟩ = some (Value.int IntKind.u64 nl) := by rw [fc _ _ (by first | omega | (simp; omega) | simp)]; simp [go_sem, *]
    have F1b2 : w1.frozen? ⟨w.heap.size + 1, 2, none⟩ = false := by rw [ff _ _ (by first | omega | (simp; omega) | simp)]; simp [go_sem, *]
    clear fc ff
    have X1 : Ext w w1 := Ext.trans (by repeat (first | (with_reducible exact Ext.refl _) | (with_reducible assumption) | (with_reducible refine Ext.alloc ?_ _) | (with_reducible refine Ext.drewN ?_ _) | (with_reducible refine Ext.drew ?_) | (with_reducible refine Ext.setCell ?_ (by simp <;> omega) _))) hx
    clear hx 
    have l1a : w.heap.size < w1.heap.size := by omega
    have l1b : w.heap.size + 1 < w1.heap.size := by omega
    go_wp2_with fail
    refine (HD1.out _).mono ?_
    rintro e w2 ⟨rfl, hx⟩
    have fs2 : w1.heap.size + 1 ≤ w2.heap.size := by simpa using hx.size
    obtain ⟨fc, ff⟩ := And.intro hx.cells hx.marks
    have C2a0 : w2.cell? ⟨w.heap.size, 0, none⟩ = some (Value.bool true) := by rw [fc _ _ (by first | omega | (simp; omega) | simp)]; simp [go_sem, *]
    have F2a0 : w2.frozen? ⟨w.heap.size, 0, none⟩ = false := by rw [ff _ _ (by first | omega | (simp; omega) | simp)]; simp [go_sem, *]
    have C2a1 : w2.cell? ⟨w.heap.size, 1, none⟩ = some (Value.int IntKind.u64 mh) := by rw [fc _ _ (by first | omega | (simp; omega) | simp)]; simp [go_sem, *]
    have F2a1 : w2.frozen? ⟨w.heap.size, 1, none⟩ = false := by rw [ff _ _ (by first | omega | (simp; omega) | simp)]; simp [go_sem, *]
    have C2a2 : w2.cell? ⟨w.heap.size, 2, none⟩ = some (Value.int IntKind.u64 ml) := by rw [fc _ _ (by first | omega | (simp; omega) | simp)]; simp [go_sem, *]
    have F2a2 : w2.frozen? ⟨w.heap.size, 2, none⟩ = false := by rw [ff _ _ (by first | omega | (simp; omega) | simp)]; simp [go_sem, *]
    have C2b0 : w2.cell? ⟨w.heap.size + 1, 0, none⟩ = some (Value.bool true) := by rw [fc _ _ (by first | omega | (simp; omega) | simp)]; simp [go_sem, *]
    have F2b0 : w2.frozen? ⟨w.heap.size + 1, 0, none⟩ = false := by rw [ff _ _ (by first | omega | (simp; omega) | simp)]; simp [go_sem, *]
    have C2b1 : w2.cell? ⟨w.heap.size + 1, 1, none⟩ = some (Value.int IntKind.u64 nh) := by rw [fc _ _ (by first | omega | (simp; omega) | simp)]; simp [go_sem, *]
    have F2b1 : w2.frozen? ⟨w.heap.size + 1, 1, none⟩ = false := by rw [ff _ _ (by first | omega | (simp; omega) | simp)]; simp [go_sem, *]
    have C2b2 : w2.cell? ⟨w.heap.size + 1, 2, none⟩ = some (Value.int IntKind.u64 nl) := by rw [fc _ _ (by first | omega | (simp; omega) | simp)]; simp [go_sem, *]
    have F2b2 : w2.frozen? ⟨w.heap.size + 1, 2, none⟩ = false := by rw [ff _ _ (by first | omega | (simp; omega) | simp)]; simp [go_sem, *]
    have C2g0 : w2.cell? ⟨w1.heap.size, 0, none⟩ = some (Value.bool false) := by rw [fc _ _ (by first | omega | (simp; omega) | simp)]; simp [go_sem, *]
    have F2g0 : w2.frozen? ⟨w1.heap.size, 0, none⟩ = false := by rw [ff _ _ (by first | omega | (simp; omega) | simp)]; simp [go_sem, *]
    have C2g1 : w2.cell? ⟨w1.heap.size, 1, none⟩ = some (Value.int IntKind.u64 gh) := by rw [fc _ _ (by first | omega | (simp; omega) | simp)]; simp [go_sem, *]
    have F2g1 : w2.frozen? ⟨w1.heap.size, 1, none⟩ = false := by rw [ff _ _ (by first | omega | (simp; omega) | simp)]; simp [go_sem, *]
    have C2g2 : w2.cell? ⟨w1.heap.size, 2, none⟩ = some (Value.int IntKind.u64 gl) := by rw [fc _ _ (by first | omega | (simp; omega) | simp)]; simp [go_sem, *]
    have F2g2 : w2.frozen? ⟨w1.heap.size, 2, none⟩ = false := by rw [ff _ _ (by first | omega | (simp; omega) | simp)]; simp [go_sem, *]
    clear fc ff
    have X2 : Ext w w2 := Ext.trans (by repeat (first | (with_reducible exact Ext.refl _) | (with_reducible assumption) | (with_reducible refine Ext.alloc ?_ _) | (with_reducible refine Ext.drewN ?_ _) | (with_reducible refine Ext.drew ?_) | (with_reducible refine Ext.setCell ?_ (by simp <;> omega) _))) hx
    clear hx X1 C1a0 F1a0 C1a1 F1a1 C1a2 F1a2 C1b0 F1b0 C1b1 F1b1 C1b2 F1b2
    have l2a : w.heap.size < w2.heap.size := by omega
    have l2b : w.heap.size + 1 < w2.heap.size := by omega
    have l2g : w1.heap.size < w2.heap.size := by omega
    go_wp2_with fail
    refine (HD2.out _).mono ?_
    rintro e w3 ⟨rfl, hx⟩
    have fs3 : w2.heap.size + 1 + 1 ≤ w3.heap.size := by simpa using hx.size
    obtain ⟨fc, ff⟩ := And.intro hx.cells hx.marks
    have C3a0 : w3.cell? ⟨w.heap.size, 0, none⟩ = some (Value.bool true) := by rw [fc _ _ (by first | omega | (simp; omega) | simp)]; simp [go_sem, *]
    have F3a0 : w3.frozen? ⟨w.heap.size, 0, none⟩ = false := by rw [ff _ _ (by first | omega | (simp; omega) | simp)]; simp [go_sem, *]
    have C3a1 : w3.cell? ⟨w.heap.size, 1, none⟩ = some (Value.int IntKind.u64 mh) := by rw [fc _ _ (by first | omega | (simp; omega) | simp)]; simp [go_sem, *]
    have F3a1 : w3.frozen? ⟨w.heap.size, 1, none⟩ = false := by rw [ff _ _ (by first | omega | (simp; omega) | simp)]; simp [go_sem, *]
    have C3a2 : w3.cell? ⟨w.heap.size, 2, none⟩ = some (Value.int IntKind.u64 ml) := by rw [fc _ _ (by first | omega | (simp; omega) | simp)]; simp [go_sem, *]
    have F3a2 : w3.frozen? ⟨w.heap.size, 2, none⟩ = false := by rw [ff _ _ (by first | omega | (simp; omega) | simp)]; simp [go_sem, *]
    have C3b0 : w3.cell? ⟨w.heap.size + 1, 0, none⟩ = some (Value.bool true) := by rw [fc _ _ (by first | omega | (simp; omega) | simp)]; simp [go_sem, *]
    have F3b0 : w3.frozen? ⟨w.heap.size + 1, 0, none⟩ = false := by rw [ff _ _ (by first | omega | (simp; omega) | simp)]; simp [go_sem, *]
    have C3b1 : w3.cell? ⟨w.heap.size + 1, 1, none⟩ = some (Value.int IntKind.u64 nh) := by rw [fc _ _ (by first | omega | (simp; omega) | simp)]; simp [go_sem, *]
    have F3b1 : w3.frozen? ⟨w.heap.size + 1, 1, none⟩ = false := by rw [ff _ _ (by first | omega | (simp; omega) | simp)]; simp [go_sem, *]
    have C3b2 : w3.cell? ⟨w.heap.size + 1, 2, none⟩ = some (Value.int IntKind.u64 nl) := by rw [fc _ _ (by first | omega | (simp; omega) | simp)]; simp [go_sem, *]
    have F3b2 : w3.frozen? ⟨w.heap.size + 1, 2, none⟩ = false := by rw [ff _ _ (by first | omega | (simp; omega) | simp)]; simp [go_sem, *]
    have C3g0 : w3.cell? ⟨w1.heap.size, 0, none⟩ = some (Value.bool false) := by rw [fc _ _ (by first | omega | (simp; omega) | simp)]; simp [go_sem, *]
    have F3g0 : w3.frozen? ⟨w1.heap.size, 0, none⟩ = false := by rw [ff _ _ (by first | omega | (simp; omega) | simp)]; simp [go_sem, *]
    have C3g1 : w3.cell? ⟨w1.heap.size, 1, none⟩ = some (Value.int IntKind.u64 gh) := by rw [fc _ _ (by first | omega | (simp; omega) | simp)]; simp [go_sem, *]
    have F3g1 : w3.frozen? ⟨w1.heap.size, 1, none⟩ = false := by rw [ff _ _ (by first | omega | (simp; omega) | simp)]; simp [go_sem, *]
    have C3g2 : w3.cell? ⟨w1.heap.size, 2, none⟩ = some (Value.int IntKind.u64 gl) := by rw [fc _ _ (by first | omega | (simp; omega) | simp)]; simp [go_sem, *]
    have F3g2 : w3.frozen? ⟨w1.heap.size, 2, none⟩ = false := by rw [ff _ _ (by first | omega | (simp; omega) | simp)]; simp [go_sem, *]
    have C3x0 : w3.cell? ⟨w2.heap.size, 0, none⟩ = some (Value.bool false) := by rw [fc _ _ (by first | omega | (simp; omega) | simp)]; simp [go_sem, *]
    have F3x0 : w3.frozen? ⟨w2.heap.size, 0, none⟩ = false := by rw [ff _ _ (by first | omega | (simp; omega) | simp)]; simp [go_sem, *]
    have C3x1 : w3.cell? ⟨w2.heap.size, 1, none⟩ = some (Value.int IntKind.u64 xh) := by rw [fc _ _ (by first | omega | (simp; omega) | simp)]; simp [go_sem, *]
    have F3x1 : w3.frozen? ⟨w2.heap.size, 1, none⟩ = false := by rw [ff _ _ (by first | omega | (simp; omega) | simp)]; simp [go_sem, *]
    have C3x2 : w3.cell? ⟨w2.heap.size, 2, none⟩ = some (Value.int IntKind.u64 xl) := by rw [fc _ _ (by first | omega | (simp; omega) | simp)]; simp [go_sem, *]
    have F3x2 : w3.frozen? ⟨w2.heap.size, 2, none⟩ = false := by rw [ff _ _ (by first | omega | (simp; omega) | simp)]; simp [go_sem, *]
    have C3j0 : w3.cell? ⟨w2.heap.size + 1, 0, none⟩ = some (Value.bool false) := by rw [fc _ _ (by first | omega | (simp; omega) | simp)]; simp [go_sem, *]
    have F3j0 : w3.frozen? ⟨w2.heap.size + 1, 0, none⟩ = false := by rw [ff _ _ (by first | omega | (simp; omega) | simp)]; simp [go_sem, *]
    have C3j1 : w3.cell? ⟨w2.heap.size + 1, 1, none⟩ = some (Value.int IntKind.u64 j1) := by rw [fc _ _ (by first | omega | (simp; omega) | simp)]; simp [go_sem, *]
    have F3j1 : w3.frozen? ⟨w2.heap.size + 1, 1, none⟩ = false := by rw [ff _ _ (by first | omega | (simp; omega) | simp)]; simp [go_sem, *]
    have C3j2 : w3.cell? ⟨w2.heap.size + 1, 2, none⟩ = some (Value.int IntKind.u64 j2) := by rw [fc _ _ (by first | omega | (simp; omega) | simp)]; simp [go_sem, *]
    have F3j2 : w3.frozen? ⟨w2.heap.size + 1, 2, none⟩ = false := by rw [ff _ _ (by first | omega | (simp; omega) | simp)]; simp [go_sem, *]
    clear fc ff
    have X3 : Ext w w3 := Ext.trans (by repeat (first | (with_reducible exact Ext.refl _) | (with_reducible assumption) | (with_reducible refine Ext.alloc ?_ _) | (with_reducible refine Ext.drewN ?_ _) | (with_reducible refine Ext.drew ?_) | (with_reducible refine Ext.setCell ?_ (by simp <;> omega) _))) hx
    clear hx X2 C2a0 F2a0 C2a1 F2a1 C2a2 F2a2 C2b0 F2b0 C2b1 F2b1 C2b2 F2b2 C2g0 F2g0 C2g1 F2g1 C2g2 F2g2
    have l3a : w.heap.size < w3.heap.size := by omega
    have l3b : w.heap.size + 1 < w3.heap.size := by omega
    have l3g : w1.heap.size < w3.heap.size := by omega
    have l3x : w2.heap.size < w3.heap.size := by omega
    have l3j : w2.heap.size + 1 < w3.heap.size := by omega
    go_wp2_with fail
    refine (HN1.out _).mono ?_
    rintro e w4 ⟨rfl, hx⟩
    have fs4 : w3.heap.size + 1 + 1 ≤ w4.heap.size := by simpa using hx.size
    obtain ⟨fc, ff⟩ := And.intro hx.cells hx.marks
    have C4a0 : w4.cell? ⟨w.heap.size, 0, none⟩ = some (Value.bool true) := by rw [fc _ _ (by first | omega | (simp; omega) | simp)]; simp [go_sem, *]
    have F4a0 : w4.frozen? ⟨w.heap.size, 0, none⟩ = false := by rw [ff _ _ (by first | omega | (simp; omega) | simp)]; simp [go_sem, *]
    have C4a1 : w4.cell? ⟨w.heap.size, 1, none⟩ = some (Value.int IntKind.u64 mh) := by rw [fc _ _ (by first | omega | (simp; omega) | simp)]; simp [go_sem, *]
    have F4a1 : w4.frozen? ⟨w.heap.size, 1, none⟩ = false := by rw [ff _ _ (by first | omega | (simp; omega) | simp)]; simp [go_sem, *]
    have C4a2 : w4.cell? ⟨w.heap.size, 2, none⟩ = some (Value.int IntKind.u64 ml) := by rw [fc _ _ (by first | omega | (simp; omega) | simp)]; simp [go_sem, *]
    have F4a2 : w4.frozen? ⟨w.heap.size, 2, none⟩ = false := by rw [ff _ _ (by first | omega | (simp; omega) | simp)]; simp [go_sem, *]
    have C4b0 : w4.cell? ⟨w.heap.size + 1, 0, none⟩ = some (Value.bool true) := by rw [fc _ _ (by first | omega | (simp; omega) | simp)]; simp [go_sem, *]
    have F4b0 : w4.frozen? ⟨w.heap.size + 1, 0, none⟩ = false := by rw [ff _ _ (by first | omega | (simp; omega) | simp)]; simp [go_sem, *]
    have C4b1 : w4.cell? ⟨w.heap.size + 1, 1, none⟩ = some (Value.int IntKind.u64 nh) := by rw [fc _ _ (by first | omega | (simp; omega) | simp)]; simp [go_sem, *]
    have F4b1 : w4.frozen? ⟨w.heap.size + 1, 1, none⟩ = false := by rw [ff _ _ (by first | omega | (simp; omega) | simp)]; simp [go_sem, *]
    have C4b2 : w4.cell? ⟨w.heap.size + 1, 2, none⟩ = some (Value.int IntKind.u64 nl) := by rw [fc _ _ (by first | omega | (simp; omega) | simp)]; simp [go_sem, *]
    have F4b2 : w4.frozen? ⟨w.heap.size + 1, 2, none⟩ = false := by rw [ff _ _ (by first | omega | (simp; omega) | simp)]; simp [go_sem, *]
    have C4g0 : w4.cell? ⟨w1.heap.size, 0, none⟩ = some (Value.bool false) := by rw [fc _ _ (by first | omega | (simp; omega) | simp)]; simp [go_sem, *]
    have F4g0 : w4.frozen? ⟨w1.heap.size, 0, none⟩ = false := by rw [ff _ _ (by first | omega | (simp; omega) | simp)]; simp [go_sem, *]
    have C4g1 : w4.cell? ⟨w1.heap.size, 1, none⟩ = some (Value.int IntKind.u64 gh) := by rw [fc _ _ (by first | omega | (simp; omega) | simp)]; simp [go_sem, *]
    have F4g1 : w4.frozen? ⟨w1.heap.size, 1, none⟩ = false := by rw [ff _ _ (by first | omega | (simp; omega) | simp)]; simp [go_sem, *]
    have C4g2 : w4.cell? ⟨w1.heap.size, 2, none⟩ = some (Value.int IntKind.u64 gl) := by rw [fc _ _ (by first | omega | (simp; omega) | simp)]; simp [go_sem, *]
    have F4g2 : w4.frozen? ⟨w1.heap.size, 2, none⟩ = false := by rw [ff _ _ (by first | omega | (simp; omega) | simp)]; simp [go_sem, *]
    have C4x0 : w4.cell? ⟨w2.heap.size, 0, none⟩ = some (Value.bool false) := by rw [fc _ _ (by first | omega | (simp; omega) | simp)]; simp [go_sem, *]
    have F4x0 : w4.frozen? ⟨w2.heap.size, 0, none⟩ = false := by rw [ff _ _ (by first | omega | (simp; omega) | simp)]; simp [go_sem, *]
    have C4x1 : w4.cell? ⟨w2.heap.size, 1, none⟩ = some (Value.int IntKind.u64 xh) := by rw [fc _ _ (by first | omega | (simp; omega) | simp)]; simp [go_sem, *]
    have F4x1 : w4.frozen? ⟨w2.heap.size, 1, none⟩ = false := by rw [ff _ _ (by first | omega | (simp; omega) | simp)]; simp [go_sem, *]
    have C4x2 : w4.cell? ⟨w2.heap.size, 2, none⟩ = some (Value.int IntKind.u64 xl) := by rw [fc _ _ (by first | omega | (simp; omega) | simp)]; simp [go_sem, *]
    have F4x2 : w4.frozen? ⟨w2.heap.size, 2, none⟩ = false := by rw [ff _ _ (by first | omega | (simp; omega) | simp)]; simp [go_sem, *]
    have C4j0 : w4.cell? ⟨w2.heap.size + 1, 0, none⟩ = some (Value.bool false) := by rw [fc _ _ (by first | omega | (simp; omega) | simp)]; simp [go_sem, *]
    have F4j0 : w4.frozen? ⟨w2.heap.size + 1, 0, none⟩ = false := by rw [ff _ _ (by first | omega | (simp; omega) | simp)]; simp [go_sem, *]
    have C4j1 : w4.cell? ⟨w2.heap.size + 1, 1, none⟩ = some (Value.int IntKind.u64 j1) := by rw [fc _ _ (by first | omega | (simp; omega) | simp)]; simp [go_sem, *]
    have F4j1 : w4.frozen? ⟨w2.heap.size + 1, 1, none⟩ = false := by rw [ff _ _ (by first | omega | (simp; omega) | simp)]; simp [go_sem, *]
    have C4j2 : w4.cell? ⟨w2.heap.size + 1, 2, none⟩ = some (Value.int IntKind.u64 j2) := by rw [fc _ _ (by first | omega | (simp; omega) | simp)]; simp [go_sem, *]
    have F4j2 : w4.frozen? ⟨w2.heap.size + 1, 2, none⟩ = false := by rw [ff _ _ (by first | omega | (simp; omega) | simp)]; simp [go_sem, *]
    have C4y0 : w4.cell? ⟨w3.heap.size, 0, none⟩ = some (Value.bool false) := by rw [fc _ _ (by first | omega | (simp; omega) | simp)]; simp [go_sem, *]
    have F4y0 : w4.frozen? ⟨w3.heap.size, 0, none⟩ = false := by rw [ff _ _ (by first | omega | (simp; omega) | simp)]; simp [go_sem, *]
    have C4y1 : w4.cell? ⟨w3.heap.size, 1, none⟩ = some (Value.int IntKind.u64 yh) := by rw [fc _ _ (by first | omega | (simp; omega) | simp)]; simp [go_sem, *]
    have F4y1 : w4.frozen? ⟨w3.heap.size, 1, none⟩ = false := by rw [ff _ _ (by first | omega | (simp; omega) | simp)]; simp [go_sem, *]
    have C4y2 : w4.cell? ⟨w3.heap.size, 2, none⟩ = some (Value.int IntKind.u64 yl) := by rw [fc _ _ (by first | omega | (simp; omega) | simp)]; simp [go_sem, *]
    have F4y2 : w4.frozen? ⟨w3.heap.size, 2, none⟩ = false := by rw [ff _ _ (by first | omega | (simp; omega) | simp)]; simp [go_sem, *]
    have C4i0 : w4.cell? ⟨w3.heap.size + 1, 0, none⟩ = some (Value.bool false) := by rw [fc _ _ (by first | omega | (simp; omega) | simp)]; simp [go_sem, *]
    have F4i0 : w4.frozen? ⟨w3.heap.size + 1, 0, none⟩ = false := by rw [ff _ _ (by first | omega | (simp; omega) | simp)]; simp [go_sem, *]
    have C4i1 : w4.cell? ⟨w3.heap.size + 1, 1, none⟩ = some (Value.int IntKind.u64 j3) := by rw [fc _ _ (by first | omega | (simp; omega) | simp)]; simp [go_sem, *]
    have F4i1 : w4.frozen? ⟨w3.heap.size + 1, 1, none⟩ = false := by rw [ff _ _ (by first | omega | (simp; omega) | simp)]; simp [go_sem, *]
    have C4i2 : w4.cell? ⟨w3.heap.size + 1, 2, none⟩ = some (Value.int IntKind.u64 j4) := by rw [fc _ _ (by first | omega | (simp; omega) | simp)]; simp [go_sem, *]
    have F4i2 : w4.frozen? ⟨w3.heap.size + 1, 2, none⟩ = false := by rw [ff _ _ (by first | omega | (simp; omega) | simp)]; simp [go_sem, *]
    clear fc ff
    have X4 : Ext w w4 := Ext.trans (by repeat (first | (with_reducible exact Ext.refl _) | (with_reducible assumption) | (with_reducible refine Ext.alloc ?_ _) | (with_reducible refine Ext.drewN ?_ _) | (with_reducible refine Ext.drew ?_) | (with_reducible refine Ext.setCell ?_ (by simp <;> omega) _))) hx
    clear hx X3 C3a0 F3a0 C3a1 F3a1 C3a2 F3a2 C3b0 F3b0 C3b1 F3b1 C3b2 F3b2 C3g0 F3g0 C3g1 F3g1 C3g2 F3g2 C3x0 F3x0 C3x1 F3x1 C3x2 F3x2 C3j0 F3j0 C3j1 F3j1 C3j2 F3j2
    have l4a : w.heap.size < w4.heap.size := by omega
    have l4b : w.heap.size + 1 < w4.heap.size := by omega
    have l4g : w1.heap.size < w4.heap.size := by omega
    have l4x : w2.heap.size < w4.heap.size := by omega
    have l4j : w2.heap.size + 1 < w4.heap.size := by omega
    have l4y : w3.heap.size < w4.heap.size := by omega
    have l4i : w3.heap.size + 1 < w4.heap.size := by omega
    go_wp2_with fail
    refine (HN2.out _).mono ?_
    rintro e w5 ⟨rfl, hx⟩
    have fs5 : w4.heap.size ≤ w5.heap.size := by simpa using hx.size
    obtain ⟨fc, ff⟩ := And.intro hx.cells hx.marks
    have C5a0 : w5.cell? ⟨w.heap.size, 0, none⟩ = some (Value.bool true) := by rw [fc _ _ (by first | omega | (simp; omega) | simp)]; simp [go_sem, *]
    have F5a0 : w5.frozen? ⟨w.heap.size, 0, none⟩ = false := by rw [ff _ _ (by first | omega | (simp; omega) | simp)]; simp [go_sem, *]
    have C5a1 : w5.cell? ⟨w.heap.size, 1, none⟩ = some (Value.int IntKind.u64 mh) := by rw [fc _ _ (by first | omega | (simp; omega) | simp)]; simp [go_sem, *]
    have F5a1 : w5.frozen? ⟨w.heap.size, 1, none⟩ = false := by rw [ff _ _ (by first | omega | (simp; omega) | simp)]; simp [go_sem, *]
    have C5a2 : w5.cell? ⟨w.heap.size, 2, none⟩ = some (Value.int IntKind.u64 ml) := by rw [fc _ _ (by first | omega | (simp; omega) | simp)]; simp [go_sem, *]
    have F5a2 : w5.frozen? ⟨w.heap.size, 2, none⟩ = false := by rw [ff _ _ (by first | omega | (simp; omega) | simp)]; simp [go_sem, *]
    have C5b0 : w5.cell? ⟨w.heap.size + 1, 0, none⟩ = some (Value.bool true) := by rw [fc _ _ (by first | omega | (simp; omega) | simp)]; simp [go_sem, *]
    have F5b0 : w5.frozen? ⟨w.heap.size + 1, 0, none⟩ = false := by rw [ff _ _ (by first | omega | (simp; omega) | simp)]; simp [go_sem, *]
    have C5b1 : w5.cell? ⟨w.heap.size + 1, 1, none⟩ = some (Value.int IntKind.u64 nh) := by rw [fc _ _ (by first | omega | (simp; omega) | simp)]; simp [go_sem, *]
    have F5b1 : w5.frozen? ⟨w.heap.size + 1, 1, none⟩ = false := by rw [ff _ _ (by first | omega | (simp; omega) | simp)]; simp [go_sem, *]
    have C5b2 : w5.cell? ⟨w.heap.size + 1, 2, none⟩ = some (Value.int IntKind.u64 nl) := by rw [fc _ _ (by first | omega | (simp; omega) | simp)]; simp [go_sem, *]
    have F5b2 : w5.frozen? ⟨w.heap.size + 1, 2, none⟩ = false := by rw [ff _ _ (by first | omega | (simp; omega) | simp)]; simp [go_sem, *]
    have C5g0 : w5.cell? ⟨w1.heap.size, 0, none⟩ = some (Value.bool false) := by rw [fc _ _ (by first | omega | (simp; omega) | simp)]; simp [go_sem, *]
    have F5g0 : w5.frozen? ⟨w1.heap.size, 0, none⟩ = false := by rw [ff _ _ (by first | omega | (simp; omega) | simp)]; simp [go_sem, *]
    have C5g1 : w5.cell? ⟨w1.heap.size, 1, none⟩ = some (Value.int IntKind.u64 gh) := by rw [fc _ _ (by first | omega | (simp; omega) | simp)]; simp [go_sem, *]
    have F5g1 : w5.frozen? ⟨w1.heap.size, 1, none⟩ = false := by rw [ff _ _ (by first | omega | (simp; omega) | simp)]; simp [go_sem, *]
    have C5g2 : w5.cell? ⟨w1.heap.size, 2, none⟩ = some (Value.int IntKind.u64 gl) := by rw [fc _ _ (by first | omega | (simp; omega) | simp)]; simp [go_sem, *]
    have F5g2 : w5.frozen? ⟨w1.heap.size, 2, none⟩ = false := by rw [ff _ _ (by first | omega | (simp; omega) | simp)]; simp [go_sem, *]
    have C5x0 : w5.cell? ⟨w2.heap.size, 0, none⟩ = some (Value.bool false) := by rw [fc _ _ (by first | omega | (simp; omega) | simp)]; simp [go_sem, *]
    have F5x0 : w5.frozen? ⟨w2.heap.size, 0, none⟩ = false := by rw [ff _ _ (by first | omega | (simp; omega) | simp)]; simp [go_sem, *]
    have C5x1 : w5.cell? ⟨w2.heap.size, 1, none⟩ = some (Value.int IntKind.u64 xh) := by rw [fc _ _ (by first | omega | (simp; omega) | simp)]; simp [go_sem, *]
    have F5x1 : w5.frozen? ⟨w2.heap.size, 1, none⟩ = false := by rw [ff _ _ (by first | omega | (simp; omega) | simp)]; simp [go_sem, *]
    have C5x2 : w5.cell? ⟨w2.heap.size, 2, none⟩ = some (Value.int IntKind.u64 xl) := by rw [fc _ _ (by first | omega | (simp; omega) | simp)]; simp [go_sem, *]
    have F5x2 : w5.frozen? ⟨w2.heap.size, 2, none⟩ = false := by rw [ff _ _ (by first | omega | (simp; omega) | simp)]; simp [go_sem, *]
    have C5j0 : w5.cell? ⟨w2.heap.size + 1, 0, none⟩ = some (Value.bool false) := by rw [fc _ _ (by first | omega | (simp; omega) | simp)]; simp [go_sem, *]
    have F5j0 : w5.frozen? ⟨w2.heap.size + 1, 0, none⟩ = false := by rw [ff _ _ (by first | omega | (simp; omega) | simp)]; simp [go_sem, *]
    have C5j1 : w5.cell? ⟨w2.heap.size + 1, 1, none⟩ = some (Value.int IntKind.u64 j1) := by rw [fc _ _ (by first | omega | (simp; omega) | simp)]; simp [go_sem, *]
    have F5j1 : w5.frozen? ⟨w2.heap.size + 1, 1, none⟩ = false := by rw [ff _ _ (by first | omega | (simp; omega) | simp)]; simp [go_sem, *]
    have C5j2 : w5.cell? ⟨w2.heap.size + 1, 2, none⟩ = some (Value.int IntKind.u64 j2) := by rw [fc _ _ (by first | omega | (simp; omega) | simp)]; simp [go_sem, *]
    have F5j2 : w5.frozen? ⟨w2.heap.size + 1, 2, none⟩ = false := by rw [ff _ _ (by first | omega | (simp; omega) | simp)]; simp [go_sem, *]
    have C5y0 : w5.cell? ⟨w3.heap.size, 0, none⟩ = some (Value.bool false) := by rw [fc _ _ (by first | omega | (simp; omega) | simp)]; simp [go_sem, *]
    have F5y0 : w5.frozen? ⟨w3.heap.size, 0, none⟩ = false := by rw [ff _ _ (by first | omega | (simp; omega) | simp)]; simp [go_sem, *]
    have C5y1 : w5.cell? ⟨w3.heap.size, 1, none⟩ = some (Value.int IntKind.u64 yh) := by rw [fc _ _ (by first | omega | (simp; omega) | simp)]; simp [go_sem, *]
    have F5y1 : w5.frozen? ⟨w3.heap.size, 1, none⟩ = false := by rw [ff _ _ (by first | omega | (simp; omega) | simp)]; simp [go_sem, *]
    have C5y2 : w5.cell? ⟨w3.heap.size, 2, none⟩ = some (Value.int IntKind.u64 yl) := by rw [fc _ _ (by first | omega | (simp; omega) | simp)]; simp [go_sem, *]
    have F5y2 : w5.frozen? ⟨w3.heap.size, 2, none⟩ = false := by rw [ff _ _ (by first | omega | (simp; omega) | simp)]; simp [go_sem, *]
    have C5i0 : w5.cell? ⟨w3.heap.size + 1, 0, none⟩ = some (Value.bool false) := by rw [fc _ _ (by first | omega | (simp; omega) | simp)]; simp [go_sem, *]
    have F5i0 : w5.frozen? ⟨w3.heap.size + 1, 0, none⟩ = false := by rw [ff _ _ (by first | omega | (simp; omega) | simp)]; simp [go_sem, *]
    have C5i1 : w5.cell? ⟨w3.heap.size + 1, 1, none⟩ = some (Value.int IntKind.u64 j3) := by rw [fc _ _ (by first | omega | (simp; omega) | simp)]; simp [go_sem, *]
    have F5i1 : w5.frozen? ⟨w3.heap.size + 1, 1, none⟩ = false := by rw [ff _ _ (by first | omega | (simp; omega) | simp)]; simp [go_sem, *]
    have C5i2 : w5.cell? ⟨w3.heap.size + 1, 2, none⟩ = some (Value.int IntKind.u64 j4) := by rw [fc _ _ (by first | omega | (simp; omega) | simp)]; simp [go_sem, *]
    have F5i2 : w5.frozen? ⟨w3.heap.size + 1, 2, none⟩ = false := by rw [ff _ _ (by first | omega | (simp; omega) | simp)]; simp [go_sem, *]
    clear fc ff
    have X5 : Ext w w5 := Ext.trans (by repeat (first | (with_reducible exact Ext.refl _) | (with_reducible assumption) | (with_reducible refine Ext.alloc ?_ _) | (with_reducible refine Ext.drewN ?_ _) | (with_reducible refine Ext.drew ?_) | (with_reducible refine Ext.setCell ?_ (by simp <;> omega) _))) hx
    clear hx X4 C4a0 F4a0 C4a1 F4a1 C4a2 F4a2 C4b0 F4b0 C4b1 F4b1 C4b2 F4b2 C4g0 F4g0 C4g1 F4g1 C4g2 F4g2 C4x0 F4x0 C4x1 F4x1 C4x2 F4x2 C4j0 F4j0 C4j1 F4j1 C4j2 F4j2 C4y0 F4y0 C4y1 F4y1 C4y2 F4y2 C4i0 F4i0 C4i1 F4i1 C4i2 F4i2
    have l5a : w.heap.size < w5.heap.size := by omega
    have l5b : w.heap.size + 1 < w5.heap.size := by omega
    have l5g : w1.heap.size < w5.heap.size := by omega
    have l5x : w2.heap.size < w5.heap.size := by omega
    have l5j : w2.heap.size + 1 < w5.heap.size := by omega
    have l5y : w3.heap.size < w5.heap.size := by omega
    have l5i : w3.heap.size + 1 < w5.heap.size := by omega
    go_wp2_with fail
    exact bodyPost_ret (v := .tuple #[.int .i64 p, .int .i64 q, .bool (true && qo)]) (by simp [results, Tryd.results34, go_sem]) rfl ⟨rfl, (by repeat (first | (with_reducible exact Ext.refl _) | (with_reducible assumption) | (with_reducible refine Ext.alloc ?_ _) | (with_reducible refine Ext.drewN ?_ _) | (with_reducible refine Ext.drew ?_) | (with_reducible refine Ext.setCell ?_ (by simp <;> omega) _)))⟩
end Go.Proofs.YtifhgkdajnngnaaDoor
