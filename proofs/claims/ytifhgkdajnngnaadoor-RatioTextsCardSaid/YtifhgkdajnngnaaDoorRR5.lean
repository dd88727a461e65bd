/- Contracts of the reference: Reduce, Add, Valid, Cmp; the law's own 'is'. -/
import Derived.Test.YtifhgkdajnngnaaDoorRR4
namespace Go.Proofs.YtifhgkdajnngnaaDoor
open Go.RowKit Go.Par
set_option maxRecDepth 100000 in
theorem reduce_w (s t : Bool) (m n : Nat) (hm : FitN m) (hn0 : 0 < n) (hn : HalfN n) (w : World) :
    Calls Tryd.prog 34 #[wv s m, wv t n] w fun e w' => e = .returned (.tuple #[.int .i64 (redP s t m n).1, .int .i64 (redP s t m n).2.1, .bool (redP s t m n).2.2]) ∧ Ext w w' := by
  have g0 : 0 < Nat.gcd m n := Nat.gcd_pos_of_pos_right _ hn0
  have g1 : Nat.gcd m n ≤ n := Nat.gcd_le_right _ hn0
  have d1 : m / Nat.gcd m n ≤ m := Nat.div_le_self _ _
  have d2 : n / Nat.gcd m n ≤ n := Nat.div_le_self _ _
  have hZ := fun W : World => zero_any s (m : Int) hm.fits W
  rw [show decide ((m : Int) = 0) = decide (m = 0) by simp] at hZ
  have h1 := fun W => gcd_w s t m n hm hn W
  have h2 := fun W => divide_w s false m _ hm g0 (hn.le g1) W
  have h3 := fun W => divide_w t false n _ hn.fit g0 (hn.le g1) W
  have h4 := fun W => narrow_any ((!s == t) && !decide (m = 0)) ((m / Nat.gcd m n : Nat) : Int) (hm.le d1).fits W
  have h5 := fun W => narrow_any false ((n / Nat.gcd m n : Nat) : Int) (hn.le d2).fit.fits W
  unfold redP
  generalize Nat.gcd m n = g at *
  generalize m / g = x at *
  generalize n / g = y at *
  generalize m % g = u at *
  generalize n % g = v at *
  generalize decide (m = 0) = mz at *
  generalize narrowP (!s == t && !mz) (x : Int) = P at *
  generalize narrowP false (y : Int) = Q at *
  clear d1 d2 g0 g1 hm hn hn0
  obtain ⟨p, po⟩ := P
  obtain ⟨q, qo⟩ := Q
  unfold wv at *
  generalize hiW (m : Int) = mh at *
  generalize loW (m : Int) = ml at *
  generalize hiW (n : Int) = nh at *
  generalize loW (n : Int) = nl at *
  generalize hiW (g : Int) = gh at *
  generalize loW (g : Int) = gl at *
  generalize hiW (x : Int) = xh at *
  generalize loW (x : Int) = xl at *
  generalize hiW (y : Int) = yh at *
  generalize loW (y : Int) = yl at *
  generalize hiW (u : Int) = uh at *
  generalize loW (u : Int) = ul at *
  generalize hiW (v : Int) = vh at *
  generalize loW (v : Int) = vl at *
  exact reduce_walk s t mz mh ml nh nl gh gl xh xl yh yl uh ul vh vl p q po qo w h1 h2 h3 hZ h4 h5

set_option maxRecDepth 100000 in
set_option maxHeartbeats 1000000 in
theorem add_walk (s t : Bool) (ah al bh bl xh xl : Int) (lt x : Bool) (w : World)
    (hS : s = t → x = s ∧ ∀ W : World, Calls Tryd.prog 43 #[.agg #[.bool s, .int .u64 ah, .int .u64 al], .agg #[.bool t, .int .u64 bh, .int .u64 bl]] W fun e w' => e = .returned (.agg #[.bool s, .int .u64 xh, .int .u64 xl]) ∧ Ext W w')
    (hL : ∀ W : World, Calls Tryd.prog 44 #[.agg #[.bool s, .int .u64 ah, .int .u64 al], .agg #[.bool t, .int .u64 bh, .int .u64 bl]] W fun e w' => e = .returned (.bool lt) ∧ Ext W w')
    (hD1 : s ≠ t → lt = true → x = t ∧ ∀ W : World, Calls Tryd.prog 45 #[.agg #[.bool t, .int .u64 bh, .int .u64 bl], .agg #[.bool s, .int .u64 ah, .int .u64 al]] W fun e w' => e = .returned (.agg #[.bool t, .int .u64 xh, .int .u64 xl]) ∧ Ext W w')
    (hD2 : s ≠ t → lt = false → x = s ∧ ∀ W : World, Calls Tryd.prog 45 #[.agg #[.bool s, .int .u64 ah, .int .u64 al], .agg #[.bool t, .int .u64 bh, .int .u64 bl]] W fun e w' => e = .returned (.agg #[.bool s, .int .u64 xh, .int .u64 xl]) ∧ Ext W w') :
    Calls Tryd.prog 26 #[.agg #[.bool s, .int .u64 ah, .int .u64 al], .agg #[.bool t, .int .u64 bh, .int .u64 bl]] w fun e w' => e = .returned (.agg #[.bool x, .int .u64 xh, .int .u64 xl]) ∧ Ext w w' := by
  have HL := Lib.hid hL
  clear hL
  have X0 : Ext w w := Ext.refl w
  cases s <;> cases t <;> cases lt
  · obtain ⟨rfl, hS'⟩ := hS rfl
    have HS := Lib.hid hS'
    clear hS hD1 hD2 hS'
    go_enter Tryd.func26, Tryd.ntmps26
    go_wp2_with fail
    refine (HS.out _).mono ?_
    rintro e w1 ⟨rfl, hx⟩
    have fs1 : w.heap.size + 1 + 1 + 1 ≤ w1.heap.size := by simpa using hx.size
    obtain ⟨fc, ff⟩ := And.intro hx.cells hx.marks
    have C1a0 : w1.cell? ⟨w.heap.size, 0, none⟩ = some (Value.bool false) := by rw [fc _ _ (by first | omega | (simp; omega) | simp)]; simp [go_sem, *]
    have F1a0 : w1.frozen? ⟨w.heap.size, 0, none⟩ = false := by rw [ff _ _ (by first | omega | (simp; omega) | simp)]; simp [go_sem, *]
    have C1a1 : w1.cell? ⟨w.heap.size, 1, none⟩ = some (Value.int IntKind.u64 ah) := by rw [fc _ _ (by first | omega | (simp; omega) | simp)]; simp [go_sem, *]
    have F1a1 : w1.frozen? ⟨w.heap.size, 1, none⟩ = false := by rw [ff _ _ (by first | omega | (simp; omega) | simp)]; simp [go_sem, *]
    have C1a2 : w1.cell? ⟨w.heap.size, 2, none⟩ = some (Value.int IntKind.u64 al) := by rw [fc _ _ (by first | omega | (simp; omega) | simp)]; simp [go_sem, *]
    have F1a2 : w1.frozen? ⟨w.heap.size, 2, none⟩ = false := by rw [ff _ _ (by first | omega | (simp; omega) | simp)]; simp [go_sem, *]
    have C1b0 : w1.cell? ⟨w.heap.size + 1, 0, none⟩ = some (Value.bool false) := by rw [fc _ _ (by first | omega | (simp; omega) | simp)]; simp [go_sem, *]
    have F1b0 : w1.frozen? ⟨w.heap.size + 1, 0, none⟩ = false := by rw [ff _ _ (by first | omega | (simp; omega) | simp)]; simp [go_sem, *]
    have C1b1 : w1.cell? ⟨w.heap.size + 1, 1, none⟩ = some (Value.int IntKind.u64 bh) := by rw [fc _ _ (by first | omega | (simp; omega) | simp)]; simp [go_sem, *]
    have F1b1 : w1.frozen? ⟨w.heap.size + 1, 1, none⟩ = false := by rw [ff _ _ (by first | omega | (simp; omega) | simp)]; simp [go_sem, *]
    have C1b2 : w1.cell? ⟨w.heap.size + 1, 2, none⟩ = some (Value.int IntKind.u64 bl) := by rw [fc _ _ (by first | omega | (simp; omega) | simp)]; simp [go_sem, *]
    have F1b2 : w1.frozen? ⟨w.heap.size + 1, 2, none⟩ = false := by rw [ff _ _ (by first | omega | (simp; omega) | simp)]; simp [go_sem, *]
    have C1r0 : w1.cell? ⟨w.heap.size + 1 + 1, 0, none⟩ = some (Value.bool false) := by rw [fc _ _ (by first | omega | (simp; omega) | simp)]; simp [go_sem, *]
    have F1r0 : w1.frozen? ⟨w.heap.size + 1 + 1, 0, none⟩ = false := by rw [ff _ _ (by first | omega | (simp; omega) | simp)]; simp [go_sem, *]
    have C1r1 : w1.cell? ⟨w.heap.size + 1 + 1, 1, none⟩ = some (Value.int IntKind.u64 0) := by rw [fc _ _ (by first | omega | (simp; omega) | simp)]; simp [go_sem, *]
    have F1r1 : w1.frozen? ⟨w.heap.size + 1 + 1, 1, none⟩ = false := by rw [ff _ _ (by first | omega | (simp; omega) | simp)]; simp [go_sem, *]
    have C1r2 : w1.cell? ⟨w.heap.size + 1 + 1, 2, none⟩ = some (Value.int IntKind.u64 0) := by rw [fc _ _ (by first | omega | (simp; omega) | simp)]; simp [go_sem, *]
    have F1r2 : w1.frozen? ⟨w.heap.size + 1 + 1, 2, none⟩ = false := by rw [ff _ _ (by first | omega | (simp; omega) | simp)]; simp [go_sem, *]
    clear fc ff
    have X1 : Ext w w1 := Ext.trans (by repeat (first | (with_reducible exact Ext.refl _) | (with_reducible assumption) | (with_reducible refine Ext.alloc ?_ _) | (with_reducible refine Ext.drewN ?_ _) | (with_reducible refine Ext.drew ?_) | (with_reducible refine Ext.setCell ?_ (by simp <;> omega) _))) hx
    clear hx 
    have l1a : w.heap.size < w1.heap.size := by omega
    have l1b : w.heap.size + 1 < w1.heap.size := by omega
    have l1r : w.heap.size + 1 + 1 < w1.heap.size := by omega
    go_wp2_with fail
    exact bodyPost_ret (v := .agg #[.bool false, .int .u64 xh, .int .u64 xl]) (by simp [results, Tryd.results26, go_sem, *]) rfl ⟨rfl, (by repeat (first | (with_reducible exact Ext.refl _) | (with_reducible assumption) | (with_reducible refine Ext.alloc ?_ _) | (with_reducible refine Ext.drewN ?_ _) | (with_reducible refine Ext.drew ?_) | (with_reducible refine Ext.setCell ?_ (by simp <;> omega) _)))⟩
  · obtain ⟨rfl, hS'⟩ := hS rfl
    have HS := Lib.hid hS'
    clear hS hD1 hD2 hS'
    go_enter Tryd.func26, Tryd.ntmps26
    go_wp2_with fail
    refine (HS.out _).mono ?_
    rintro e w1 ⟨rfl, hx⟩
    have fs1 : w.heap.size + 1 + 1 + 1 ≤ w1.heap.size := by simpa using hx.size
    obtain ⟨fc, ff⟩ := And.intro hx.cells hx.marks
    have C1a0 : w1.cell? ⟨w.heap.size, 0, none⟩ = some (Value.bool false) := by rw [fc _ _ (by first | omega | (simp; omega) | simp)]; simp [go_sem, *]
    have F1a0 : w1.frozen? ⟨w.heap.size, 0, none⟩ = false := by rw [ff _ _ (by first | omega | (simp; omega) | simp)]; simp [go_sem, *]
    have C1a1 : w1.cell? ⟨w.heap.size, 1, none⟩ = some (Value.int IntKind.u64 ah) := by rw [fc _ _ (by first | omega | (simp; omega) | simp)]; simp [go_sem, *]
    have F1a1 : w1.frozen? ⟨w.heap.size, 1, none⟩ = false := by rw [ff _ _ (by first | omega | (simp; omega) | simp)]; simp [go_sem, *]
    have C1a2 : w1.cell? ⟨w.heap.size, 2, none⟩ = some (Value.int IntKind.u64 al) := by rw [fc _ _ (by first | omega | (simp; omega) | simp)]; simp [go_sem, *]
    have F1a2 : w1.frozen? ⟨w.heap.size, 2, none⟩ = false := by rw [ff _ _ (by first | omega | (simp; omega) | simp)]; simp [go_sem, *]
    have C1b0 : w1.cell? ⟨w.heap.size + 1, 0, none⟩ = some (Value.bool false) := by rw [fc _ _ (by first | omega | (simp; omega) | simp)]; simp [go_sem, *]
    have F1b0 : w1.frozen? ⟨w.heap.size + 1, 0, none⟩ = false := by rw [ff _ _ (by first | omega | (simp; omega) | simp)]; simp [go_sem, *]
    have C1b1 : w1.cell? ⟨w.heap.size + 1, 1, none⟩ = some (Value.int IntKind.u64 bh) := by rw [fc _ _ (by first | omega | (simp; omega) | simp)]; simp [go_sem, *]
    have F1b1 : w1.frozen? ⟨w.heap.size + 1, 1, none⟩ = false := by rw [ff _ _ (by first | omega | (simp; omega) | simp)]; simp [go_sem, *]
    have C1b2 : w1.cell? ⟨w.heap.size + 1, 2, none⟩ = some (Value.int IntKind.u64 bl) := by rw [fc _ _ (by first | omega | (simp; omega) | simp)]; simp [go_sem, *]
    have F1b2 : w1.frozen? ⟨w.heap.size + 1, 2, none⟩ = false := by rw [ff _ _ (by first | omega | (simp; omega) | simp)]; simp [go_sem, *]
    have C1r0 : w1.cell? ⟨w.heap.size + 1 + 1, 0, none⟩ = some (Value.bool false) := by rw [fc _ _ (by first | omega | (simp; omega) | simp)]; simp [go_sem, *]
    have F1r0 : w1.frozen? ⟨w.heap.size + 1 + 1, 0, none⟩ = false := by rw [ff _ _ (by first | omega | (simp; omega) | simp)]; simp [go_sem, *]
    have C1r1 : w1.cell? ⟨w.heap.size + 1 + 1, 1, none⟩ = some (Value.int IntKind.u64 0) := by rw [fc _ _ (by first | omega | (simp; omega) | simp)]; simp [go_sem, *]
    have F1r1 : w1.frozen? ⟨w.heap.size + 1 + 1, 1, none⟩ = false := by rw [ff _ _ (by first | omega | (simp; omega) | simp)]; simp [go_sem, *]
    have C1r2 : w1.cell? ⟨w.heap.size + 1 + 1, 2, none⟩ = some (Value.int IntKind.u64 0) := by rw [fc _ _ (by first | omega | (simp; omega) | simp)]; simp [go_sem, *]
    have F1r2 : w1.frozen? ⟨w.heap.size + 1 + 1, 2, none⟩ = false := by rw [ff _ _ (by first | omega | (simp; omega) | simp)]; simp [go_sem, *]
    clear fc ff
    have X1 : Ext w w1 := Ext.trans (by repeat (first | (with_reducible exact Ext.refl _) | (with_reducible assumption) | (with_reducible refine Ext.alloc ?_ _) | (with_reducible refine Ext.drewN ?_ _) | (with_reducible refine Ext.drew ?_) | (with_reducible refine Ext.setCell ?_ (by simp <;> omega) _))) hx
    clear hx 
    have l1a : w.heap.size < w1.heap.size := by omega
    have l1b : w.heap.size + 1 < w1.heap.size := by omega
    have l1r : w.heap.size + 1 + 1 < w1.heap.size := by omega
    go_wp2_with fail
    exact bodyPost_ret (v := .agg #[.bool false, .int .u64 xh, .int .u64 xl]) (by simp [results, Tryd.results26, go_sem, *]) rfl ⟨rfl, (by repeat (first | (with_reducible exact Ext.refl _) | (with_reducible assumption) | (with_reducible refine Ext.alloc ?_ _) | (with_reducible refine Ext.drewN ?_ _) | (with_reducible refine Ext.drew ?_) | (with_reducible refine Ext.setCell ?_ (by simp <;> omega) _)))⟩
  · obtain ⟨rfl, hD⟩ := hD2 (by decide) rfl
    have HD := Lib.hid hD
    clear hS hD1 hD2 hD
    go_enter Tryd.func26, Tryd.ntmps26
    go_wp2_with fail
    refine (HL.out _).mono ?_
    rintro e w1 ⟨rfl, hx⟩
    have fs1 : w.heap.size + 1 + 1 + 1 ≤ w1.heap.size := by simpa using hx.size
    obtain ⟨fc, ff⟩ := And.intro hx.cells hx.marks
    have C1a0 : w1.cell? ⟨w.heap.size, 0, none⟩ = some (Value.bool false) := by rw [fc _ _ (by first | omega | (simp; omega) | simp)]; simp [go_sem, *]
    have F1a0 : w1.frozen? ⟨w.heap.size, 0, none⟩ = false := by rw [ff _ _ (by first | omega | (simp; omega) | simp)]; simp [go_sem, *]
    have C1a1 : w1.cell? ⟨w.heap.size, 1, none⟩ = some (Value.int IntKind.u64 ah) := by rw [fc _ _ (by first | omega | (simp; omega) | simp)]; simp [go_sem, *]
    have F1a1 : w1.frozen? ⟨w.heap.size, 1, none⟩ = false := by rw [ff _ _ (by first | omega | (simp; omega) | simp)]; simp [go_sem, *]
    have C1a2 : w1.cell? ⟨w.heap.size, 2, none⟩ = some (Value.int IntKind.u64 al) := by rw [fc _ _ (by first | omega | (simp; omega) | simp)]; simp [go_sem, *]
    have F1a2 : w1.frozen? ⟨w.heap.size, 2, none⟩ = false := by rw [ff _ _ (by first | omega | (simp; omega) | simp)]; simp [go_sem, *]
    have C1b0 : w1.cell? ⟨w.heap.size + 1, 0, none⟩ = some (Value.bool true) := by rw [fc _ _ (by first | omega | (simp; omega) | simp)]; simp [go_sem, *]
    have F1b0 : w1.frozen? ⟨w.heap.size + 1, 0, none⟩ = false := by rw [ff _ _ (by first | omega | (simp; omega) | simp)]; simp [go_sem, *]
    have C1b1 : w1.cell? ⟨w.heap.size + 1, 1, none⟩ = some (Value.int IntKind.u64 bh) := by rw [fc _ _ (by first | omega | (simp; omega) | simp)]; simp [go_sem, *]
    have F1b1 : w1.frozen? ⟨w.heap.size + 1, 1, none⟩ = false := by rw [ff _ _ (by first | omega | (simp; omega) | simp)]; simp [go_sem, *]
    have C1b2 : w1.cell? ⟨w.heap.size + 1, 2, none⟩ = some (Value.int IntKind.u64 bl) := by rw [fc _ _ (by first | omega | (simp; omega) | simp)]; simp [go_sem, *]
    have F1b2 : w1.frozen? ⟨w.heap.size + 1, 2, none⟩ = false := by rw [ff _ _ (by first | omega | (simp; omega) | simp)]; simp [go_sem, *]
    have C1r0 : w1.cell? ⟨w.heap.size + 1 + 1, 0, none⟩ = some (Value.bool false) := by rw [fc _ _ (by first | omega | (simp; omega) | simp)]; simp [go_sem, *]
    have F1r0 : w1.frozen? ⟨w.heap.size + 1 + 1, 0, none⟩ = false := by rw [ff _ _ (by first | omega | (simp; omega) | simp)]; simp [go_sem, *]
    have C1r1 : w1.cell? ⟨w.heap.size + 1 + 1, 1, none⟩ = some (Value.int IntKind.u64 0) := by rw [fc _ _ (by first | omega | (simp; omega) | simp)]; simp [go_sem, *]
    have F1r1 : w1.frozen? ⟨w.heap.size + 1 + 1, 1, none⟩ = false := by rw [ff _ _ (by first | omega | (simp; omega) | simp)]; simp [go_sem, *]
    have C1r2 : w1.cell? ⟨w.heap.size + 1 + 1, 2, none⟩ = some (Value.int IntKind.u64 0) := by rw [fc _ _ (by first | omega | (simp; omega) | simp)]; simp [go_sem, *]
    have F1r2 : w1.frozen? ⟨w.heap.size + 1 + 1, 2, none⟩ = false := by rw [ff _ _ (by first | omega | (simp; omega) | simp)]; simp [go_sem, *]
    clear fc ff
    have X1 : Ext w w1 := Ext.trans (by repeat (first | (with_reducible exact Ext.refl _) | (with_reducible assumption) | (with_reducible refine Ext.alloc ?_ _) | (with_reducible refine Ext.drewN ?_ _) | (with_reducible refine Ext.drew ?_) | (with_reducible refine Ext.setCell ?_ (by simp <;> omega) _))) hx
    clear hx 
    have l1a : w.heap.size < w1.heap.size := by omega
    have l1b : w.heap.size + 1 < w1.heap.size := by omega
    have l1r : w.heap.size + 1 + 1 < w1.heap.size := by omega
    go_wp2_with fail
    refine (HD.out _).mono ?_
    rintro e w2 ⟨rfl, hx⟩
    have fs2 : w1.heap.size ≤ w2.heap.size := by simpa using hx.size
    obtain ⟨fc, ff⟩ := And.intro hx.cells hx.marks
    have C2a0 : w2.cell? ⟨w.heap.size, 0, none⟩ = some (Value.bool false) := by rw [fc _ _ (by first | omega | (simp; omega) | simp)]; simp [go_sem, *]
    have F2a0 : w2.frozen? ⟨w.heap.size, 0, none⟩ = false := by rw [ff _ _ (by first | omega | (simp; omega) | simp)]; simp [go_sem, *]
    have C2a1 : w2.cell? ⟨w.heap.size, 1, none⟩ = some (Value.int IntKind.u64 ah) := by rw [fc _ _ (by first | omega | (simp; omega) | simp)]; simp [go_sem, *]
    have F2a1 : w2.frozen? ⟨w.heap.size, 1, none⟩ = false := by rw [ff _ _ (by first | omega | (simp; omega) | simp)]; simp [go_sem, *]
    have C2a2 : w2.cell? ⟨w.heap.size, 2, none⟩ = some (Value.int IntKind.u64 al) := by rw [fc _ _ (by first | omega | (simp; omega) | simp)]; simp [go_sem, *]
    have F2a2 : w2.frozen? ⟨w.heap.size, 2, none⟩ = false := by rw [ff _ _ (by first | omega | (simp; omega) | simp)]; simp [go_sem, *]
    have C2b0 : w2.cell? ⟨w.heap.size + 1, 0, none⟩ = some (Value.bool true) := by rw [fc _ _ (by first | omega | (simp; omega) | simp)]; simp [go_sem, *]
    have F2b0 : w2.frozen? ⟨w.heap.size + 1, 0, none⟩ = false := by rw [ff _ _ (by first | omega | (simp; omega) | simp)]; simp [go_sem, *]
    have C2b1 : w2.cell? ⟨w.heap.size + 1, 1, none⟩ = some (Value.int IntKind.u64 bh) := by rw [fc _ _ (by first | omega | (simp; omega) | simp)]; simp [go_sem, *]
    have F2b1 : w2.frozen? ⟨w.heap.size + 1, 1, none⟩ = false := by rw [ff _ _ (by first | omega | (simp; omega) | simp)]; simp [go_sem, *]
    have C2b2 : w2.cell? ⟨w.heap.size + 1, 2, none⟩ = some (Value.int IntKind.u64 bl) := by rw [fc _ _ (by first | omega | (simp; omega) | simp)]; simp [go_sem, *]
    have F2b2 : w2.frozen? ⟨w.heap.size + 1, 2, none⟩ = false := by rw [ff _ _ (by first | omega | (simp; omega) | simp)]; simp [go_sem, *]
    have C2r0 : w2.cell? ⟨w.heap.size + 1 + 1, 0, none⟩ = some (Value.bool false) := by rw [fc _ _ (by first | omega | (simp; omega) | simp)]; simp [go_sem, *]
    have F2r0 : w2.frozen? ⟨w.heap.size + 1 + 1, 0, none⟩ = false := by rw [ff _ _ (by first | omega | (simp; omega) | simp)]; simp [go_sem, *]
    have C2r1 : w2.cell? ⟨w.heap.size + 1 + 1, 1, none⟩ = some (Value.int IntKind.u64 0) := by rw [fc _ _ (by first | omega | (simp; omega) | simp)]; simp [go_sem, *]
    have F2r1 : w2.frozen? ⟨w.heap.size + 1 + 1, 1, none⟩ = false := by rw [ff _ _ (by first | omega | (simp; omega) | simp)]; simp [go_sem, *]
    have C2r2 : w2.cell? ⟨w.heap.size + 1 + 1, 2, none⟩ = some (Value.int IntKind.u64 0) := by rw [fc _ _ (by first | omega | (simp; omega) | simp)]; simp [go_sem, *]
    have F2r2 : w2.frozen? ⟨w.heap.size + 1 + 1, 2, none⟩ = false := by rw [ff _ _ (by first | omega | (simp; omega) | simp)]; simp [go_sem, *]
    clear fc ff
    have X2 : Ext w w2 := Ext.trans (by repeat (first | (with_reducible exact Ext.refl _) | (with_reducible assumption) | (with_reducible refine Ext.alloc ?_ _) | (with_reducible refine Ext.drewN ?_ _) | (with_reducible refine Ext.drew ?_) | (with_reducible refine Ext.setCell ?_ (by simp <;> omega) _))) hx
    clear hx X1 C1a0 F1a0 C1a1 F1a1 C1a2 F1a2 C1b0 F1b0 C1b1 F1b1 C1b2 F1b2 C1r0 F1r0 C1r1 F1r1 C1r2 F1r2
    have l2a : w.heap.size < w2.heap.size := by omega
    have l2b : w.heap.size + 1 < w2.heap.size := by omega
    have l2r : w.heap.size + 1 + 1 < w2.heap.size := by omega
    go_wp2_with fail
    exact bodyPost_ret (v := .agg #[.bool false, .int .u64 xh, .int .u64 xl]) (by simp [results, Tryd.results26, go_sem, *]) rfl ⟨rfl, (by repeat (first | (with_reducible exact Ext.refl _) | (with_reducible assumption) | (with_reducible refine Ext.alloc ?_ _) | (with_reducible refine Ext.drewN ?_ _) | (with_reducible refine Ext.drew ?_) | (with_reducible refine Ext.setCell ?_ (by simp <;> omega) _)))⟩
  · obtain ⟨rfl, hD⟩ := hD1 (by decide) rfl
    have HD := Lib.hid hD
    clear hS hD1 hD2 hD
    go_enter Tryd.func26, Tryd.ntmps26
    go_wp2_with fail
    refine (HL.out _).mono ?_
    rintro e w1 ⟨rfl, hx⟩
    have fs1 : w.heap.size + 1 + 1 + 1 ≤ w1.heap.size := by simpa using hx.size
    obtain ⟨fc, ff⟩ := And.intro hx.cells hx.marks
    have C1a0 : w1.cell? ⟨w.heap.size, 0, none⟩ = some (Value.bool false) := by rw [fc _ _ (by first | omega | (simp; omega) | simp)]; simp [go_sem, *]
    have F1a0 : w1.frozen? ⟨w.heap.size, 0, none⟩ = false := by rw [ff _ _ (by first | omega | (simp; omega) | simp)]; simp [go_sem, *]
    have C1a1 : w1.cell? ⟨w.heap.size, 1, none⟩ = some (Value.int IntKind.u64 ah) := by rw [fc _ _ (by first | omega | (simp; omega) | simp)]; simp [go_sem, *]
    have F1a1 : w1.frozen? ⟨w.heap.size, 1, none⟩ = false := by rw [ff _ _ (by first | omega | (simp; omega) | simp)]; simp [go_sem, *]
    have C1a2 : w1.cell? ⟨w.heap.size, 2, none⟩ = some (Value.int IntKind.u64 al) := by rw [fc _ _ (by first | omega | (simp; omega) | simp)]; simp [go_sem, *]
    have F1a2 : w1.frozen? ⟨w.heap.size, 2, none⟩ = false := by rw [ff _ _ (by first | omega | (simp; omega) | simp)]; simp [go_sem, *]
    have C1b0 : w1.cell? ⟨w.heap.size + 1, 0, none⟩ = some (Value.bool true) := by rw [fc _ _ (by first | omega | (simp; omega) | simp)]; simp [go_sem, *]
    have F1b0 : w1.frozen? ⟨w.heap.size + 1, 0, none⟩ = false := by rw [ff _ _ (by first | omega | (simp; omega) | simp)]; simp [go_sem, *]
    have C1b1 : w1.cell? ⟨w.heap.size + 1, 1, none⟩ = some (Value.int IntKind.u64 bh) := by rw [fc _ _ (by first | omega | (simp; omega) | simp)]; simp [go_sem, *]
    have F1b1 : w1.frozen? ⟨w.heap.size + 1, 1, none⟩ = false := by rw [ff _ _ (by first | omega | (simp; omega) | simp)]; simp [go_sem, *]
    have C1b2 : w1.cell? ⟨w.heap.size + 1, 2, none⟩ = some (Value.int IntKind.u64 bl) := by rw [fc _ _ (by first | omega | (simp; omega) | simp)]; simp [go_sem, *]
    have F1b2 : w1.frozen? ⟨w.heap.size + 1, 2, none⟩ = false := by rw [ff _ _ (by first | omega | (simp; omega) | simp)]; simp [go_sem, *]
    have C1r0 : w1.cell? ⟨w.heap.size + 1 + 1, 0, none⟩ = some (Value.bool false) := by rw [fc _ _ (by first | omega | (simp; omega) | simp)]; simp [go_sem, *]
    have F1r0 : w1.frozen? ⟨w.heap.size + 1 + 1, 0, none⟩ = false := by rw [ff _ _ (by first | omega | (simp; omega) | simp)]; simp [go_sem, *]
    have C1r1 : w1.cell? ⟨w.heap.size + 1 + 1, 1, none⟩ = some (Value.int IntKind.u64 0) := by rw [fc _ _ (by first | omega | (simp; omega) | simp)]; simp [go_sem, *]
    have F1r1 : w1.frozen? ⟨w.heap.size + 1 + 1, 1, none⟩ = false := by rw [ff _ _ (by first | omega | (simp; omega) | simp)]; simp [go_sem, *]
    have C1r2 : w1.cell? ⟨w.heap.size + 1 + 1, 2, none⟩ = some (Value.int IntKind.u64 0) := by rw [fc _ _ (by first | omega | (simp; omega) | simp)]; simp [go_sem, *]
    have F1r2 : w1.frozen? ⟨w.heap.size + 1 + 1, 2, none⟩ = false := by rw [ff _ _ (by first | omega | (simp; omega) | simp)]; simp [go_sem, *]
    clear fc ff
    have X1 : Ext w w1 := Ext.trans (by repeat (first | (with_reducible exact Ext.refl _) | (with_reducible assumption) | (with_reducible refine Ext.alloc ?_ _) | (with_reducible refine Ext.drewN ?_ _) | (with_reducible refine Ext.drew ?_) | (with_reducible refine Ext.setCell ?_ (by simp <;> omega) _))) hx
    clear hx 
    have l1a : w.heap.size < w1.heap.size := by omega
    have l1b : w.heap.size + 1 < w1.heap.size := by omega
    have l1r : w.heap.size + 1 + 1 < w1.heap.size := by omega
    go_wp2_with fail
    refine (HD.out _).mono ?_
    rintro e w2 ⟨rfl, hx⟩
    have fs2 : w1.heap.size ≤ w2.heap.size := by simpa using hx.size
    obtain ⟨fc, ff⟩ := And.intro hx.cells hx.marks
    have C2a0 : w2.cell? ⟨w.heap.size, 0, none⟩ = some (Value.bool false) := by rw [fc _ _ (by first | omega | (simp; omega) | simp)]; simp [go_sem, *]
    have F2a0 : w2.frozen? ⟨w.heap.size, 0, none⟩ = false := by rw [ff _ _ (by first | omega | (simp; omega) | simp)]; simp [go_sem, *]
    have C2a1 : w2.cell? ⟨w.heap.size, 1, none⟩ = some (Value.int IntKind.u64 ah) := by rw [fc _ _ (by first | omega | (simp; omega) | simp)]; simp [go_sem, *]
    have F2a1 : w2.frozen? ⟨w.heap.size, 1, none⟩ = false := by rw [ff _ _ (by first | omega | (simp; omega) | simp)]; simp [go_sem, *]
    have C2a2 : w2.cell? ⟨w.heap.size, 2, none⟩ = some (Value.int IntKind.u64 al) := by rw [fc _ _ (by first | omega | (simp; omega) | simp)]; simp [go_sem, *]
    have F2a2 : w2.frozen? ⟨w.heap.size, 2, none⟩ = false := by rw [ff _ _ (by first | omega | (simp; omega) | simp)]; simp [go_sem, *]
    have C2b0 : w2.cell? ⟨w.heap.size + 1, 0, none⟩ = some (Value.bool true) := by rw [fc _ _ (by first | omega | (simp; omega) | simp)]; simp [go_sem, *]
    have F2b0 : w2.frozen? ⟨w.heap.size + 1, 0, none⟩ = false := by rw [ff _ _ (by first | omega | (simp; omega) | simp)]; simp [go_sem, *]
    have C2b1 : w2.cell? ⟨w.heap.size + 1, 1, none⟩ = some (Value.int IntKind.u64 bh) := by rw [fc _ _ (by first | omega | (simp; omega) | simp)]; simp [go_sem, *]
    have F2b1 : w2.frozen? ⟨w.heap.size + 1, 1, none⟩ = false := by rw [ff _ _ (by first | omega | (simp; omega) | simp)]; simp [go_sem, *]
    have C2b2 : w2.cell? ⟨w.heap.size + 1, 2, none⟩ = some (Value.int IntKind.u64 bl) := by rw [fc _ _ (by first | omega | (simp; omega) | simp)]; simp [go_sem, *]
    have F2b2 : w2.frozen? ⟨w.heap.size + 1, 2, none⟩ = false := by rw [ff _ _ (by first | omega | (simp; omega) | simp)]; simp [go_sem, *]
    have C2r0 : w2.cell? ⟨w.heap.size + 1 + 1, 0, none⟩ = some (Value.bool false) := by rw [fc _ _ (by first | omega | (simp; omega) | simp)]; simp [go_sem, *]
    have F2r0 : w2.frozen? ⟨w.heap.size + 1 + 1, 0, none⟩ = false := by rw [ff _ _ (by first | omega | (simp; omega) | simp)]; simp [go_sem, *]
    have C2r1 : w2.cell? ⟨w.heap.size + 1 + 1, 1, none⟩ = some (Value.int IntKind.u64 0) := by rw [fc _ _ (by first | omega | (simp; omega) | simp)]; simp [go_sem, *]
    have F2r1 : w2.frozen? ⟨w.heap.size + 1 + 1, 1, none⟩ = false := by rw [ff _ _ (by first | omega | (simp; omega) | simp)]; simp [go_sem, *]
    have C2r2 : w2.cell? ⟨w.heap.size + 1 + 1, 2, none⟩ = some (Value.int IntKind.u64 0) := by rw [fc _ _ (by first | omega | (simp; omega) | simp)]; simp [go_sem, *]
    have F2r2 : w2.frozen? ⟨w.heap.size + 1 + 1, 2, none⟩ = false := by rw [ff _ _ (by first | omega | (simp; omega) | simp)]; simp [go_sem, *]
    clear fc ff
    have X2 : Ext w w2 := Ext.trans (by repeat (first | (with_reducible exact Ext.refl _) | (with_reducible assumption) | (with_reducible refine Ext.alloc ?_ _) | (with_reducible refine Ext.drewN ?_ _) | (with_reducible refine Ext.drew ?_) | (with_reducible refine Ext.setCell ?_ (by simp <;> omega) _))) hx
    clear hx X1 C1a0 F1a0 C1a1 F1a1 C1a2 F1a2 C1b0 F1b0 C1b1 F1b1 C1b2 F1b2 C1r0 F1r0 C1r1 F1r1 C1r2 F1r2
    have l2a : w.heap.size < w2.heap.size := by omega
    have l2b : w.heap.size + 1 < w2.heap.size := by omega
    have l2r : w.heap.size + 1 + 1 < w2.heap.size := by omega
    go_wp2_with fail
    exact bodyPost_ret (v := .agg #[.bool true, .int .u64 xh, .int .u64 xl]) (by simp [results, Tryd.results26, go_sem, *]) rfl ⟨rfl, (by repeat (first | (with_reducible exact Ext.refl _) | (with_reducible assumption) | (with_reducible refine Ext.alloc ?_ _) | (with_reducible refine Ext.drewN ?_ _) | (with_reducible refine Ext.drew ?_) | (with_reducible refine Ext.setCell ?_ (by simp <;> omega) _)))⟩
  · obtain ⟨rfl, hD⟩ := hD2 (by decide) rfl
    have HD := Lib.hid hD
    clear hS hD1 hD2 hD
    go_enter Tryd.func26, Tryd.ntmps26
    go_wp2_with fail
    refine (HL.out _).mono ?_
    rintro e w1 ⟨rfl, hx⟩
    have fs1 : w.heap.size + 1 + 1 + 1 ≤ w1.heap.size := by simpa using hx.size
    obtain ⟨fc, ff⟩ := And.intro hx.cells hx.marks
    have C1a0 : w1.cell? ⟨w.heap.size, 0, none⟩ = some (Value.bool true) := by rw [fc _ _ (by first | omega | (simp; omega) | simp)]; simp [go_sem, *]
    have F1a0 : w1.frozen? ⟨w.heap.size, 0, none⟩ = false := by rw [ff _ _ (by first | omega | (simp; omega) | simp)]; simp [go_sem, *]
    have C1a1 : w1.cell? ⟨w.heap.size, 1, none⟩ = some (Value.int IntKind.u64 ah) := by rw [fc _ _ (by first | omega | (simp; omega) | simp)]; simp [go_sem, *]
    have F1a1 : w1.frozen? ⟨w.heap.size, 1, none⟩ = false := by rw [ff _ _ (by first | omega | (simp; omega) | simp)]; simp [go_sem, *]
    have C1a2 : w1.cell? ⟨w.heap.size, 2, none⟩ = some (Value.int IntKind.u64 al) := by rw [fc _ _ (by first | omega | (simp; omega) | simp)]; simp [go_sem, *]
    have F1a2 : w1.frozen? ⟨w.heap.size, 2, none⟩ = false := by rw [ff _ _ (by first | omega | (simp; omega) | simp)]; simp [go_sem, *]
    have C1b0 : w1.cell? ⟨w.heap.size + 1, 0, none⟩ = some (Value.bool false) := by rw [fc _ _ (by first | omega | (simp; omega) | simp)]; simp [go_sem, *]
    have F1b0 : w1.frozen? ⟨w.heap.size + 1, 0, none⟩ = false := by rw [ff _ _ (by first | omega | (simp; omega) | simp)]; simp [go_sem, *]
    have C1b1 : w1.cell? ⟨w.heap.size + 1, 1, none⟩ = some (Value.int IntKind.u64 bh) := by rw [fc _ _ (by first | omega | (simp; omega) | simp)]; simp [go_sem, *]
    have F1b1 : w1.frozen? ⟨w.heap.size + 1, 1, none⟩ = false := by rw [ff _ _ (by first | omega | (simp; omega) | simp)]; simp [go_sem, *]
    have C1b2 : w1.cell? ⟨w.heap.size + 1, 2, none⟩ = some (Value.int IntKind.u64 bl) := by rw [fc _ _ (by first | omega | (simp; omega) | simp)]; simp [go_sem, *]
    have F1b2 : w1.frozen? ⟨w.heap.size + 1, 2, none⟩ = false := by rw [ff _ _ (by first | omega | (simp; omega) | simp)]; simp [go_sem, *]
    have C1r0 : w1.cell? ⟨w.heap.size + 1 + 1, 0, none⟩ = some (Value.bool false) := by rw [fc _ _ (by first | omega | (simp; omega) | simp)]; simp [go_sem, *]
    have F1r0 : w1.frozen? ⟨w.heap.size + 1 + 1, 0, none⟩ = false := by rw [ff _ _ (by first | omega | (simp; omega) | simp)]; simp [go_sem, *]
    have C1r1 : w1.cell? ⟨w.heap.size + 1 + 1, 1, none⟩ = some (Value.int IntKind.u64 0) := by rw [fc _ _ (by first | omega | (simp; omega) | simp)]; simp [go_sem, *]
    have F1r1 : w1.frozen? ⟨w.heap.size + 1 + 1, 1, none⟩ = false := by rw [ff _ _ (by first | omega | (simp; omega) | simp)]; simp [go_sem, *]
    have C1r2 : w1.cell? ⟨w.heap.size + 1 + 1, 2, none⟩ = some (Value.int IntKind.u64 0) := by rw [fc _ _ (by first | omega | (simp; omega) | simp)]; simp [go_sem, *]
    have F1r2 : w1.frozen? ⟨w.heap.size + 1 + 1, 2, none⟩ = false := by rw [ff _ _ (by first | omega | (simp; omega) | simp)]; simp [go_sem, *]
    clear fc ff
    have X1 : Ext w w1 := Ext.trans (by repeat (first | (with_reducible exact Ext.refl _) | (with_reducible assumption) | (with_reducible refine Ext.alloc ?_ _) | (with_reducible refine Ext.drewN ?_ _) | (with_reducible refine Ext.drew ?_) | (with_reducible refine Ext.setCell ?_ (by simp <;> omega) _))) hx
    clear hx 
    have l1a : w.heap.size < w1.heap.size := by omega
    have l1b : w.heap.size + 1 < w1.heap.size := by omega
    have l1r : w.heap.size + 1 + 1 < w1.heap.size := by omega
    go_wp2_with fail
    refine (HD.out _).mono ?_
    rintro e w2 ⟨rfl, hx⟩
    have fs2 : w1.heap.size ≤ w2.heap.size := by simpa using hx.size
    obtain ⟨fc, ff⟩ := And.intro hx.cells hx.marks
    have C2a0 : w2.cell? ⟨w.heap.size, 0, none⟩ = some (Value.bool true) := by rw [fc _ _ (by first | omega | (simp; omega) | simp)]; simp [go_sem, *]
    have F2a0 : w2.frozen? ⟨w.heap.size, 0, none⟩ = false := by rw [ff _ _ (by first | omega | (simp; omega) | simp)]; simp [go_sem, *]
    have C2a1 : w2.cell? ⟨w.heap.size, 1, none⟩ = some (Value.int IntKind.u64 ah) := by rw [fc _ _ (by first | omega | (simp; omega) | simp)]; simp [go_sem, *]
    have F2a1 : w2.frozen? ⟨w.heap.size, 1, none⟩ = false := by rw [ff _ _ (by first | omega | (simp; omega) | simp)]; simp [go_sem, *]
    have C2a2 : w2.cell? ⟨w.heap.size, 2, none⟩ = some (Value.int IntKind.u64 al) := by rw [fc _ _ (by first | omega | (simp; omega) | simp)]; simp [go_sem, *]
    have F2a2 : w2.frozen? ⟨w.heap.size, 2, none⟩ = false := by rw [ff _ _ (by first | omega | (simp; omega) | simp)]; simp [go_sem, *]
    have C2b0 : w2.cell? ⟨w.heap.size + 1, 0, none⟩ = some (Value.bool false) := by rw [fc _ _ (by first | omega | (simp; omega) | simp)]; simp [go_sem, *]
    have F2b0 : w2.frozen? ⟨w.heap.size + 1, 0, none⟩ = false := by rw [ff _ _ (by first | omega | (simp; omega) | simp)]; simp [go_sem, *]
    have C2b1 : w2.cell? ⟨w.heap.size + 1, 1, none⟩ = some (Value.int IntKind.u64 bh) := by rw [fc _ _ (by first | omega | (simp; omega) | simp)]; simp [go_sem, *]
    have F2b1 : w2.frozen? ⟨w.heap.size + 1, 1, none⟩ = false := by rw [ff _ _ (by first | omega | (simp; omega) | simp)]; simp [go_sem, *]
    have C2b2 : w2.cell? ⟨w.heap.size + 1, 2, none⟩ = some (Value.int IntKind.u64 bl) := by rw [fc _ _ (by first | omega | (simp; omega) | simp)]; simp [go_sem, *]
    have F2b2 : w2.frozen? ⟨w.heap.size + 1, 2, none⟩ = false := by rw [ff _ _ (by first | omega | (simp; omega) | simp)]; simp [go_sem, *]
    have C2r0 : w2.cell? ⟨w.heap.size + 1 + 1, 0, none⟩ = some (Value.bool false) := by rw [fc _ _ (by first | omega | (simp; omega) | simp)]; simp [go_sem, *]
    have F2r0 : w2.frozen? ⟨w.heap.size + 1 + 1, 0, none⟩ = false := by rw [ff _ _ (by first | omega | (simp; omega) | simp)]; simp [go_sem, *]
    have C2r1 : w2.cell? ⟨w.heap.size + 1 + 1, 1, none⟩ = some (Value.int IntKind.u64 0) := by rw [fc _ _ (by first | omega | (simp; omega) | simp)]; simp [go_sem, *]
    have F2r1 : w2.frozen? ⟨w.heap.size + 1 + 1, 1, none⟩ = false := by rw [ff _ _ (by first | omega | (simp; omega) | simp)]; simp [go_sem, *]
    have C2r2 : w2.cell? ⟨w.heap.size + 1 + 1, 2, none⟩ = some (Value.int IntKind.u64 0) := by rw [fc _ _ (by first | omega | (simp; omega) | simp)]; simp [go_sem, *]
    have F2r2 : w2.frozen? ⟨w.heap.size + 1 + 1, 2, none⟩ = false := by rw [ff _ _ (by first | omega | (simp; omega) | simp)]; simp [go_sem, *]
    clear fc ff
    have X2 : Ext w w2 := Ext.trans (by repeat (first | (with_reducible exact Ext.refl _) | (with_reducible assumption) | (with_reducible refine Ext.alloc ?_ _) | (with_reducible refine Ext.drewN ?_ _) | (with_reducible refine Ext.drew ?_) | (with_reducible refine Ext.setCell ?_ (by simp <;> omega) _))) hx
    clear hx X1 C1a0 F1a0 C1a1 F1a1 C1a2 F1a2 C1b0 F1b0 C1b1 F1b1 C1b2 F1b2 C1r0 F1r0 C1r1 F1r1 C1r2 F1r2
    have l2a : w.heap.size < w2.heap.size := by omega
    have l2b : w.heap.size + 1 < w2.heap.size := by omega
    have l2r : w.heap.size + 1 + 1 < w2.heap.size := by omega
    go_wp2_with fail
    exact bodyPost_ret (v := .agg #[.bool true, .int .u64 xh, .int .u64 xl]) (by simp [results, Tryd.results26, go_sem, *]) rfl ⟨rfl, (by repeat (first | (with_reducible exact Ext.refl _) | (with_reducible assumption) | (with_reducible refine Ext.alloc ?_ _) | (with_reducible refine Ext.drewN ?_ _) | (with_reducible refine Ext.drew ?_) | (with_reducible refine Ext.setCell ?_ (by simp <;> omega) _)))⟩
  · obtain ⟨rfl, hD⟩ := hD1 (by decide) rfl
    have HD := Lib.hid hD
    clear hS hD1 hD2 hD
    go_enter Tryd.func26, Tryd.ntmps26
    go_wp2_with fail
    refine (HL.out _).mono ?_
    rintro e w1 ⟨rfl, hx⟩
    have fs1 : w.heap.size + 1 + 1 + 1 ≤ w1.heap.size := by simpa using hx.size
    obtain ⟨fc, ff⟩ := And.intro hx.cells hx.marks
    have C1a0 : w1.cell? ⟨w.heap.size, 0, none⟩ = some (Value.bool true) := by rw [fc _ _ (by first | omega | (simp; omega) | simp)]; simp [go_sem, *]
    have F1a0 : w1.frozen? ⟨w.heap.size, 0, none⟩ = false := by rw [ff _ _ (by first | omega | (simp; omega) | simp)]; simp [go_sem, *]
    have C1a1 : w1.cell? ⟨w.heap.size, 1, none⟩ = some (Value.int IntKind.u64 ah) := by rw [fc _ _ (by first | omega | (simp; omega) | simp)]; simp [go_sem, *]
    have F1a1 : w1.frozen? ⟨w.heap.size, 1, none⟩ = false := by rw [ff _ _ (by first | omega | (simp; omega) | simp)]; simp [go_sem, *]
    have C1a2 : w1.cell? ⟨w.heap.size, 2, none⟩ = some (Value.int IntKind.u64 al) := by rw [fc _ _ (by first | omega | (simp; omega) | simp)]; simp [go_sem, *]
    have F1a2 : w1.frozen? ⟨w.heap.size, 2, none⟩ = false := by rw [ff _ _ (by first | omega | (simp; omega) | simp)]; simp [go_sem, *]
    have C1b0 : w1.cell? ⟨w.heap.size + 1, 0, none⟩ = some (Value.bool false) := by rw [fc _ _ (by first | omega | (simp; omega) | simp)]; simp [go_sem, *]
    have F1b0 : w1.frozen? ⟨w.heap.size + 1, 0, none⟩ = false := by rw [ff _ _ (by first | omega | (simp; omega) | simp)]; simp [go_sem, *]
    have C1b1 : w1.cell? ⟨w.heap.size + 1, 1, none⟩ = some (Value.int IntKind.u64 bh) := by rw [fc _ _ (by first | omega | (simp; omega) | simp)]; simp [go_sem, *]
    have F1b1 : w1.frozen? ⟨w.heap.size + 1, 1, none⟩ = false := by rw [ff _ _ (by first | omega | (simp; omega) | simp)]; simp [go_sem, *]
    have C1b2 : w1.cell? ⟨w.heap.size + 1, 2, none⟩ = some (Value.int IntKind.u64 bl) := by rw [fc _ _ (by first | omega | (simp; omega) | simp)]; simp [go_sem, *]
    have F1b2 : w1.frozen? ⟨w.heap.size + 1, 2, none⟩ = false := by rw [ff _ _ (by first | omega | (simp; omega) | simp)]; simp [go_sem, *]
    have C1r0 : w1.cell? ⟨w.heap.size + 1 + 1, 0, none⟩ = some (Value.bool false) := by rw [fc _ _ (by first | omega | (simp; omega) | simp)]; simp [go_sem, *]
    have F1r0 : w1.frozen? ⟨w.heap.size + 1 + 1, 0, none⟩ = false := by rw [ff _ _ (by first | omega | (simp; omega) | simp)]; simp [go_sem, *]
    have C1r1 : w1.cell? ⟨w.heap.size + 1 + 1, 1, none⟩ = some (Value.int IntKind.u64 0) := by rw [fc _ _ (by first | omega | (simp; omega) | simp)]; simp [go_sem, *]
    have F1r1 : w1.frozen? ⟨w.heap.size + 1 + 1, 1, none⟩ = false := by rw [ff _ _ (by first | omega | (simp; omega) | simp)]; simp [go_sem, *]
    have C1r2 : w1.cell? ⟨w.heap.size + 1 + 1, 2, none⟩ = some (Value.int IntKind.u64 0) := by rw [fc _ _ (by first | omega | (simp; omega) | simp)]; simp [go_sem, *]
    have F1r2 : w1.frozen? ⟨w.heap.size + 1 + 1, 2, none⟩ = false := by rw [ff _ _ (by first | omega | (simp; omega) | simp)]; simp [go_sem, *]
    clear fc ff
    have X1 : Ext w w1 := Ext.trans (by repeat (first | (with_reducible exact Ext.refl _) | (with_reducible assumption) | (with_reducible refine Ext.alloc ?_ _) | (with_reducible refine Ext.drewN ?_ _) | (with_reducible refine Ext.drew ?_) | (with_reducible refine Ext.setCell ?_ (by simp <;> omega) _))) hx
    clear hx 
    have l1a : w.heap.size < w1.heap.size := by omega
    have l1b : w.heap.size + 1 < w1.heap.size := by omega
    have l1r : w.heap.size + 1 + 1 < w1.heap.size := by omega
    go_wp2_with fail
    refine (HD.out _).mono ?_
    rintro e w2 ⟨rfl, hx⟩
    have fs2 : w1.heap.size ≤ w2.heap.size := by simpa using hx.size
    obtain ⟨fc, ff⟩ := And.intro hx.cells hx.marks
    have C2a0 : w2.cell? ⟨w.heap.size, 0, none⟩ = some (Value.bool true) := by rw [fc _ _ (by first | omega | (simp; omega) | simp)]; simp [go_sem, *]
    have F2a0 : w2.frozen? ⟨w.heap.size, 0, none⟩ = false := by rw [ff _ _ (by first | omega | (simp; omega) | simp)]; simp [go_sem, *]
    have C2a1 : w2.cell? ⟨w.heap.size, 1, none⟩ = some (Value.int IntKind.u64 ah) := by rw [fc _ _ (by first | omega | (simp; omega) | simp)]; simp [go_sem, *]
    have F2a1 : w2.frozen? ⟨w.heap.size, 1, none⟩ = false := by rw [ff _ _ (by first | omega | (simp; omega) | simp)]; simp [go_sem, *]
    have C2a2 : w2.cell? ⟨w.heap.size, 2, none⟩ = some (Value.int IntKind.u64 al) := by rw [fc _ _ (by first | omega | (simp; omega) | simp)]; simp [go_sem, *]
    have F2a2 : w2.frozen? ⟨w.heap.size, 2, none⟩ = false := by rw [ff _ _ (by first | omega | (simp; omega) | simp)]; simp [go_sem, *]
    have C2b0 : w2.cell? ⟨w.heap.size + 1, 0, none⟩ = some (Value.bool false) := by rw [fc _ _ (by first | omega | (simp; omega) | simp)]; simp [go_sem, *]
    have F2b0 : w2.frozen? ⟨w.heap.size + 1, 0, none⟩ = false := by rw [ff _ _ (by first | omega | (simp; omega) | simp)]; simp [go_sem, *]
    have C2b1 : w2.cell? ⟨w.heap.size + 1, 1, none⟩ = some (Value.int IntKind.u64 bh) := by rw [fc _ _ (by first | omega | (simp; omega) | simp)]; simp [go_sem, *]
    have F2b1 : w2.frozen? ⟨w.heap.size + 1, 1, none⟩ = false := by rw [ff _ _ (by first | omega | (simp; omega) | simp)]; simp [go_sem, *]
    have C2b2 : w2.cell? ⟨w.heap.size + 1, 2, none⟩ = some (Value.int IntKind.u64 bl) := by rw [fc _ _ (by first | omega | (simp; omega) | simp)]; simp [go_sem, *]
    have F2b2 : w2.frozen? ⟨w.heap.size + 1, 2, none⟩ = false := by rw [ff _ _ (by first | omega | (simp; omega) | simp)]; simp [go_sem, *]
    have C2r0 : w2.cell? ⟨w.heap.size + 1 + 1, 0, none⟩ = some (Value.bool false) := by rw [fc _ _ (by first | omega | (simp; omega) | simp)]; simp [go_sem, *]
    have F2r0 : w2.frozen? ⟨w.heap.size + 1 + 1, 0, none⟩ = false := by rw [ff _ _ (by first | omega | (simp; omega) | simp)]; simp [go_sem, *]
    have C2r1 : w2.cell? ⟨w.heap.size + 1 + 1, 1, none⟩ = some (Value.int IntKind.u64 0) := by rw [fc _ _ (by first | omega | (simp; omega) | simp)]; simp [go_sem, *]
    have F2r1 : w2.frozen? ⟨w.heap.size + 1 + 1, 1, none⟩ = false := by rw [ff _ _ (by first | omega | (simp; omega) | simp)]; simp [go_sem, *]
    have C2r2 : w2.cell? ⟨w.heap.size + 1 + 1, 2, none⟩ = some (Value.int IntKind.u64 0) := by rw [fc _ _ (by first | omega | (simp; omega) | simp)]; simp [go_sem, *]
    have F2r2 : w2.frozen? ⟨w.heap.size + 1 + 1, 2, none⟩ = false := by rw [ff _ _ (by first | omega | (simp; omega) | simp)]; simp [go_sem, *]
    clear fc ff
    have X2 : Ext w w2 := Ext.trans (by repeat (first | (with_reducible exact Ext.refl _) | (with_reducible assumption) | (with_reducible refine Ext.alloc ?_ _) | (with_reducible refine Ext.drewN ?_ _) | (with_reducible refine Ext.drew ?_) | (with_reducible refine Ext.setCell ?_ (by simp <;> omega) _))) hx
    clear hx X1 C1a0 F1a0 C1a1 F1a1 C1a2 F1a2 C1b0 F1b0 C1b1 F1b1 C1b2 F1b2 C1r0 F1r0 C1r1 F1r1 C1r2 F1r2
    have l2a : w.heap.size < w2.heap.size := by omega
    have l2b : w.heap.size + 1 < w2.heap.size := by omega
    have l2r : w.heap.size + 1 + 1 < w2.heap.size := by omega
    go_wp2_with fail
    exact bodyPost_ret (v := .agg #[.bool false, .int .u64 xh, .int .u64 xl]) (by simp [results, Tryd.results26, go_sem, *]) rfl ⟨rfl, (by repeat (first | (with_reducible exact Ext.refl _) | (with_reducible assumption) | (with_reducible refine Ext.alloc ?_ _) | (with_reducible refine Ext.drewN ?_ _) | (with_reducible refine Ext.drew ?_) | (with_reducible refine Ext.setCell ?_ (by simp <;> omega) _)))⟩
  · obtain ⟨rfl, hS'⟩ := hS rfl
    have HS := Lib.hid hS'
    clear hS hD1 hD2 hS'
    go_enter Tryd.func26, Tryd.ntmps26
    go_wp2_with fail
    refine (HS.out _).mono ?_
    rintro e w1 ⟨rfl, hx⟩
    have fs1 : w.heap.size + 1 + 1 + 1 ≤ w1.heap.size := by simpa using hx.size
    obtain ⟨fc, ff⟩ := And.intro hx.cells hx.marks
    have C1a0 : w1.cell? ⟨w.heap.size, 0, none⟩ = some (Value.bool true) := by rw [fc _ _ (by first | omega | (simp; omega) | simp)]; simp [go_sem, *]
    have F1a0 : w1.frozen? ⟨w.heap.size, 0, none⟩ = false := by rw [ff _ _ (by first | omega | (simp; omega) | simp)]; simp [go_sem, *]
    have C1a1 : w1.cell? ⟨w.heap.size, 1, none⟩ = some (Value.int IntKind.u64 ah) := by rw [fc _ _ (by first | omega | (simp; omega) | simp)]; simp [go_sem, *]
    have F1a1 : w1.frozen? ⟨w.heap.size, 1, none⟩ = false := by rw [ff _ _ (by first | omega | (simp; omega) | simp)]; simp [go_sem, *]
    have C1a2 : w1.cell? ⟨w.heap.size, 2, none⟩ = some (Value.int IntKind.u64 al) := by rw [fc _ _ (by first | omega | (simp; omega) | simp)]; simp [go_sem, *]
    have F1a2 : w1.frozen? ⟨w.heap.size, 2, none⟩ = false := by rw [ff _ _ (by first | omega | (simp; omega) | simp)]; simp [go_sem, *]
    have C1b0 : w1.cell? ⟨w.heap.size + 1, 0, none⟩ = some (Value.bool true) := by rw [fc _ _ (by first | omega | (simp; omega) | simp)]; simp [go_sem, *]
    have F1b0 : w1.frozen? ⟨w.heap.size + 1, 0, none⟩ = false := by rw [ff _ _ (by first | omega | (simp; omega) | simp)]; simp [go_sem, *]
    have C1b1 : w1.cell? ⟨w.heap.size + 1, 1, none⟩ = some (Value.int IntKind.u64 bh) := by rw [fc _ _ (by first | omega | (simp; omega) | simp)]; simp [go_sem, *]
    have F1b1 : w1.frozen? ⟨w.heap.size + 1, 1, none⟩ = false := by rw [ff _ _ (by first | omega | (simp; omega) | simp)]; simp [go_sem, *]
    have C1b2 : w1.cell? ⟨w.heap.size + 1, 2, none⟩ = some (Value.int IntKind.u64 bl) := by rw [fc _ _ (by first | omega | (simp; omega) | simp)]; simp [go_sem, *]
    have F1b2 : w1.frozen? ⟨w.heap.size + 1, 2, none⟩ = false := by rw [ff _ _ (by first | omega | (simp; omega) | simp)]; simp [go_sem, *]
    have C1r0 : w1.cell? ⟨w.heap.size + 1 + 1, 0, none⟩ = some (Value.bool false) := by rw [fc _ _ (by first | omega | (simp; omega) | simp)]; simp [go_sem, *]
    have F1r0 : w1.frozen? ⟨w.heap.size + 1 + 1, 0, none⟩ = false := by rw [ff _ _ (by first | omega | (simp; omega) | simp)]; simp [go_sem, *]
    have C1r1 : w1.cell? ⟨w.heap.size + 1 + 1, 1, none⟩ = some (Value.int IntKind.u64 0) := by rw [fc _ _ (by first | omega | (simp; omega) | simp)]; simp [go_sem, *]
    have F1r1 : w1.frozen? ⟨w.heap.size + 1 + 1, 1, none⟩ = false := by rw [ff _ _ (by first | omega | (simp; omega) | simp)]; simp [go_sem, *]
    have C1r2 : w1.cell? ⟨w.heap.size + 1 + 1, 2, none⟩ = some (Value.int IntKind.u64 0) := by rw [fc _ _ (by first | omega | (simp; omega) | simp)]; simp [go_sem, *]
    have F1r2 : w1.frozen? ⟨w.heap.size + 1 + 1, 2, none⟩ = false := by rw [ff _ _ (by first | omega | (simp; omega) | simp)]; simp [go_sem, *]
    clear fc ff
    have X1 : Ext w w1 := Ext.trans (by repeat (first | (with_reducible exact Ext.refl _) | (with_reducible assumption) | (with_reducible refine Ext.alloc ?_ _) | (with_reducible refine Ext.drewN ?_ _) | (with_reducible refine Ext.drew ?_) | (with_reducible refine Ext.setCell ?_ (by simp <;> omega) _))) hx
    clear hx 
    have l1a : w.heap.size < w1.heap.size := by omega
    have l1b : w.heap.size + 1 < w1.heap.size := by omega
    have l1r : w.heap.size + 1 + 1 < w1.heap.size := by omega
    go_wp2_with fail
    exact bodyPost_ret (v := .agg #[.bool true, .int .u64 xh, .int .u64 xl]) (by simp [results, Tryd.results26, go_sem, *]) rfl ⟨rfl, (by repeat (first | (with_reducible exact Ext.refl _) | (with_reducible assumption) | (with_reducible refine Ext.alloc ?_ _) | (with_reducible refine Ext.drewN ?_ _) | (with_reducible refine Ext.drew ?_) | (with_reducible refine Ext.setCell ?_ (by simp <;> omega) _)))⟩
  · obtain ⟨rfl, hS'⟩ := hS rfl
    have HS := Lib.hid hS'
    clear hS hD1 hD2 hS'
    go_enter Tryd.func26, Tryd.ntmps26
    go_wp2_with fail
    refine (HS.out _).mono ?_
    rintro e w1 ⟨rfl, hx⟩
    have fs1 : w.heap.size + 1 + 1 + 1 ≤ w1.heap.size := by simpa using hx.size
    obtain ⟨fc, ff⟩ := And.intro hx.cells hx.marks
    have C1a0 : w1.cell? ⟨w.heap.size, 0, none⟩ = some (Value.bool true) := by rw [fc _ _ (by first | omega | (simp; omega) | simp)]; simp [go_sem, *]
    have F1a0 : w1.frozen? ⟨w.heap.size, 0, none⟩ = false := by rw [ff _ _ (by first | omega | (simp; omega) | simp)]; simp [go_sem, *]
    have C1a1 : w1.cell? ⟨w.heap.size, 1, none⟩ = some (Value.int IntKind.u64 ah) := by rw [fc _ _ (by first | omega | (simp; omega) | simp)]; simp [go_sem, *]
    have F1a1 : w1.frozen? ⟨w.heap.size, 1, none⟩ = false := by rw [ff _ _ (by first | omega | (simp; omega) | simp)]; simp [go_sem, *]
    have C1a2 : w1.cell? ⟨w.heap.size, 2, none⟩ = some (Value.int IntKind.u64 al) := by rw [fc _ _ (by first | omega | (simp; omega) | simp)]; simp [go_sem, *]
    have F1a2 : w1.frozen? ⟨w.heap.size, 2, none⟩ = false := by rw [ff _ _ (by first | omega | (simp; omega) | simp)]; simp [go_sem, *]
    have C1b0 : w1.cell? ⟨w.heap.size + 1, 0, none⟩ = some (Value.bool true) := by rw [fc _ _ (by first | omega | (simp; omega) | simp)]; simp [go_sem, *]
    have F1b0 : w1.frozen? ⟨w.heap.size + 1, 0, none⟩ = false := by rw [ff _ _ (by first | omega | (simp; omega) | simp)]; simp [go_sem, *]
    have C1b1 : w1.cell? ⟨w.heap.size + 1, 1, none⟩ = some (Value.int IntKind.u64 bh) := by rw [fc _ _ (by first | omega | (simp; omega) | simp)]; simp [go_sem, *]
    have F1b1 : w1.frozen? ⟨w.heap.size + 1, 1, none⟩ = false := by rw [ff _ _ (by first | omega | (simp; omega) | simp)]; simp [go_sem, *]
    have C1b2 : w1.cell? ⟨w.heap.size + 1, 2, none⟩ = some (Value.int IntKind.u64 bl) := by rw [fc _ _ (by first | omega | (simp; omega) | simp)]; simp [go_sem, *]
    have F1b2 : w1.frozen? ⟨w.heap.size + 1, 2, none⟩ = false := by rw [ff _ _ (by first | omega | (simp; omega) | simp)]; simp [go_sem, *]
    have C1r0 : w1.cell? ⟨w.heap.size + 1 + 1, 0, none⟩ = some (Value.bool false) := by rw [fc _ _ (by first | omega | (simp; omega) | simp)]; simp [go_sem, *]
    have F1r0 : w1.frozen? ⟨w.heap.size + 1 + 1, 0, none⟩ = false := by rw [ff _ _ (by first | omega | (simp; omega) | simp)]; simp [go_sem, *]
    have C1r1 : w1.cell? ⟨w.heap.size + 1 + 1, 1, none⟩ = some (Value.int IntKind.u64 0) := by rw [fc _ _ (by first | omega | (simp; omega) | simp)]; simp [go_sem, *]
    have F1r1 : w1.frozen? ⟨w.heap.size + 1 + 1, 1, none⟩ = false := by rw [ff _ _ (by first | omega | (simp; omega) | simp)]; simp [go_sem, *]
    have C1r2 : w1.cell? ⟨w.heap.size + 1 + 1, 2, none⟩ = some (Value.int IntKind.u64 0) := by rw [fc _ _ (by first | omega | (simp; omega) | simp)]; simp [go_sem, *]
    have F1r2 : w1.frozen? ⟨w.heap.size + 1 + 1, 2, none⟩ = false := by rw [ff _ _ (by first | omega | (simp; omega) | simp)]; simp [go_sem, *]
    clear fc ff
    have X1 : Ext w w1 := Ext.trans (by repeat (first | (with_reducible exact Ext.refl _) | (with_reducible assumption) | (with_reducible refine Ext.alloc ?_ _) | (with_reducible refine Ext.drewN ?_ _) | (with_reducible refine Ext.drew ?_) | (with_reducible refine Ext.setCell ?_ (by simp <;> omega) _))) hx
    clear hx 
    have l1a : w.heap.size < w1.heap.size := by omega
    have l1b : w.heap.size + 1 < w1.heap.size := by omega
    have l1r : w.heap.size + 1 + 1 < w1.heap.size := by omega
    go_wp2_with fail
    exact bodyPost_ret (v := .agg #[.bool true, .int .u64 xh, .int .u64 xl]) (by simp [results, Tryd.results26, go_sem, *]) rfl ⟨rfl, (by repeat (first | (with_reducible exact Ext.refl _) | (with_reducible assumption) | (with_reducible refine Ext.alloc ?_ _) | (with_reducible refine Ext.drewN ?_ _) | (with_reducible refine Ext.drew ?_) | (with_reducible refine Ext.setCell ?_ (by simp <;> omega) _)))⟩
theorem add_w (s t : Bool) (m n : Int) (hm : Fits m) (hn : Fits n) (hmn : Fits (m + n)) (w : World) :
    Calls Tryd.prog 26 #[wv s m, wv t n] w fun e w' => e = .returned (wv (psgn s t m n) (pmag s t m n)) ∧ Ext w w' := by
  refine add_walk s t _ _ _ _ _ _ (decide (m < n)) _ w ?_ (fun W => less_any s t m n hm hn W) ?_ ?_
  · rintro rfl
    have e1 : psgn s s m n = s := by cases s <;> simp [psgn]
    have e2 : pmag s s m n = m + n := by cases s <;> simp [pmag]
    rw [e1, e2]
    exact ⟨rfl, fun W => sum_w s s m n hm hn hmn W⟩
  · intro hne hlt
    have hlt := of_decide_eq_true hlt
    have e1 : psgn s t m n = t := by cases s <;> cases t <;> simp_all [psgn]
    have e2 : pmag s t m n = n - m := by cases s <;> cases t <;> simp_all [pmag] <;> omega
    rw [e1, e2]
    exact ⟨rfl, fun W => diff_any t s n m hn hm (by omega) W⟩
  · intro hne hlt
    have hlt := of_decide_eq_false hlt
    have e1 : psgn s t m n = s := by cases s <;> cases t <;> simp_all [psgn]
    have e2 : pmag s t m n = m - n := by cases s <;> cases t <;> simp_all [pmag] <;> omega
    rw [e1, e2]
    exact ⟨rfl, fun W => diff_any s t m n hm hn (by omega) W⟩

set_option maxRecDepth 100000 in
set_option maxHeartbeats 1000000 in
theorem valid_walk (n d : Int) (hd : ¬ d = 0) (w : World) (s t : Bool) (nl dl gh gl nh dh : Int)
    (h1 : ∀ W : World, Calls Tryd.prog 16 #[.int .i64 n] W fun e w' => e = .returned (.agg #[.bool s, .int .u64 nh, .int .u64 nl]) ∧ Ext W w')
    (h2 : ∀ W : World, Calls Tryd.prog 16 #[.int .i64 d] W fun e w' => e = .returned (.agg #[.bool t, .int .u64 dh, .int .u64 dl]) ∧ Ext W w')
    (hG : ∀ W : World, Calls Tryd.prog 35 #[.agg #[.bool s, .int .u64 nh, .int .u64 nl], .agg #[.bool t, .int .u64 dh, .int .u64 dl]] W fun e w' => e = .returned (.agg #[.bool false, .int .u64 gh, .int .u64 gl]) ∧ Ext W w') :
    Calls Tryd.prog 18 #[.int .i64 n, .int .i64 d] w fun e w' => e = .returned (.bool (decide (0 < d) && (gh == 0 && gl == 1))) ∧ Ext w w' := by
  have H1 := Lib.hid h1
  have H2 := Lib.hid h2
  have HG := Lib.hid hG
  clear h1 h2 hG
  have hd' : (d == 0) = false := by simp [hd]
  by_cases h0 : 0 < d
  all_goals
    by_cases hg : gh = 0
    all_goals
      go_enter Tryd.func18, Tryd.ntmps18
      go_wp2_with fail
      refine (H1.out _).mono ?_
      rintro e w1 ⟨rfl, hx1⟩
      go_wp2_with fail
      refine (H2.out _).mono ?_
      rintro e w2 ⟨rfl, hx2⟩
      go_wp2_with fail
      refine (HG.out _).mono ?_
      rintro e w3 ⟨rfl, hx3⟩
      have X3 : Ext w w3 := (hx1.trans hx2).trans hx3
      clear hx1 hx2 hx3
      go_wp2_with fail
      all_goals
        go_ret
        exact ⟨ret_bool (by first | (simp [*]; done) | (simp [*]; intro h; omega)), (by repeat (first | (with_reducible exact Ext.refl _) | (with_reducible assumption) | (with_reducible refine Ext.alloc ?_ _) | (with_reducible refine Ext.drewN ?_ _) | (with_reducible refine Ext.drew ?_) | (with_reducible refine Ext.setCell ?_ (by simp <;> omega) _)))⟩

set_option maxRecDepth 100000 in
set_option maxHeartbeats 1000000 in
theorem cmp_walk (a b c d : Int) (w : World) (sa sb sc sd xs ys zs zb : Bool) (ah al bh bl ch cl dh dl xh xl yh yl zh zl : Int)
    (h1 : ∀ W : World, Calls Tryd.prog 16 #[.int .i64 a] W fun e w' => e = .returned (.agg #[.bool sa, .int .u64 ah, .int .u64 al]) ∧ Ext W w')
    (h2 : ∀ W : World, Calls Tryd.prog 16 #[.int .i64 d] W fun e w' => e = .returned (.agg #[.bool sd, .int .u64 dh, .int .u64 dl]) ∧ Ext W w')
    (h3 : ∀ W : World, Calls Tryd.prog 25 #[.agg #[.bool sa, .int .u64 ah, .int .u64 al], .agg #[.bool sd, .int .u64 dh, .int .u64 dl]] W fun e w' => e = .returned (.agg #[.bool xs, .int .u64 xh, .int .u64 xl]) ∧ Ext W w')
    (h4 : ∀ W : World, Calls Tryd.prog 16 #[.int .i64 c] W fun e w' => e = .returned (.agg #[.bool sc, .int .u64 ch, .int .u64 cl]) ∧ Ext W w')
    (h5 : ∀ W : World, Calls Tryd.prog 16 #[.int .i64 b] W fun e w' => e = .returned (.agg #[.bool sb, .int .u64 bh, .int .u64 bl]) ∧ Ext W w')
    (h6 : ∀ W : World, Calls Tryd.prog 25 #[.agg #[.bool sc, .int .u64 ch, .int .u64 cl], .agg #[.bool sb, .int .u64 bh, .int .u64 bl]] W fun e w' => e = .returned (.agg #[.bool ys, .int .u64 yh, .int .u64 yl]) ∧ Ext W w')
    (h7 : ∀ W : World, Calls Tryd.prog 26 #[.agg #[.bool xs, .int .u64 xh, .int .u64 xl], .agg #[.bool (!ys), .int .u64 yh, .int .u64 yl]] W fun e w' => e = .returned (.agg #[.bool zs, .int .u64 zh, .int .u64 zl]) ∧ Ext W w')
    (h8 : ∀ W : World, Calls Tryd.prog 49 #[.agg #[.bool zs, .int .u64 zh, .int .u64 zl]] W fun e w' => e = .returned (.bool zb) ∧ Ext W w') :
    Calls Tryd.prog 29 #[.int .i64 a, .int .i64 b, .int .i64 c, .int .i64 d] w fun e w' => e = .returned (.int .i64 (if zb then 0 else if zs then -1 else 1)) ∧ Ext w w' := by
  have H1 := Lib.hid h1
  have H2 := Lib.hid h2
  have H3 := Lib.hid h3
  have H4 := Lib.hid h4
  have H5 := Lib.hid h5
  have H6 := Lib.hid h6
  have H7 := Lib.hid h7
  have H8 := Lib.hid h8
  clear h1 h2 h3 h4 h5 h6 h7 h8
  have X0 : Ext w w := Ext.refl w
  cases zb <;> cases zs
  · go_enter Tryd.func29, Tryd.ntmps29
    go_wp2_with fail
    refine (H1.out _).mono ?_
    rintro e w1 ⟨rfl, hx⟩
    have fs1 : w.heap.size ≤ w1.heap.size := by simpa using hx.size
    obtain ⟨fc, ff⟩ := And.intro hx.cells hx.marks
    clear fc ff
    have X1 : Ext w w1 := Ext.trans (by repeat (first | (with_reducible exact Ext.refl _) | (with_reducible assumption) | (with_reducible refine Ext.alloc ?_ _) | (with_reducible refine Ext.drewN ?_ _) | (with_reducible refine Ext.drew ?_) | (with_reducible refine Ext.setCell ?_ (by simp <;> omega) _))) hx
    clear hx 
    go_wp2_with fail
    refine (H2.out _).mono ?_
    rintro e w2 ⟨rfl, hx⟩
    have fs2 : w1.heap.size ≤ w2.heap.size := by simpa using hx.size
    obtain ⟨fc, ff⟩ := And.intro hx.cells hx.marks
    clear fc ff
    have X2 : Ext w w2 := Ext.trans (by repeat (first | (with_reducible exact Ext.refl _) | (with_reducible assumption) | (with_reducible refine Ext.alloc ?_ _) | (with_reducible refine Ext.drewN ?_ _) | (with_reducible refine Ext.drew ?_) | (with_reducible refine Ext.setCell ?_ (by simp <;> omega) _))) hx
    clear hx X1 
    go_wp2_with fail
    refine (H3.out _).mono ?_
    rintro e w3 ⟨rfl, hx⟩
    have fs3 : w2.heap.size ≤ w3.heap.size := by simpa using hx.size
    obtain ⟨fc, ff⟩ := And.intro hx.cells hx.marks
    clear fc ff
    have X3 : Ext w w3 := Ext.trans (by repeat (first | (with_reducible exact Ext.refl _) | (with_reducible assumption) | (with_reducible refine Ext.alloc ?_ _) | (with_reducible refine Ext.drewN ?_ _) | (with_reducible refine Ext.drew ?_) | (with_reducible refine Ext.setCell ?_ (by simp <;> omega) _))) hx
    clear hx X2 
    go_wp2_with fail
    refine (H4.out _).mono ?_
    rintro e w4 ⟨rfl, hx⟩
    have fs4 : w3.heap.size + 1 ≤ w4.heap.size := by simpa using hx.size
    obtain ⟨fc, ff⟩ := And.intro hx.cells hx.marks
    have C4x0 : w4.cell? ⟨w3.heap.size, 0, none⟩ = some (Value.bool xs) := by rw [fc _ _ (by first | omega | (simp; omega) | simp)]; simp [go_sem, *]
    have F4x0 : w4.frozen? ⟨w3.heap.size, 0, none⟩ = false := by rw [ff _ _ (by first | omega | (simp; omega) | simp)]; simp [go_sem, *]
    have C4x1 : w4.cell? ⟨w3.heap.size, 1, none⟩ = some (Value.int IntKind.u64 xh) := by rw [fc _ _ (by first | omega | (simp; omega) | simp)]; simp [go_sem, *]
    have F4x1 : w4.frozen? ⟨w3.heap.size, 1, none⟩ = false := by rw [ff _ _ (by first | omega | (simp; omega) | simp)]; simp [go_sem, *]
    have C4x2 : w4.cell? ⟨w3.heap.size, 2, none⟩ = some (Value.int IntKind.u64 xl) := by rw [fc _ _ (by first | omega | (simp; omega) | simp)]; simp [go_sem, *]
    have F4x2 : w4.frozen? ⟨w3.heap.size, 2, none⟩ = false := by rw [ff _ _ (by first | omega | (simp; omega) | simp)]; simp [go_sem, *]
    clear fc ff
    have X4 : Ext w w4 := Ext.trans (by repeat (first | (with_reducible exact Ext.refl _) | (with_reducible assumption) | (with_reducible refine Ext.alloc ?_ _) | (with_reducible refine Ext.drewN ?_ _) | (with_reducible refine Ext.drew ?_) | (with_reducible refine Ext.setCell ?_ (by simp <;> omega) _))) hx
    clear hx X3 
    have l4x : w3.heap.size < w4.heap.size := by omega
    go_wp2_with fail
    refine (H5.out _).mono ?_
    rintro e w5 ⟨rfl, hx⟩
    have fs5 : w4.heap.size ≤ w5.heap.size := by simpa using hx.size
    obtain ⟨fc, ff⟩ := And.intro hx.cells hx.marks
    have C5x0 : w5.cell? ⟨w3.heap.size, 0, none⟩ = some (Value.bool xs) := by rw [fc _ _ (by first | omega | (simp; omega) | simp)]; simp [go_sem, *]
    have F5x0 : w5.frozen? ⟨w3.heap.size, 0, none⟩ = false := by rw [ff _ _ (by first | omega | (simp; omega) | simp)]; simp [go_sem, *]
    have C5x1 : w5.cell? ⟨w3.heap.size, 1, none⟩ = some (Value.int IntKind.u64 xh) := by rw [fc _ _ (by first | omega | (simp; omega) | simp)]; simp [go_sem, *]
    have F5x1 : w5.frozen? ⟨w3.heap.size, 1, none⟩ = false := by rw [ff _ _ (by first | omega | (simp; omega) | simp)]; simp [go_sem, *]
    have C5x2 : w5.cell? ⟨w3.heap.size, 2, none⟩ = some (Value.int IntKind.u64 xl) := by rw [fc _ _ (by first | omega | (simp; omega) | simp)]; simp [go_sem, *]
    have F5x2 : w5.frozen? ⟨w3.heap.size, 2, none⟩ = false := by rw [ff _ _ (by first | omega | (simp; omega) | simp)]; simp [go_sem, *]
    clear fc ff
    have X5 : Ext w w5 := Ext.trans (by repeat (first | (with_reducible exact Ext.refl _) | (with_reducible assumption) | (with_reducible refine Ext.alloc ?_ _) | (with_reducible refine Ext.drewN ?_ _) | (with_reducible refine Ext.drew ?_) | (with_reducible refine Ext.setCell ?_ (by simp <;> omega) _))) hx
    clear hx X4 C4x0 F4x0 C4x1 F4x1 C4x2 F4x2
    have l5x : w3.heap.size < w5.heap.size := by omega
    go_wp2_with fail
    refine (H6.out _).mono ?_
    rintro e w6 ⟨rfl, hx⟩
    have fs6 : w5.heap.size ≤ w6.heap.size := by simpa using hx.size
    obtain ⟨fc, ff⟩ := And.intro hx.cells hx.marks
    have C6x0 : w6.cell? ⟨w3.heap.size, 0, none⟩ = some (Value.bool xs) := by rw [fc _ _ (by first | omega | (simp; omega) | simp)]; simp [go_sem, *]
    have F6x0 : w6.frozen? ⟨w3.heap.size, 0, none⟩ = false := by rw [ff _ _ (by first | omega | (simp; omega) | simp)]; simp [go_sem, *]
    have C6x1 : w6.cell? ⟨w3.heap.size, 1, none⟩ = some (Value.int IntKind.u64 xh) := by rw [fc _ _ (by first | omega | (simp; omega) | simp)]; simp [go_sem, *]
    have F6x1 : w6.frozen? ⟨w3.heap.size, 1, none⟩ = false := by rw [ff _ _ (by first | omega | (simp; omega) | simp)]; simp [go_sem, *]
    have C6x2 : w6.cell? ⟨w3.heap.size, 2, none⟩ = some (Value.int IntKind.u64 xl) := by rw [fc _ _ (by first | omega | (simp; omega) | simp)]; simp [go_sem, *]
    have F6x2 : w6.frozen? ⟨w3.heap.size, 2, none⟩ = false := by rw [ff _ _ (by first | omega | (simp; omega) | simp)]; simp [go_sem, *]
    clear fc ff
    have X6 : Ext w w6 := Ext.trans (by repeat (first | (with_reducible exact Ext.refl _) | (with_reducible assumption) | (with_reducible refine Ext.alloc ?_ _) | (with_reducible refine Ext.drewN ?_ _) | (with_reducible refine Ext.drew ?_) | (with_reducible refine Ext.setCell ?_ (by simp <;> omega) _))) hx
    clear hx X5 C5x0 F5x0 C5x1 F5x1 C5x2 F5x2
    have l6x : w3.heap.size < w6.heap.size := by omega
    go_wp2_with fail
    refine (H7.out _).mono ?_
    rintro e w7 ⟨rfl, hx⟩
    have fs7 : w6.heap.size + 1 ≤ w7.heap.size := by simpa using hx.size
    obtain ⟨fc, ff⟩ := And.intro hx.cells hx.marks
    have C7x0 : w7.cell? ⟨w3.heap.size, 0, none⟩ = some (Value.bool xs) := by rw [fc _ _ (by first | omega | (simp; omega) | simp)]; simp [go_sem, *]
    have F7x0 : w7.frozen? ⟨w3.heap.size, 0, none⟩ = false := by rw [ff _ _ (by first | omega | (simp; omega) | simp)]; simp [go_sem, *]
    have C7x1 : w7.cell? ⟨w3.heap.size, 1, none⟩ = some (Value.int IntKind.u64 xh) := by rw [fc _ _ (by first | omega | (simp; omega) | simp)]; simp [go_sem, *]
    have F7x1 : w7.frozen? ⟨w3.heap.size, 1, none⟩ = false := by rw [ff _ _ (by first | omega | (simp; omega) | simp)]; simp [go_sem, *]
    have C7x2 : w7.cell? ⟨w3.heap.size, 2, none⟩ = some (Value.int IntKind.u64 xl) := by rw [fc _ _ (by first | omega | (simp; omega) | simp)]; simp [go_sem, *]
    have F7x2 : w7.frozen? ⟨w3.heap.size, 2, none⟩ = false := by rw [ff _ _ (by first | omega | (simp; omega) | simp)]; simp [go_sem, *]
    have C7y0 : w7.cell? ⟨w6.heap.size, 0, none⟩ = some (Value.bool (!ys)) := by rw [fc _ _ (by first | omega | (simp; omega) | simp)]; simp [go_sem, *]
    have F7y0 : w7.frozen? ⟨w6.heap.size, 0, none⟩ = false := by rw [ff _ _ (by first | omega | (simp; omega) | simp)]; simp [go_sem, *]
    have C7y1 : w7.cell? ⟨w6.heap.size, 1, none⟩ = some (Value.int IntKind.u64 yh) := by rw [fc _ _ (by first | omega | (simp; omega) | simp)]; simp [go_sem, *]
    have F7y1 : w7.frozen? ⟨w6.heap.size, 1, none⟩ = false := by rw [ff _ _ (by first | omega | (simp; omega) | simp)]; simp [go_sem, *]
    have C7y2 : w7.cell? ⟨w6.heap.size, 2, none⟩ = some (Value.int IntKind.u64 yl) := by rw [fc _ _ (by first | omega | (simp; omega) | simp)]; simp [go_sem, *]
    have F7y2 : w7.frozen? ⟨w6.heap.size, 2, none⟩ = false := by rw [ff _ _ (by first | omega | (simp; omega) | simp)]; simp [go_sem, *]
    clear fc ff
    have X7 : Ext w w7 := Ext.trans (by repeat (first | (with_reducible exact Ext.refl _) | (with_reducible assumption) | (with_reducible refine Ext.alloc ?_ _) | (with_reducible refine Ext.drewN ?_ _) | (with_reducible refine Ext.drew ?_) | (with_reducible refine Ext.setCell ?_ (by simp <;> omega) _))) hx
    clear hx X6 C6x0 F6x0 C6x1 F6x1 C6x2 F6x2
    have l7x : w3.heap.size < w7.heap.size := by omega
    have l7y : w6.heap.size < w7.heap.size := by omega
    go_wp2_with fail
    refine (H8.out _).mono ?_
    rintro e w8 ⟨rfl, hx⟩
    have fs8 : w7.heap.size + 1 ≤ w8.heap.size := by simpa using hx.size
    obtain ⟨fc, ff⟩ := And.intro hx.cells hx.marks
    have C8x0 : w8.cell? ⟨w3.heap.size, 0, none⟩ = some (Value.bool xs) := by rw [fc _ _ (by first | omega | (simp; omega) | simp)]; simp [go_sem, *]
    have F8x0 : w8.frozen? ⟨w3.heap.size, 0, none⟩ = false := by rw [ff _ _ (by first | omega | (simp; omega) | simp)]; simp [go_sem, *]
    have C8x1 : w8.cell? ⟨w3.heap.size, 1, none⟩ = some (Value.int IntKind.u64 xh) := by rw [fc _ _ (by first | omega | (simp; omega) | simp)]; simp [go_sem, *]
    have F8x1 : w8.frozen? ⟨w3.heap.size, 1, none⟩ = false := by rw [ff _ _ (by first | omega | (simp; omega) | simp)]; simp [go_sem, *]
    have C8x2 : w8.cell? ⟨w3.heap.size, 2, none⟩ = some (Value.int IntKind.u64 xl) := by rw [fc _ _ (by first | omega | (simp; omega) | simp)]; simp [go_sem, *]
    have F8x2 : w8.frozen? ⟨w3.heap.size, 2, none⟩ = false := by rw [ff _ _ (by first | omega | (simp; omega) | simp)]; simp [go_sem, *]
    have C8y0 : w8.cell? ⟨w6.heap.size, 0, none⟩ = some (Value.bool (!ys)) := by rw [fc _ _ (by first | omega | (simp; omega) | simp)]; simp [go_sem, *]
    have F8y0 : w8.frozen? ⟨w6.heap.size, 0, none⟩ = false := by rw [ff _ _ (by first | omega | (simp; omega) | simp)]; simp [go_sem, *]
    have C8y1 : w8.cell? ⟨w6.heap.size, 1, none⟩ = some (Value.int IntKind.u64 yh) := by rw [fc _ _ (by first | omega | (simp; omega) | simp)]; simp [go_sem, *]
    have F8y1 : w8.frozen? ⟨w6.heap.size, 1, none⟩ = false := by rw [ff _ _ (by first | omega | (simp; omega) | simp)]; simp [go_sem, *]
    have C8y2 : w8.cell? ⟨w6.heap.size, 2, none⟩ = some (Value.int IntKind.u64 yl) := by rw [fc _ _ (by first | omega | (simp; omega) | simp)]; simp [go_sem, *]
    have F8y2 : w8.frozen? ⟨w6.heap.size, 2, none⟩ = false := by rw [ff _ _ (by first | omega | (simp; omega) | simp)]; simp [go_sem, *]
    have C8z0 : w8.cell? ⟨w7.heap.size, 0, none⟩ = some (Value.bool false) := by rw [fc _ _ (by first | omega | (simp; omega) | simp)]; simp [go_sem, *]
    have F8z0 : w8.frozen? ⟨w7.heap.size, 0, none⟩ = false := by rw [ff _ _ (by first | omega | (simp; omega) | simp)]; simp [go_sem, *]
    have C8z1 : w8.cell? ⟨w7.heap.size, 1, none⟩ = some (Value.int IntKind.u64 zh) := by rw [fc _ _ (by first | omega | (simp; omega) | simp)]; simp [go_sem, *]
    have F8z1 : w8.frozen? ⟨w7.heap.size, 1, none⟩ = false := by rw [ff _ _ (by first | omega | (simp; omega) | simp)]; simp [go_sem, *]
    have C8z2 : w8.cell? ⟨w7.heap.size, 2, none⟩ = some (Value.int IntKind.u64 zl) := by rw [fc _ _ (by first | omega | (simp; omega) | simp)]; simp [go_sem, *]
    have F8z2 : w8.frozen? ⟨w7.heap.size, 2, none⟩ = false := by rw [ff _ _ (by first | omega | (simp; omega) | simp)]; simp [go_sem, *]
    clear fc ff
    have X8 : Ext w w8 := Ext.trans (by repeat (first | (with_reducible exact Ext.refl _) | (with_reducible assumption) | (with_reducible refine Ext.alloc ?_ _) | (with_reducible refine Ext.drewN ?_ _) | (with_reducible refine Ext.drew ?_) | (with_reducible refine Ext.setCell ?_ (by simp <;> omega) _))) hx
    clear hx X7 C7x0 F7x0 C7x1 F7x1 C7x2 F7x2 C7y0 F7y0 C7y1 F7y1 C7y2 F7y2
    have l8x : w3.heap.size < w8.heap.size := by omega
    have l8y : w6.heap.size < w8.heap.size := by omega
    have l8z : w7.heap.size < w8.heap.size := by omega
    go_wp2_with fail
    go_ret
    exact ⟨rfl, (by repeat (first | (with_reducible exact Ext.refl _) | (with_reducible assumption) | (with_reducible refine Ext.alloc ?_ _) | (with_reducible refine Ext.drewN ?_ _) | (with_reducible refine Ext.drew ?_) | (with_reducible refine Ext.setCell ?_ (by simp <;> omega) _)))⟩
  · go_enter Tryd.func29, Tryd.ntmps29
    go_wp2_with fail
    refine (H1.out _).mono ?_
    rintro e w1 ⟨rfl, hx⟩
    have fs1 : w.heap.size ≤ w1.heap.size := by simpa using hx.size
    obtain ⟨fc, ff⟩ := And.intro hx.cells hx.marks
    clear fc ff
    have X1 : Ext w w1 := Ext.trans (by repeat (first | (with_reducible exact Ext.refl _) | (with_reducible assumption) | (with_reducible refine Ext.alloc ?_ _) | (with_reducible refine Ext.drewN ?_ _) | (with_reducible refine Ext.drew ?_) | (with_reducible refine Ext.setCell ?_ (by simp <;> omega) _))) hx
    clear hx 
    go_wp2_with fail
    refine (H2.out _).mono ?_
    rintro e w2 ⟨rfl, hx⟩
    have fs2 : w1.heap.size ≤ w2.heap.size := by simpa using hx.size
    obtain ⟨fc, ff⟩ := And.intro hx.cells hx.marks
    clear fc ff
    have X2 : Ext w w2 := Ext.trans (by repeat (first | (with_reducible exact Ext.refl _) | (with_reducible assumption) | (with_reducible refine Ext.alloc ?_ _) | (with_reducible refine Ext.drewN ?_ _) | (with_reducible refine Ext.drew ?_) | (with_reducible refine Ext.setCell ?_ (by simp <;> omega) _))) hx
    clear hx X1 
    go_wp2_with fail
    refine (H3.out _).mono ?_
    rintro e w3 ⟨rfl, hx⟩
    have fs3 : w2.heap.size ≤ w3.heap.size := by simpa using hx.size
    obtain ⟨fc, ff⟩ := And.intro hx.cells hx.marks
    clear fc ff
    have X3 : Ext w w3 := Ext.trans (by repeat (first | (with_reducible exact Ext.refl _) | (with_reducible assumption) | (with_reducible refine Ext.alloc ?_ _) | (with_reducible refine Ext.drewN ?_ _) | (with_reducible refine Ext.drew ?_) | (with_reducible refine Ext.setCell ?_ (by simp <;> omega) _))) hx
    clear hx X2 
    go_wp2_with fail
    refine (H4.out _).mono ?_
    rintro e w4 ⟨rfl, hx⟩
    have fs4 : w3.heap.size + 1 ≤ w4.heap.size := by simpa using hx.size
    obtain ⟨fc, ff⟩ := And.intro hx.cells hx.marks
    have C4x0 : w4.cell? ⟨w3.heap.size, 0, none⟩ = some (Value.bool xs) := by rw [fc _ _ (by first | omega | (simp; omega) | simp)]; simp [go_sem, *]
    have F4x0 : w4.frozen? ⟨w3.heap.size, 0, none⟩ = false := by rw [ff _ _ (by first | omega | (simp; omega) | simp)]; simp [go_sem, *]
    have C4x1 : w4.cell? ⟨w3.heap.size, 1, none⟩ = some (Value.int IntKind.u64 xh) := by rw [fc _ _ (by first | omega | (simp; omega) | simp)]; simp [go_sem, *]
    have F4x1 : w4.frozen? ⟨w3.heap.size, 1, none⟩ = false := by rw [ff _ _ (by first | omega | (simp; omega) | simp)]; simp [go_sem, *]
    have C4x2 : w4.cell? ⟨w3.heap.size, 2, none⟩ = some (Value.int IntKind.u64 xl) := by rw [fc _ _ (by first | omega | (simp; omega) | simp)]; simp [go_sem, *]
    have F4x2 : w4.frozen? ⟨w3.heap.size, 2, none⟩ = false := by rw [ff _ _ (by first | omega | (simp; omega) | simp)]; simp [go_sem, *]
    clear fc ff
    have X4 : Ext w w4 := Ext.trans (by repeat (first | (with_reducible exact Ext.refl _) | (with_reducible assumption) | (with_reducible refine Ext.alloc ?_ _) | (with_reducible refine Ext.drewN ?_ _) | (with_reducible refine Ext.drew ?_) | (with_reducible refine Ext.setCell ?_ (by simp <;> omega) _))) hx
    clear hx X3 
    have l4x : w3.heap.size < w4.heap.size := by omega
    go_wp2_with fail
    refine (H5.out _).mono ?_
    rintro e w5 ⟨rfl, hx⟩
    have fs5 : w4.heap.size ≤ w5.heap.size := by simpa using hx.size
    obtain ⟨fc, ff⟩ := And.intro hx.cells hx.marks
    have C5x0 : w5.cell? ⟨w3.heap.size, 0, none⟩ = some (Value.bool xs) := by rw [fc _ _ (by first | omega | (simp; omega) | simp)]; simp [go_sem, *]
    have F5x0 : w5.frozen? ⟨w3.heap.size, 0, none⟩ = false := by rw [ff _ _ (by first | omega | (simp; omega) | simp)]; simp [go_sem, *]
    have C5x1 : w5.cell? ⟨w3.heap.size, 1, none⟩ = some (Value.int IntKind.u64 xh) := by rw [fc _ _ (by first | omega | (simp; omega) | simp)]; simp [go_sem, *]
    have F5x1 : w5.frozen? ⟨w3.heap.size, 1, none⟩ = false := by rw [ff _ _ (by first | omega | (simp; omega) | simp)]; simp [go_sem, *]
    have C5x2 : w5.cell? ⟨w3.heap.size, 2, none⟩ = some (Value.int IntKind.u64 xl) := by rw [fc _ _ (by first | omega | (simp; omega) | simp)]; simp [go_sem, *]
    have F5x2 : w5.frozen? ⟨w3.heap.size, 2, none⟩ = false := by rw [ff _ _ (by first | omega | (simp; omega) | simp)]; simp [go_sem, *]
    clear fc ff
    have X5 : Ext w w5 := Ext.trans (by repeat (first | (with_reducible exact Ext.refl _) | (with_reducible assumption) | (with_reducible refine Ext.alloc ?_ _) | (with_reducible refine Ext.drewN ?_ _) | (with_reducible refine Ext.drew ?_) | (with_reducible refine Ext.setCell ?_ (by simp <;> omega) _))) hx
    clear hx X4 C4x0 F4x0 C4x1 F4x1 C4x2 F4x2
    have l5x : w3.heap.size < w5.heap.size := by omega
    go_wp2_with fail
    refine (H6.out _).mono ?_
    rintro e w6 ⟨rfl, hx⟩
    have fs6 : w5.heap.size ≤ w6.heap.size := by simpa using hx.size
    obtain ⟨fc, ff⟩ := And.intro hx.cells hx.marks
    have C6x0 : w6.cell? ⟨w3.heap.size, 0, none⟩ = some (Value.bool xs) := by rw [fc _ _ (by first | omega | (simp; omega) | simp)]; simp [go_sem, *]
    have F6x0 : w6.frozen? ⟨w3.heap.size, 0, none⟩ = false := by rw [ff _ _ (by first | omega | (simp; omega) | simp)]; simp [go_sem, *]
    have C6x1 : w6.cell? ⟨w3.heap.size, 1, none⟩ = some (Value.int IntKind.u64 xh) := by rw [fc _ _ (by first | omega | (simp; omega) | simp)]; simp [go_sem, *]
    have F6x1 : w6.frozen? ⟨w3.heap.size, 1, none⟩ = false := by rw [ff _ _ (by first | omega | (simp; omega) | simp)]; simp [go_sem, *]
    have C6x2 : w6.cell? ⟨w3.heap.size, 2, none⟩ = some (Value.int IntKind.u64 xl) := by rw [fc _ _ (by first | omega | (simp; omega) | simp)]; simp [go_sem, *]
    have F6x2 : w6.frozen? ⟨w3.heap.size, 2, none⟩ = false := by rw [ff _ _ (by first | omega | (simp; omega) | simp)]; simp [go_sem, *]
    clear fc ff
    have X6 : Ext w w6 := Ext.trans (by repeat (first | (with_reducible exact Ext.refl _) | (with_reducible assumption) | (with_reducible refine Ext.alloc ?_ _) | (with_reducible refine Ext.drewN ?_ _) | (with_reducible refine Ext.drew ?_) | (with_reducible refine Ext.setCell ?_ (by simp <;> omega) _))) hx
    clear hx X5 C5x0 F5x0 C5x1 F5x1 C5x2 F5x2
    have l6x : w3.heap.size < w6.heap.size := by omega
    go_wp2_with fail
    refine (H7.out _).mono ?_
    rintro e w7 ⟨rfl, hx⟩
    have fs7 : w6.heap.size + 1 ≤ w7.heap.size := by simpa using hx.size
    obtain ⟨fc, ff⟩ := And.intro hx.cells hx.marks
    have C7x0 : w7.cell? ⟨w3.heap.size, 0, none⟩ = some (Value.bool xs) := by rw [fc _ _ (by first | omega | (simp; omega) | simp)]; simp [go_sem, *]
    have F7x0 : w7.frozen? ⟨w3.heap.size, 0, none⟩ = false := by rw [ff _ _ (by first | omega | (simp; omega) | simp)]; simp [go_sem, *]
    have C7x1 : w7.cell? ⟨w3.heap.size, 1, none⟩ = some (Value.int IntKind.u64 xh) := by rw [fc _ _ (by first | omega | (simp; omega) | simp)]; simp [go_sem, *]
    have F7x1 : w7.frozen? ⟨w3.heap.size, 1, none⟩ = false := by rw [ff _ _ (by first | omega | (simp; omega) | simp)]; simp [go_sem, *]
    have C7x2 : w7.cell? ⟨w3.heap.size, 2, none⟩ = some (Value.int IntKind.u64 xl) := by rw [fc _ _ (by first | omega | (simp; omega) | simp)]; simp [go_sem, *]
    have F7x2 : w7.frozen? ⟨w3.heap.size, 2, none⟩ = false := by rw [ff _ _ (by first | omega | (simp; omega) | simp)]; simp [go_sem, *]
    have C7y0 : w7.cell? ⟨w6.heap.size, 0, none⟩ = some (Value.bool (!ys)) := by rw [fc _ _ (by first | omega | (simp; omega) | simp)]; simp [go_sem, *]
    have F7y0 : w7.frozen? ⟨w6.heap.size, 0, none⟩ = false := by rw [ff _ _ (by first | omega | (simp; omega) | simp)]; simp [go_sem, *]
    have C7y1 : w7.cell? ⟨w6.heap.size, 1, none⟩ = some (Value.int IntKind.u64 yh) := by rw [fc _ _ (by first | omega | (simp; omega) | simp)]; simp [go_sem, *]
    have F7y1 : w7.frozen? ⟨w6.heap.size, 1, none⟩ = false := by rw [ff _ _ (by first | omega | (simp; omega) | simp)]; simp [go_sem, *]
    have C7y2 : w7.cell? ⟨w6.heap.size, 2, none⟩ = some (Value.int IntKind.u64 yl) := by rw [fc _ _ (by first | omega | (simp; omega) | simp)]; simp [go_sem, *]
    have F7y2 : w7.frozen? ⟨w6.heap.size, 2, none⟩ = false := by rw [ff _ _ (by first | omega | (simp; omega) | simp)]; simp [go_sem, *]
    clear fc ff
    have X7 : Ext w w7 := Ext.trans (by repeat (first | (with_reducible exact Ext.refl _) | (with_reducible assumption) | (with_reducible refine Ext.alloc ?_ _) | (with_reducible refine Ext.drewN ?_ _) | (with_reducible refine Ext.drew ?_) | (with_reducible refine Ext.setCell ?_ (by simp <;> omega) _))) hx
    clear hx X6 C6x0 F6x0 C6x1 F6x1 C6x2 F6x2
    have l7x : w3.heap.size < w7.heap.size := by omega
    have l7y : w6.heap.size < w7.heap.size := by omega
    go_wp2_with fail
    refine (H8.out _).mono ?_
    rintro e w8 ⟨rfl, hx⟩
    have fs8 : w7.heap.size + 1 ≤ w8.heap.size := by simpa using hx.size
    obtain ⟨fc, ff⟩ := And.intro hx.cells hx.marks
    have C8x0 : w8.cell? ⟨w3.heap.size, 0, none⟩ = some (Value.bool xs) := by rw [fc _ _ (by first | omega | (simp; omega) | simp)]; simp [go_sem, *]
    have F8x0 : w8.frozen? ⟨w3.heap.size, 0, none⟩ = false := by rw [ff _ _ (by first | omega | (simp; omega) | simp)]; simp [go_sem, *]
    have C8x1 : w8.cell? ⟨w3.heap.size, 1, none⟩ = some (Value.int IntKind.u64 xh) := by rw [fc _ _ (by first | omega | (simp; omega) | simp)]; simp [go_sem, *]
    have F8x1 : w8.frozen? ⟨w3.heap.size, 1, none⟩ = false := by rw [ff _ _ (by first | omega | (simp; omega) | simp)]; simp [go_sem, *]
    have C8x2 : w8.cell? ⟨w3.heap.size, 2, none⟩ = some (Value.int IntKind.u64 xl) := by rw [fc _ _ (by first | omega | (simp; omega) | simp)]; simp [go_sem, *]
    have F8x2 : w8.frozen? ⟨w3.heap.size, 2, none⟩ = false := by rw [ff _ _ (by first | omega | (simp; omega) | simp)]; simp [go_sem, *]
    have C8y0 : w8.cell? ⟨w6.heap.size, 0, none⟩ = some (Value.bool (!ys)) := by rw [fc _ _ (by first | omega | (simp; omega) | simp)]; simp [go_sem, *]
    have F8y0 : w8.frozen? ⟨w6.heap.size, 0, none⟩ = false := by rw [ff _ _ (by first | omega | (simp; omega) | simp)]; simp [go_sem, *]
    have C8y1 : w8.cell? ⟨w6.heap.size, 1, none⟩ = some (Value.int IntKind.u64 yh) := by rw [fc _ _ (by first | omega | (simp; omega) | simp)]; simp [go_sem, *]
    have F8y1 : w8.frozen? ⟨w6.heap.size, 1, none⟩ = false := by rw [ff _ _ (by first | omega | (simp; omega) | simp)]; simp [go_sem, *]
    have C8y2 : w8.cell? ⟨w6.heap.size, 2, none⟩ = some (Value.int IntKind.u64 yl) := by rw [fc _ _ (by first | omega | (simp; omega) | simp)]; simp [go_sem, *]
    have F8y2 : w8.frozen? ⟨w6.heap.size, 2, none⟩ = false := by rw [ff _ _ (by first | omega | (simp; omega) | simp)]; simp [go_sem, *]
    have C8z0 : w8.cell? ⟨w7.heap.size, 0, none⟩ = some (Value.bool true) := by rw [fc _ _ (by first | omega | (simp; omega) | simp)]; simp [go_sem, *]
    have F8z0 : w8.frozen? ⟨w7.heap.size, 0, none⟩ = false := by rw [ff _ _ (by first | omega | (simp; omega) | simp)]; simp [go_sem, *]
    have C8z1 : w8.cell? ⟨w7.heap.size, 1, none⟩ = some (Value.int IntKind.u64 zh) := by rw [fc _ _ (by first | omega | (simp; omega) | simp)]; simp [go_sem, *]
    have F8z1 : w8.frozen? ⟨w7.heap.size, 1, none⟩ = false := by rw [ff _ _ (by first | omega | (simp; omega) | simp)]; simp [go_sem, *]
    have C8z2 : w8.cell? ⟨w7.heap.size, 2, none⟩ = some (Value.int IntKind.u64 zl) := by rw [fc _ _ (by first | omega | (simp; omega) | simp)]; simp [go_sem, *]
    have F8z2 : w8.frozen? ⟨w7.heap.size, 2, none⟩ = false := by rw [ff _ _ (by first | omega | (simp; omega) | simp)]; simp [go_sem, *]
    clear fc ff
    have X8 : Ext w w8 := Ext.trans (by repeat (first | (with_reducible exact Ext.refl _) | (with_reducible assumption) | (with_reducible refine Ext.alloc ?_ _) | (with_reducible refine Ext.drewN ?_ _) | (with_reducible refine Ext.drew ?_) | (with_reducible refine Ext.setCell ?_ (by simp <;> omega) _))) hx
    clear hx X7 C7x0 F7x0 C7x1 F7x1 C7x2 F7x2 C7y0 F7y0 C7y1 F7y1 C7y2 F7y2
    have l8x : w3.heap.size < w8.heap.size := by omega
    have l8y : w6.heap.size < w8.heap.size := by omega
    have l8z : w7.heap.size < w8.heap.size := by omega
    go_wp2_with fail
    go_ret
    exact ⟨rfl, (by repeat (first | (with_reducible exact Ext.refl _) | (with_reducible assumption) | (with_reducible refine Ext.alloc ?_ _) | (with_reducible refine Ext.drewN ?_ _) | (with_reducible refine Ext.drew ?_) | (with_reducible refine Ext.setCell ?_ (by simp <;> omega) _)))⟩
  · go_enter Tryd.func29, Tryd.ntmps29
    go_wp2_with fail
    refine (H1.out _).mono ?_
    rintro e w1 ⟨rfl, hx⟩
    have fs1 : w.heap.size ≤ w1.heap.size := by simpa using hx.size
    obtain ⟨fc, ff⟩ := And.intro hx.cells hx.marks
    clear fc ff
    have X1 : Ext w w1 := Ext.trans (by repeat (first | (with_reducible exact Ext.refl _) | (with_reducible assumption) | (with_reducible refine Ext.alloc ?_ _) | (with_reducible refine Ext.drewN ?_ _) | (with_reducible refine Ext.drew ?_) | (with_reducible refine Ext.setCell ?_ (by simp <;> omega) _))) hx
    clear hx 
    go_wp2_with fail
    refine (H2.out _).mono ?_
    rintro e w2 ⟨rfl, hx⟩
    have fs2 : w1.heap.size ≤ w2.heap.size := by simpa using hx.size
    obtain ⟨fc, ff⟩ := And.intro hx.cells hx.marks
    clear fc ff
    have X2 : Ext w w2 := Ext.trans (by repeat (first | (with_reducible exact Ext.refl _) | (with_reducible assumption) | (with_reducible refine Ext.alloc ?_ _) | (with_reducible refine Ext.drewN ?_ _) | (with_reducible refine Ext.drew ?_) | (with_reducible refine Ext.setCell ?_ (by simp <;> omega) _))) hx
    clear hx X1 
    go_wp2_with fail
    refine (H3.out _).mono ?_
    rintro e w3 ⟨rfl, hx⟩
    have fs3 : w2.heap.size ≤ w3.heap.size := by simpa using hx.size
    obtain ⟨fc, ff⟩ := And.intro hx.cells hx.marks
    clear fc ff
    have X3 : Ext w w3 := Ext.trans (by repeat (first | (with_reducible exact Ext.refl _) | (with_reducible assumption) | (with_reducible refine Ext.alloc ?_ _) | (with_reducible refine Ext.drewN ?_ _) | (with_reducible refine Ext.drew ?_) | (with_reducible refine Ext.setCell ?_ (by simp <;> omega) _))) hx
    clear hx X2 
    go_wp2_with fail
    refine (H4.out _).mono ?_
    rintro e w4 ⟨rfl, hx⟩
    have fs4 : w3.heap.size + 1 ≤ w4.heap.size := by simpa using hx.size
    obtain ⟨fc, ff⟩ := And.intro hx.cells hx.marks
    have C4x0 : w4.cell? ⟨w3.heap.size, 0, none⟩ = some (Value.bool xs) := by rw [fc _ _ (by first | omega | (simp; omega) | simp)]; simp [go_sem, *]
    have F4x0 : w4.frozen? ⟨w3.heap.size, 0, none⟩ = false := by rw [ff _ _ (by first | omega | (simp; omega) | simp)]; simp [go_sem, *]
    have C4x1 : w4.cell? ⟨w3.heap.size, 1, none⟩ = some (Value.int IntKind.u64 xh) := by rw [fc _ _ (by first | omega | (simp; omega) | simp)]; simp [go_sem, *]
    have F4x1 : w4.frozen? ⟨w3.heap.size, 1, none⟩ = false := by rw [ff _ _ (by first | omega | (simp; omega) | simp)]; simp [go_sem, *]
    have C4x2 : w4.cell? ⟨w3.heap.size, 2, none⟩ = some (Value.int IntKind.u64 xl) := by rw [fc _ _ (by first | omega | (simp; omega) | simp)]; simp [go_sem, *]
    have F4x2 : w4.frozen? ⟨w3.heap.size, 2, none⟩ = false := by rw [ff _ _ (by first | omega | (simp; omega) | simp)]; simp [go_sem, *]
    clear fc ff
    have X4 : Ext w w4 := Ext.trans (by repeat (first | (with_reducible exact Ext.refl _) | (with_reducible assumption) | (with_reducible refine Ext.alloc ?_ _) | (with_reducible refine Ext.drewN ?_ _) | (with_reducible refine Ext.drew ?_) | (with_reducible refine Ext.setCell ?_ (by simp <;> omega) _))) hx
    clear hx X3 
    have l4x : w3.heap.size < w4.heap.size := by omega
    go_wp2_with fail
    refine (H5.out _).mono ?_
    rintro e w5 ⟨rfl, hx⟩
    have fs5 : w4.heap.size ≤ w5.heap.size := by simpa using hx.size
    obtain ⟨fc, ff⟩ := And.intro hx.cells hx.marks
    have C5x0 : w5.cell? ⟨w3.heap.size, 0, none⟩ = some (Value.bool xs) := by rw [fc _ _ (by first | omega | (simp; omega) | simp)]; simp [go_sem, *]
    have F5x0 : w5.frozen? ⟨w3.heap.size, 0, none⟩ = false := by rw [ff _ _ (by first | omega | (simp; omega) | simp)]; simp [go_sem, *]
    have C5x1 : w5.cell? ⟨w3.heap.size, 1, none⟩ = some (Value.int IntKind.u64 xh) := by rw [fc _ _ (by first | omega | (simp; omega) | simp)]; simp [go_sem, *]
    have F5x1 : w5.frozen? ⟨w3.heap.size, 1, none⟩ = false := by rw [ff _ _ (by first | omega | (simp; omega) | simp)]; simp [go_sem, *]
    have C5x2 : w5.cell? ⟨w3.heap.size, 2, none⟩ = some (Value.int IntKind.u64 xl) := by rw [fc _ _ (by first | omega | (simp; omega) | simp)]; simp [go_sem, *]
    have F5x2 : w5.frozen? ⟨w3.heap.size, 2, none⟩ = false := by rw [ff _ _ (by first | omega | (simp; omega) | simp)]; simp [go_sem, *]
    clear fc ff
    have X5 : Ext w w5 := Ext.trans (by repeat (first | (with_reducible exact Ext.refl _) | (with_reducible assumption) | (with_reducible refine Ext.alloc ?_ _) | (with_reducible refine Ext.drewN ?_ _) | (with_reducible refine Ext.drew ?_) | (with_reducible refine Ext.setCell ?_ (by simp <;> omega) _))) hx
    clear hx X4 C4x0 F4x0 C4x1 F4x1 C4x2 F4x2
    have l5x : w3.heap.size < w5.heap.size := by omega
    go_wp2_with fail
    refine (H6.out _).mono ?_
    rintro e w6 ⟨rfl, hx⟩
    have fs6 : w5.heap.size ≤ w6.heap.size := by simpa using hx.size
    obtain ⟨fc, ff⟩ := And.intro hx.cells hx.marks
    have C6x0 : w6.cell? ⟨w3.heap.size, 0, none⟩ = some (Value.bool xs) := by rw [fc _ _ (by first | omega | (simp; omega) | simp)]; simp [go_sem, *]
    have F6x0 : w6.frozen? ⟨w3.heap.size, 0, none⟩ = false := by rw [ff _ _ (by first | omega | (simp; omega) | simp)]; simp [go_sem, *]
    have C6x1 : w6.cell? ⟨w3.heap.size, 1, none⟩ = some (Value.int IntKind.u64 xh) := by rw [fc _ _ (by first | omega | (simp; omega) | simp)]; simp [go_sem, *]
    have F6x1 : w6.frozen? ⟨w3.heap.size, 1, none⟩ = false := by rw [ff _ _ (by first | omega | (simp; omega) | simp)]; simp [go_sem, *]
    have C6x2 : w6.cell? ⟨w3.heap.size, 2, none⟩ = some (Value.int IntKind.u64 xl) := by rw [fc _ _ (by first | omega | (simp; omega) | simp)]; simp [go_sem, *]
    have F6x2 : w6.frozen? ⟨w3.heap.size, 2, none⟩ = false := by rw [ff _ _ (by first | omega | (simp; omega) | simp)]; simp [go_sem, *]
    clear fc ff
    have X6 : Ext w w6 := Ext.trans (by repeat (first | (with_reducible exact Ext.refl _) | (with_reducible assumption) | (with_reducible refine Ext.alloc ?_ _) | (with_reducible refine Ext.drewN ?_ _) | (with_reducible refine Ext.drew ?_) | (with_reducible refine Ext.setCell ?_ (by simp <;> omega) _))) hx
    clear hx X5 C5x0 F5x0 C5x1 F5x1 C5x2 F5x2
    have l6x : w3.heap.size < w6.heap.size := by omega
    go_wp2_with fail
    refine (H7.out _).mono ?_
    rintro e w7 ⟨rfl, hx⟩
    have fs7 : w6.heap.size + 1 ≤ w7.heap.size := by simpa using hx.size
    obtain ⟨fc, ff⟩ := And.intro hx.cells hx.marks
    have C7x0 : w7.cell? ⟨w3.heap.size, 0, none⟩ = some (Value.bool xs) := by rw [fc _ _ (by first | omega | (simp; omega) | simp)]; simp [go_sem, *]
    have F7x0 : w7.frozen? ⟨w3.heap.size, 0, none⟩ = false := by rw [ff _ _ (by first | omega | (simp; omega) | simp)]; simp [go_sem, *]
    have C7x1 : w7.cell? ⟨w3.heap.size, 1, none⟩ = some (Value.int IntKind.u64 xh) := by rw [fc _ _ (by first | omega | (simp; omega) | simp)]; simp [go_sem, *]
    have F7x1 : w7.frozen? ⟨w3.heap.size, 1, none⟩ = false := by rw [ff _ _ (by first | omega | (simp; omega) | simp)]; simp [go_sem, *]
    have C7x2 : w7.cell? ⟨w3.heap.size, 2, none⟩ = some (Value.int IntKind.u64 xl) := by rw [fc _ _ (by first | omega | (simp; omega) | simp)]; simp [go_sem, *]
    have F7x2 : w7.frozen? ⟨w3.heap.size, 2, none⟩ = false := by rw [ff _ _ (by first | omega | (simp; omega) | simp)]; simp [go_sem, *]
    have C7y0 : w7.cell? ⟨w6.heap.size, 0, none⟩ = some (Value.bool (!ys)) := by rw [fc _ _ (by first | omega | (simp; omega) | simp)]; simp [go_sem, *]
    have F7y0 : w7.frozen? ⟨w6.heap.size, 0, none⟩ = false := by rw [ff _ _ (by first | omega | (simp; omega) | simp)]; simp [go_sem, *]
    have C7y1 : w7.cell? ⟨w6.heap.size, 1, none⟩ = some (Value.int IntKind.u64 yh) := by rw [fc _ _ (by first | omega | (simp; omega) | simp)]; simp [go_sem, *]
    have F7y1 : w7.frozen? ⟨w6.heap.size, 1, none⟩ = false := by rw [ff _ _ (by first | omega | (simp; omega) | simp)]; simp [go_sem, *]
    have C7y2 : w7.cell? ⟨w6.heap.size, 2, none⟩ = some (Value.int IntKind.u64 yl) := by rw [fc _ _ (by first | omega | (simp; omega) | simp)]; simp [go_sem, *]
    have F7y2 : w7.frozen? ⟨w6.heap.size, 2, none⟩ = false := by rw [ff _ _ (by first | omega | (simp; omega) | simp)]; simp [go_sem, *]
    clear fc ff
    have X7 : Ext w w7 := Ext.trans (by repeat (first | (with_reducible exact Ext.refl _) | (with_reducible assumption) | (with_reducible refine Ext.alloc ?_ _) | (with_reducible refine Ext.drewN ?_ _) | (with_reducible refine Ext.drew ?_) | (with_reducible refine Ext.setCell ?_ (by simp <;> omega) _))) hx
    clear hx X6 C6x0 F6x0 C6x1 F6x1 C6x2 F6x2
    have l7x : w3.heap.size < w7.heap.size := by omega
    have l7y : w6.heap.size < w7.heap.size := by omega
    go_wp2_with fail
    refine (H8.out _).mono ?_
    rintro e w8 ⟨rfl, hx⟩
    have fs8 : w7.heap.size + 1 ≤ w8.heap.size := by simpa using hx.size
    obtain ⟨fc, ff⟩ := And.intro hx.cells hx.marks
    have C8x0 : w8.cell? ⟨w3.heap.size, 0, none⟩ = some (Value.bool xs) := by rw [fc _ _ (by first | omega | (simp; omega) | simp)]; simp [go_sem, *]
    have F8x0 : w8.frozen? ⟨w3.heap.size, 0, none⟩ = false := by rw [ff _ _ (by first | omega | (simp; omega) | simp)]; simp [go_sem, *]
    have C8x1 : w8.cell? ⟨w3.heap.size, 1, none⟩ = some (Value.int IntKind.u64 xh) := by rw [fc _ _ (by first | omega | (simp; omega) | simp)]; simp [go_sem, *]
    have F8x1 : w8.frozen? ⟨w3.heap.size, 1, none⟩ = false := by rw [ff _ _ (by first | omega | (simp; omega) | simp)]; simp [go_sem, *]
    have C8x2 : w8.cell? ⟨w3.heap.size, 2, none⟩ = some (Value.int IntKind.u64 xl) := by rw [fc _ _ (by first | omega | (simp; omega) | simp)]; simp [go_sem, *]
    have F8x2 : w8.frozen? ⟨w3.heap.size, 2, none⟩ = false := by rw [ff _ _ (by first | omega | (simp; omega) | simp)]; simp [go_sem, *]
    have C8y0 : w8.cell? ⟨w6.heap.size, 0, none⟩ = some (Value.bool (!ys)) := by rw [fc _ _ (by first | omega | (simp; omega) | simp)]; simp [go_sem, *]
    have F8y0 : w8.frozen? ⟨w6.heap.size, 0, none⟩ = false := by rw [ff _ _ (by first | omega | (simp; omega) | simp)]; simp [go_sem, *]
    have C8y1 : w8.cell? ⟨w6.heap.size, 1, none⟩ = some (Value.int IntKind.u64 yh) := by rw [fc _ _ (by first | omega | (simp; omega) | simp)]; simp [go_sem, *]
    have F8y1 : w8.frozen? ⟨w6.heap.size, 1, none⟩ = false := by rw [ff _ _ (by first | omega | (simp; omega) | simp)]; simp [go_sem, *]
    have C8y2 : w8.cell? ⟨w6.heap.size, 2, none⟩ = some (Value.int IntKind.u64 yl) := by rw [fc _ _ (by first | omega | (simp; omega) | simp)]; simp [go_sem, *]
    have F8y2 : w8.frozen? ⟨w6.heap.size, 2, none⟩ = false := by rw [ff _ _ (by first | omega | (simp; omega) | simp)]; simp [go_sem, *]
    have C8z0 : w8.cell? ⟨w7.heap.size, 0, none⟩ = some (Value.bool false) := by rw [fc _ _ (by first | omega | (simp; omega) | simp)]; simp [go_sem, *]
    have F8z0 : w8.frozen? ⟨w7.heap.size, 0, none⟩ = false := by rw [ff _ _ (by first | omega | (simp; omega) | simp)]; simp [go_sem, *]
    have C8z1 : w8.cell? ⟨w7.heap.size, 1, none⟩ = some (Value.int IntKind.u64 zh) := by rw [fc _ _ (by first | omega | (simp; omega) | simp)]; simp [go_sem, *]
    have F8z1 : w8.frozen? ⟨w7.heap.size, 1, none⟩ = false := by rw [ff _ _ (by first | omega | (simp; omega) | simp)]; simp [go_sem, *]
    have C8z2 : w8.cell? ⟨w7.heap.size, 2, none⟩ = some (Value.int IntKind.u64 zl) := by rw [fc _ _ (by first | omega | (simp; omega) | simp)]; simp [go_sem, *]
    have F8z2 : w8.frozen? ⟨w7.heap.size, 2, none⟩ = false := by rw [ff _ _ (by first | omega | (simp; omega) | simp)]; simp [go_sem, *]
    clear fc ff
    have X8 : Ext w w8 := Ext.trans (by repeat (first | (with_reducible exact Ext.refl _) | (with_reducible assumption) | (with_reducible refine Ext.alloc ?_ _) | (with_reducible refine Ext.drewN ?_ _) | (with_reducible refine Ext.drew ?_) | (with_reducible refine Ext.setCell ?_ (by simp <;> omega) _))) hx
    clear hx X7 C7x0 F7x0 C7x1 F7x1 C7x2 F7x2 C7y0 F7y0 C7y1 F7y1 C7y2 F7y2
    have l8x : w3.heap.size < w8.heap.size := by omega
    have l8y : w6.heap.size < w8.heap.size := by omega
    have l8z : w7.heap.size < w8.heap.size := by omega
    go_wp2_with fail
    go_ret
    exact ⟨rfl, (by repeat (first | (with_reducible exact Ext.refl _) | (with_reducible assumption) | (with_reducible refine Ext.alloc ?_ _) | (with_reducible refine Ext.drewN ?_ _) | (with_reducible refine Ext.drew ?_) | (with_reducible refine Ext.setCell ?_ (by simp <;> omega) _)))⟩
  · go_enter Tryd.func29, Tryd.ntmps29
    go_wp2_with fail
    refine (H1.out _).mono ?_
    rintro e w1 ⟨rfl, hx⟩
    have fs1 : w.heap.size ≤ w1.heap.size := by simpa using hx.size
    obtain ⟨fc, ff⟩ := And.intro hx.cells hx.marks
    clear fc ff
    have X1 : Ext w w1 := Ext.trans (by repeat (first | (with_reducible exact Ext.refl _) | (with_reducible assumption) | (with_reducible refine Ext.alloc ?_ _) | (with_reducible refine Ext.drewN ?_ _) | (with_reducible refine Ext.drew ?_) | (with_reducible refine Ext.setCell ?_ (by simp <;> omega) _))) hx
    clear hx 
    go_wp2_with fail
    refine (H2.out _).mono ?_
    rintro e w2 ⟨rfl, hx⟩
    have fs2 : w1.heap.size ≤ w2.heap.size := by simpa using hx.size
    obtain ⟨fc, ff⟩ := And.intro hx.cells hx.marks
    clear fc ff
    have X2 : Ext w w2 := Ext.trans (by repeat (first | (with_reducible exact Ext.refl _) | (with_reducible assumption) | (with_reducible refine Ext.alloc ?_ _) | (with_reducible refine Ext.drewN ?_ _) | (with_reducible refine Ext.drew ?_) | (with_reducible refine Ext.setCell ?_ (by simp <;> omega) _))) hx
    clear hx X1 
    go_wp2_with fail
    refine (H3.out _).mono ?_
    rintro e w3 ⟨rfl, hx⟩
    have fs3 : w2.heap.size ≤ w3.heap.size := by simpa using hx.size
    obtain ⟨fc, ff⟩ := And.intro hx.cells hx.marks
    clear fc ff
    have X3 : Ext w w3 := Ext.trans (by repeat (first | (with_reducible exact Ext.refl _) | (with_reducible assumption) | (with_reducible refine Ext.alloc ?_ _) | (with_reducible refine Ext.drewN ?_ _) | (with_reducible refine Ext.drew ?_) | (with_reducible refine Ext.setCell ?_ (by simp <;> omega) _))) hx
    clear hx X2 
    go_wp2_with fail
    refine (H4.out _).mono ?_
    rintro e w4 ⟨rfl, hx⟩
    have fs4 : w3.heap.size + 1 ≤ w4.heap.size := by simpa using hx.size
    obtain ⟨fc, ff⟩ := And.intro hx.cells hx.marks
    have C4x0 : w4.cell? ⟨w3.heap.size, 0, none⟩ = some (Value.bool xs) := by rw [fc _ _ (by first | omega | (simp; omega) | simp)]; simp [go_sem, *]
    have F4x0 : w4.frozen? ⟨w3.heap.size, 0, none⟩ = false := by rw [ff _ _ (by first | omega | (simp; omega) | simp)]; simp [go_sem, *]
    have C4x1 : w4.cell? ⟨w3.heap.size, 1, none⟩ = some (Value.int IntKind.u64 xh) := by rw [fc _ _ (by first | omega | (simp; omega) | simp)]; simp [go_sem, *]
    have F4x1 : w4.frozen? ⟨w3.heap.size, 1, none⟩ = false := by rw [ff _ _ (by first | omega | (simp; omega) | simp)]; simp [go_sem, *]
    have C4x2 : w4.cell? ⟨w3.heap.size, 2, none⟩ = some (Value.int IntKind.u64 xl) := by rw [fc _ _ (by first | omega | (simp; omega) | simp)]; simp [go_sem, *]
    have F4x2 : w4.frozen? ⟨w3.heap.size, 2, none⟩ = false := by rw [ff _ _ (by first | omega | (simp; omega) | simp)]; simp [go_sem, *]
    clear fc ff
    have X4 : Ext w w4 := Ext.trans (by repeat (first | (with_reducible exact Ext.refl _) | (with_reducible assumption) | (with_reducible refine Ext.alloc ?_ _) | (with_reducible refine Ext.drewN ?_ _) | (with_reducible refine Ext.drew ?_) | (with_reducible refine Ext.setCell ?_ (by simp <;> omega) _))) hx
    clear hx X3 
    have l4x : w3.heap.size < w4.heap.size := by omega
    go_wp2_with fail
    refine (H5.out _).mono ?_
    rintro e w5 ⟨rfl, hx⟩
    have fs5 : w4.heap.size ≤ w5.heap.size := by simpa using hx.size
    obtain ⟨fc, ff⟩ := And.intro hx.cells hx.marks
    have C5x0 : w5.cell? ⟨w3.heap.size, 0, none⟩ = some (Value.bool xs) := by rw [fc _ _ (by first | omega | (simp; omega) | simp)]; simp [go_sem, *]
    have F5x0 : w5.frozen? ⟨w3.heap.size, 0, none⟩ = false := by rw [ff _ _ (by first | omega | (simp; omega) | simp)]; simp [go_sem, *]
    have C5x1 : w5.cell? ⟨w3.heap.size, 1, none⟩ = some (Value.int IntKind.u64 xh) := by rw [fc _ _ (by first | omega | (simp; omega) | simp)]; simp [go_sem, *]
    have F5x1 : w5.frozen? ⟨w3.heap.size, 1, none⟩ = false := by rw [ff _ _ (by first | omega | (simp; omega) | simp)]; simp [go_sem, *]
    have C5x2 : w5.cell? ⟨w3.heap.size, 2, none⟩ = some (Value.int IntKind.u64 xl) := by rw [fc _ _ (by first | omega | (simp; omega) | simp)]; simp [go_sem, *]
    have F5x2 : w5.frozen? ⟨w3.heap.size, 2, none⟩ = false := by rw [ff _ _ (by first | omega | (simp; omega) | simp)]; simp [go_sem, *]
    clear fc ff
    have X5 : Ext w w5 := Ext.trans (by repeat (first | (with_reducible exact Ext.refl _) | (with_reducible assumption) | (with_reducible refine Ext.alloc ?_ _) | (with_reducible refine Ext.drewN ?_ _) | (with_reducible refine Ext.drew ?_) | (with_reducible refine Ext.setCell ?_ (by simp <;> omega) _))) hx
    clear hx X4 C4x0 F4x0 C4x1 F4x1 C4x2 F4x2
    have l5x : w3.heap.size < w5.heap.size := by omega
    go_wp2_with fail
    refine (H6.out _).mono ?_
    rintro e w6 ⟨rfl, hx⟩
    have fs6 : w5.heap.size ≤ w6.heap.size := by simpa using hx.size
    obtain ⟨fc, ff⟩ := And.intro hx.cells hx.marks
    have C6x0 : w6.cell? ⟨w3.heap.size, 0, none⟩ = some (Value.bool xs) := by rw [fc _ _ (by first | omega | (simp; omega) | simp)]; simp [go_sem, *]
    have F6x0 : w6.frozen? ⟨w3.heap.size, 0, none⟩ = false := by rw [ff _ _ (by first | omega | (simp; omega) | simp)]; simp [go_sem, *]
    have C6x1 : w6.cell? ⟨w3.heap.size, 1, none⟩ = some (Value.int IntKind.u64 xh) := by rw [fc _ _ (by first | omega | (simp; omega) | simp)]; simp [go_sem, *]
    have F6x1 : w6.frozen? ⟨w3.heap.size, 1, none⟩ = false := by rw [ff _ _ (by first | omega | (simp; omega) | simp)]; simp [go_sem, *]
    have C6x2 : w6.cell? ⟨w3.heap.size, 2, none⟩ = some (Value.int IntKind.u64 xl) := by rw [fc _ _ (by first | omega | (simp; omega) | simp)]; simp [go_sem, *]
    have F6x2 : w6.frozen? ⟨w3.heap.size, 2, none⟩ = false := by rw [ff _ _ (by first | omega | (simp; omega) | simp)]; simp [go_sem, *]
    clear fc ff
    have X6 : Ext w w6 := Ext.trans (by repeat (first | (with_reducible exact Ext.refl _) | (with_reducible assumption) | (with_reducible refine Ext.alloc ?_ _) | (with_reducible refine Ext.drewN ?_ _) | (with_reducible refine Ext.drew ?_) | (with_reducible refine Ext.setCell ?_ (by simp <;> omega) _))) hx
    clear hx X5 C5x0 F5x0 C5x1 F5x1 C5x2 F5x2
    have l6x : w3.heap.size < w6.heap.size := by omega
    go_wp2_with fail
    refine (H7.out _).mono ?_
    rintro e w7 ⟨rfl, hx⟩
    have fs7 : w6.heap.size + 1 ≤ w7.heap.size := by simpa using hx.size
    obtain ⟨fc, ff⟩ := And.intro hx.cells hx.marks
    have C7x0 : w7.cell? ⟨w3.heap.size, 0, none⟩ = some (Value.bool xs) := by rw [fc _ _ (by first | omega | (simp; omega) | simp)]; simp [go_sem, *]
    have F7x0 : w7.frozen? ⟨w3.heap.size, 0, none⟩ = false := by rw [ff _ _ (by first | omega | (simp; omega) | simp)]; simp [go_sem, *]
    have C7x1 : w7.cell? ⟨w3.heap.size, 1, none⟩ = some (Value.int IntKind.u64 xh) := by rw [fc _ _ (by first | omega | (simp; omega) | simp)]; simp [go_sem, *]
    have F7x1 : w7.frozen? ⟨w3.heap.size, 1, none⟩ = false := by rw [ff _ _ (by first | omega | (simp; omega) | simp)]; simp [go_sem, *]
    have C7x2 : w7.cell? ⟨w3.heap.size, 2, none⟩ = some (Value.int IntKind.u64 xl) := by rw [fc _ _ (by first | omega | (simp; omega) | simp)]; simp [go_sem, *]
    have F7x2 : w7.frozen? ⟨w3.heap.size, 2, none⟩ = false := by rw [ff _ _ (by first | omega | (simp; omega) | simp)]; simp [go_sem, *]
    have C7y0 : w7.cell? ⟨w6.heap.size, 0, none⟩ = some (Value.bool (!ys)) := by rw [fc _ _ (by first | omega | (simp; omega) | simp)]; simp [go_sem, *]
    have F7y0 : w7.frozen? ⟨w6.heap.size, 0, none⟩ = false := by rw [ff _ _ (by first | omega | (simp; omega) | simp)]; simp [go_sem, *]
    have C7y1 : w7.cell? ⟨w6.heap.size, 1, none⟩ = some (Value.int IntKind.u64 yh) := by rw [fc _ _ (by first | omega | (simp; omega) | simp)]; simp [go_sem, *]
    have F7y1 : w7.frozen? ⟨w6.heap.size, 1, none⟩ = false := by rw [ff _ _ (by first | omega | (simp; omega) | simp)]; simp [go_sem, *]
    have C7y2 : w7.cell? ⟨w6.heap.size, 2, none⟩ = some (Value.int IntKind.u64 yl) := by rw [fc _ _ (by first | omega | (simp; omega) | simp)]; simp [go_sem, *]
    have F7y2 : w7.frozen? ⟨w6.heap.size, 2, none⟩ = false := by rw [ff _ _ (by first | omega | (simp; omega) | simp)]; simp [go_sem, *]
    clear fc ff
    have X7 : Ext w w7 := Ext.trans (by repeat (first | (with_reducible exact Ext.refl _) | (with_reducible assumption) | (with_reducible refine Ext.alloc ?_ _) | (with_reducible refine Ext.drewN ?_ _) | (with_reducible refine Ext.drew ?_) | (with_reducible refine Ext.setCell ?_ (by simp <;> omega) _))) hx
    clear hx X6 C6x0 F6x0 C6x1 F6x1 C6x2 F6x2
    have l7x : w3.heap.size < w7.heap.size := by omega
    have l7y : w6.heap.size < w7.heap.size := by omega
    go_wp2_with fail
    refine (H8.out _).mono ?_
    rintro e w8 ⟨rfl, hx⟩
    have fs8 : w7.heap.size + 1 ≤ w8.heap.size := by simpa using hx.size
    obtain ⟨fc, ff⟩ := And.intro hx.cells hx.marks
    have C8x0 : w8.cell? ⟨w3.heap.size, 0, none⟩ = some (Value.bool xs) := by rw [fc _ _ (by first | omega | (simp; omega) | simp)]; simp [go_sem, *]
    have F8x0 : w8.frozen? ⟨w3.heap.size, 0, none⟩ = false := by rw [ff _ _ (by first | omega | (simp; omega) | simp)]; simp [go_sem, *]
    have C8x1 : w8.cell? ⟨w3.heap.size, 1, none⟩ = some (Value.int IntKind.u64 xh) := by rw [fc _ _ (by first | omega | (simp; omega) | simp)]; simp [go_sem, *]
    have F8x1 : w8.frozen? ⟨w3.heap.size, 1, none⟩ = false := by rw [ff _ _ (by first | omega | (simp; omega) | simp)]; simp [go_sem, *]
    have C8x2 : w8.cell? ⟨w3.heap.size, 2, none⟩ = some (Value.int IntKind.u64 xl) := by rw [fc _ _ (by first | omega | (simp; omega) | simp)]; simp [go_sem, *]
    have F8x2 : w8.frozen? ⟨w3.heap.size, 2, none⟩ = false := by rw [ff _ _ (by first | omega | (simp; omega) | simp)]; simp [go_sem, *]
    have C8y0 : w8.cell? ⟨w6.heap.size, 0, none⟩ = some (Value.bool (!ys)) := by rw [fc _ _ (by first | omega | (simp; omega) | simp)]; simp [go_sem, *]
    have F8y0 : w8.frozen? ⟨w6.heap.size, 0, none⟩ = false := by rw [ff _ _ (by first | omega | (simp; omega) | simp)]; simp [go_sem, *]
    have C8y1 : w8.cell? ⟨w6.heap.size, 1, none⟩ = some (Value.int IntKind.u64 yh) := by rw [fc _ _ (by first | omega | (simp; omega) | simp)]; simp [go_sem, *]
    have F8y1 : w8.frozen? ⟨w6.heap.size, 1, none⟩ = false := by rw [ff _ _ (by first | omega | (simp; omega) | simp)]; simp [go_sem, *]
    have C8y2 : w8.cell? ⟨w6.heap.size, 2, none⟩ = some (Value.int IntKind.u64 yl) := by rw [fc _ _ (by first | omega | (simp; omega) | simp)]; simp [go_sem, *]
    have F8y2 : w8.frozen? ⟨w6.heap.size, 2, none⟩ = false := by rw [ff _ _ (by first | omega | (simp; omega) | simp)]; simp [go_sem, *]
    have C8z0 : w8.cell? ⟨w7.heap.size, 0, none⟩ = some (Value.bool true) := by rw [fc _ _ (by first | omega | (simp; omega) | simp)]; simp [go_sem, *]
    have F8z0 : w8.frozen? ⟨w7.heap.size, 0, none⟩ = false := by rw [ff _ _ (by first | omega | (simp; omega) | simp)]; simp [go_sem, *]
    have C8z1 : w8.cell? ⟨w7.heap.size, 1, none⟩ = some (Value.int IntKind.u64 zh) := by rw [fc _ _ (by first | omega | (simp; omega) | simp)]; simp [go_sem, *]
    have F8z1 : w8.frozen? ⟨w7.heap.size, 1, none⟩ = false := by rw [ff _ _ (by first | omega | (simp; omega) | simp)]; simp [go_sem, *]
    have C8z2 : w8.cell? ⟨w7.heap.size, 2, none⟩ = some (Value.int IntKind.u64 zl) := by rw [fc _ _ (by first | omega | (simp; omega) | simp)]; simp [go_sem, *]
    have F8z2 : w8.frozen? ⟨w7.heap.size, 2, none⟩ = false := by rw [ff _ _ (by first | omega | (simp; omega) | simp)]; simp [go_sem, *]
    clear fc ff
    have X8 : Ext w w8 := Ext.trans (by repeat (first | (with_reducible exact Ext.refl _) | (with_reducible assumption) | (with_reducible refine Ext.alloc ?_ _) | (with_reducible refine Ext.drewN ?_ _) | (with_reducible refine Ext.drew ?_) | (with_reducible refine Ext.setCell ?_ (by simp <;> omega) _))) hx
    clear hx X7 C7x0 F7x0 C7x1 F7x1 C7x2 F7x2 C7y0 F7y0 C7y1 F7y1 C7y2 F7y2
    have l8x : w3.heap.size < w8.heap.size := by omega
    have l8y : w6.heap.size < w8.heap.size := by omega
    have l8z : w7.heap.size < w8.heap.size := by omega
    go_wp2_with fail
    go_ret
    exact ⟨rfl, (by repeat (first | (with_reducible exact Ext.refl _) | (with_reducible assumption) | (with_reducible refine Ext.alloc ?_ _) | (with_reducible refine Ext.drewN ?_ _) | (with_reducible refine Ext.drew ?_) | (with_reducible refine Ext.setCell ?_ (by simp <;> omega) _)))⟩

set_option maxRecDepth 100000 in
set_option maxHeartbeats 1000000 in
theorem is_yes (x y : Int) (w : World) (s t : Bool) (mh ml nh nl : Int)
    (hR : ∀ W : World, Calls Tryd.prog 34 #[.agg #[.bool s, .int .u64 mh, .int .u64 ml], .agg #[.bool t, .int .u64 nh, .int .u64 nl]] W fun e w' => e = .returned (.tuple #[.int .i64 x, .int .i64 y, .bool true]) ∧ Ext W w') :
    Calls Tryd.prog 15 #[.agg #[.int .i64 x, .int .i64 y], .int .i64 0, .agg #[.bool s, .int .u64 mh, .int .u64 ml], .agg #[.bool t, .int .u64 nh, .int .u64 nl]] w fun e w' => e = .returned (.bool true) ∧ Ext w w' := by
  have HR := Lib.hid hR
  clear hR
  have X0 : Ext w w := Ext.refl w
  go_enter Tryd.func15, Tryd.ntmps15
  go_wp2_with fail
  refine (HR.out _).mono ?_
  rintro e w1 ⟨rfl, hx⟩
  have fs1 : w.heap.size + 1 + 1 + 1 ≤ w1.heap.size := by simpa using hx.size
  obtain ⟨fc, ff⟩ := And.intro hx.cells hx.marks
  have C1r0 : w1.cell? ⟨w.heap.size, 0, none⟩ = some (Value.int IntKind.i64 x) := by rw [fc _ _ (by first | omega | (simp; omega) | simp)]; simp [go_sem, *]
  have F1r0 : w1.frozen? ⟨w.heap.size, 0, none⟩ = false := by rw [ff _ _ (by first | omega | (simp; omega) | simp)]; simp [go_sem, *]
  have C1r1 : w1.cell? ⟨w.heap.size, 1, none⟩ = some (Value.int IntKind.i64 y) := by rw [fc _ _ (by first | omega | (simp; omega) | simp)]; simp [go_sem, *]
  have F1r1 : w1.frozen? ⟨w.heap.size, 1, none⟩ = false := by rw [ff _ _ (by first | omega | (simp; omega) | simp)]; simp [go_sem, *]
  clear fc ff
  have X1 : Ext w w1 := Ext.trans (by repeat (first | (with_reducible exact Ext.refl _) | (with_reducible assumption) | (with_reducible refine Ext.alloc ?_ _) | (with_reducible refine Ext.drewN ?_ _) | (with_reducible refine Ext.drew ?_) | (with_reducible refine Ext.setCell ?_ (by simp <;> omega) _))) hx
  clear hx 
  have l1r : w.heap.size < w1.heap.size := by omega
  go_wp2_with fail
  go_ret
  exact ⟨rfl, (by repeat (first | (with_reducible exact Ext.refl _) | (with_reducible assumption) | (with_reducible refine Ext.alloc ?_ _) | (with_reducible refine Ext.drewN ?_ _) | (with_reducible refine Ext.drew ?_) | (with_reducible refine Ext.setCell ?_ (by simp <;> omega) _)))⟩
set_option maxRecDepth 100000 in
set_option maxHeartbeats 1000000 in
theorem is_no (x y : Int) (w : World) (s t : Bool) (mh ml nh nl : Int)
    (hR : ∀ W : World, Calls Tryd.prog 34 #[.agg #[.bool s, .int .u64 mh, .int .u64 ml], .agg #[.bool t, .int .u64 nh, .int .u64 nl]] W fun e w' => e = .returned (.tuple #[.int .i64 x, .int .i64 y, .bool false]) ∧ Ext W w') :
    Calls Tryd.prog 15 #[.agg #[.int .i64 0, .int .i64 0], .int .i64 3, .agg #[.bool s, .int .u64 mh, .int .u64 ml], .agg #[.bool t, .int .u64 nh, .int .u64 nl]] w fun e w' => e = .returned (.bool true) ∧ Ext w w' := by
  have HR := Lib.hid hR
  clear hR
  have X0 : Ext w w := Ext.refl w
  go_enter Tryd.func15, Tryd.ntmps15
  go_wp2_with fail
  refine (HR.out _).mono ?_
  rintro e w1 ⟨rfl, hx⟩
  have fs1 : w.heap.size + 1 + 1 + 1 ≤ w1.heap.size := by simpa using hx.size
  obtain ⟨fc, ff⟩ := And.intro hx.cells hx.marks
  have C1r0 : w1.cell? ⟨w.heap.size, 0, none⟩ = some (Value.int IntKind.i64 0) := by rw [fc _ _ (by first | omega | (simp; omega) | simp)]; simp [go_sem, *]
  have F1r0 : w1.frozen? ⟨w.heap.size, 0, none⟩ = false := by rw [ff _ _ (by first | omega | (simp; omega) | simp)]; simp [go_sem, *]
  have C1r1 : w1.cell? ⟨w.heap.size, 1, none⟩ = some (Value.int IntKind.i64 0) := by rw [fc _ _ (by first | omega | (simp; omega) | simp)]; simp [go_sem, *]
  have F1r1 : w1.frozen? ⟨w.heap.size, 1, none⟩ = false := by rw [ff _ _ (by first | omega | (simp; omega) | simp)]; simp [go_sem, *]
  clear fc ff
  have X1 : Ext w w1 := Ext.trans (by repeat (first | (with_reducible exact Ext.refl _) | (with_reducible assumption) | (with_reducible refine Ext.alloc ?_ _) | (with_reducible refine Ext.drewN ?_ _) | (with_reducible refine Ext.drew ?_) | (with_reducible refine Ext.setCell ?_ (by simp <;> omega) _))) hx
  clear hx 
  have l1r : w.heap.size < w1.heap.size := by omega
  go_wp2_with fail
  go_ret
  exact ⟨rfl, (by repeat (first | (with_reducible exact Ext.refl _) | (with_reducible assumption) | (with_reducible refine Ext.alloc ?_ _) | (with_reducible refine Ext.drewN ?_ _) | (with_reducible refine Ext.drew ?_) | (with_reducible refine Ext.setCell ?_ (by simp <;> omega) _)))⟩
end Go.Proofs.YtifhgkdajnngnaaDoor
