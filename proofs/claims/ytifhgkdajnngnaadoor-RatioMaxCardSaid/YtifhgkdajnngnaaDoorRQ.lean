/- Contract of ratio.Max (30). -/
import Derived.Test.YtifhgkdajnngnaaDoorRY
namespace Go.Proofs.YtifhgkdajnngnaaDoor
open Go.RowKit Go.Par
/-- A slice of fractions, nil let in. -/
def RSl (W : World) (A : Option Addr) (n : Nat) (L : List (Int × Int)) : Prop :=
  L.length = n ∧ ∀ i, i < n → ∃ a x y, A = some a ∧ L[i]? = some (x, y) ∧ a.block < W.heap.size ∧ W.cell? (a.add (i * 2)) = some (.int .i64 x) ∧ W.cell? ⟨(a.add (i * 2)).block, (a.add (i * 2)).off + 1, none⟩ = some (.int .i64 y) ∧ InI x ∧ InI y
theorem RSl.ext {W W' : World} {A : Option Addr} {n : Nat} {L : List (Int × Int)} (h : RSl W A n L) (k : Ext W W') : RSl W' A n L := by
  refine ⟨h.1, fun i hi => ?_⟩
  obtain ⟨a, x, y, e, e2, hb, h0, h1, r⟩ := h.2 i hi
  have bl : ∀ m, (a.add m).block = a.block := fun m => by unfold Addr.add; split <;> rfl
  exact ⟨a, x, y, e, e2, Nat.lt_of_lt_of_le hb k.size, (k.below.cell (by rw [bl]; exact hb)).trans h0, (k.below.cell (by show (a.add (i * 2)).block < _; rw [bl]; exact hb)).trans h1, r⟩
def better (b r : Int × Int) : Bool := validB r.1 r.2 && (decide (b = (0, 0)) || decide (0 < cmpP r.1 r.2 b.1 b.2))
def bestF (b r : Int × Int) : Int × Int := if better b r = true then oneP r.1 r.2 else b
def bestL (L : List (Int × Int)) : Int × Int := L.foldl bestF (0, 0)
set_option maxRecDepth 100000 in
set_option maxHeartbeats 1000000 in
theorem max_any (A : Option Addr) (n c : Nat) (L : List (Int × Int)) (w : World) (hn : n ≤ maxLen) (h : RSl w A n L) :
    Calls Tryd.prog 30 #[.slice A n c] w fun e w' => e = .returned (.agg #[.int .i64 (oneP (bestL L).1 (bestL L).2).1, .int .i64 (oneP (bestL L).1 (bestL L).2).2]) ∧ Ext w w' := by
  unfold maxLen at hn
  have HS := Lib.hid h
  clear h
  generalize hU : oneP (bestL L).1 (bestL L).2 = U
  obtain ⟨u, v⟩ := U
  have HU := Lib.hid hU
  clear hU
  go_enter Tryd.func30, Tryd.ntmps30
  go_wp2
  go_loopw [8] (fun i W => ∃ (k : Nat) (p q : Int), k ≤ n ∧ i = .int .i64 k ∧ Hid ((p, q) = bestL (L.take k)) ∧ Hid (validB p q = true ∧ InI p ∧ InI q ∧ (p = 0 ∧ q = 0 ∨ 0 < q)) ∧ Ext w W ∧ W.cell? ⟨w.heap.size, 0, none⟩ = some (.int .i64 0) ∧ W.cell? ⟨w.heap.size, 1, none⟩ = some (.int .i64 0) ∧ W.frozen? ⟨w.heap.size, 0, none⟩ = false ∧ W.frozen? ⟨w.heap.size, 1, none⟩ = false
     ∧ W.cell? ⟨w.heap.size + 1, 0, none⟩ = some (.int .i64 p) ∧ W.cell? ⟨w.heap.size + 1, 1, none⟩ = some (.int .i64 q) ∧ W.frozen? ⟨w.heap.size + 1, 0, none⟩ = false ∧ W.frozen? ⟨w.heap.size + 1, 1, none⟩ = false ∧ w.heap.size + 1 < W.heap.size) (fun i _ => n - (intOf i).toNat)
  case atStart =>
    refine ⟨0, 0, 0, Nat.zero_le _, rfl, Lib.hid rfl, Lib.hid ⟨by decide, ⟨by decide, by decide⟩, ⟨by decide, by decide⟩, .inl ⟨rfl, rfl⟩⟩, (by repeat (first | (with_reducible exact Ext.refl _) | (with_reducible assumption) | (with_reducible refine Ext.alloc ?_ _) | (with_reducible refine Ext.drewN ?_ _) | (with_reducible refine Ext.drew ?_) | (with_reducible refine Ext.setCell ?_ (by simp <;> omega) _))), ?_⟩
    refine ⟨?_, ?_, ?_, ?_, ?_, ?_, ?_, ?_, ?_⟩ <;> simp [go_sem]
  case round =>
    obtain ⟨k, p, q, hk, rfl, hb, hv, hE, cr0, cr1, fr0, fr1, cb0, cb1, fb0, fb1, lb⟩ := hrel
    by_cases hlt : k < n
    · obtain ⟨a, x, y, rfl, hL, hbl, h0, h1, ix, iy⟩ := (HS.out.ext hE).2 k hlt
      have htake : L.take (k + 1) = L.take k ++ [(x, y)] := by
        rw [List.take_add_one, hL]; rfl
      have hbest : bestL (L.take (k + 1)) = bestF (p, q) (x, y) := by
        rw [htake, bestL, List.foldl_append, ← bestL, ← hb.out]; rfl
      have HL := Lib.hid hbest
      obtain ⟨vp, ip, iq, hpq⟩ := hv.out
      have HV := Lib.hid (valid_ext x y ix iy)
      have HO := Lib.hid (fun W : World => one_any x y W)
      have l0 : w.heap.size < wr.heap.size := by omega
      clear hL htake hbest
      cases vx : validB x y with
      | false =>
        rw [vx] at HV
        have hb' : bestF (p, q) (x, y) = (p, q) := by simp [bestF, better, vx]
        have HB := Lib.hid (HL.out.trans hb')
        have Hvp := Lib.hid (And.intro vp (And.intro ip (And.intro iq hpq)))
        clear HL hb' vx vp hpq
        go_wp2_with fail
        refine (HV.out _).mono ?_
        rintro e w1 ⟨rfl, hx⟩
        have fs1 : wr.heap.size + 1 ≤ w1.heap.size := by simpa using hx.size
        obtain ⟨fc, ff⟩ := And.intro hx.cells hx.marks
        have C1r0 : w1.cell? ⟨w.heap.size, 0, none⟩ = some (Value.int IntKind.i64 0) := by rw [fc _ _ (by first | omega | (simp; omega) | simp)]; simp [go_sem, *]
        have F1r0 : w1.frozen? ⟨w.heap.size, 0, none⟩ = false := by rw [ff _ _ (by first | omega | (simp; omega) | simp)]; simp [go_sem, *]
        have C1r1 : w1.cell? ⟨w.heap.size, 1, none⟩ = some (Value.int IntKind.i64 0) := by rw [fc _ _ (by first | omega | (simp; omega) | simp)]; simp [go_sem, *]
        have F1r1 : w1.frozen? ⟨w.heap.size, 1, none⟩ = false := by rw [ff _ _ (by first | omega | (simp; omega) | simp)]; simp [go_sem, *]
        have C1b0 : w1.cell? ⟨w.heap.size + 1, 0, none⟩ = some (Value.int IntKind.i64 p) := by rw [fc _ _ (by first | omega | (simp; omega) | simp)]; simp [go_sem, *]
        have F1b0 : w1.frozen? ⟨w.heap.size + 1, 0, none⟩ = false := by rw [ff _ _ (by first | omega | (simp; omega) | simp)]; simp [go_sem, *]
        have C1b1 : w1.cell? ⟨w.heap.size + 1, 1, none⟩ = some (Value.int IntKind.i64 q) := by rw [fc _ _ (by first | omega | (simp; omega) | simp)]; simp [go_sem, *]
        have F1b1 : w1.frozen? ⟨w.heap.size + 1, 1, none⟩ = false := by rw [ff _ _ (by first | omega | (simp; omega) | simp)]; simp [go_sem, *]
        have C1x0 : w1.cell? ⟨wr.heap.size, 0, none⟩ = some (Value.int IntKind.i64 x) := by rw [fc _ _ (by first | omega | (simp; omega) | simp)]; simp [go_sem, *]
        have F1x0 : w1.frozen? ⟨wr.heap.size, 0, none⟩ = false := by rw [ff _ _ (by first | omega | (simp; omega) | simp)]; simp [go_sem, *]
        have C1x1 : w1.cell? ⟨wr.heap.size, 1, none⟩ = some (Value.int IntKind.i64 y) := by rw [fc _ _ (by first | omega | (simp; omega) | simp)]; simp [go_sem, *]
        have F1x1 : w1.frozen? ⟨wr.heap.size, 1, none⟩ = false := by rw [ff _ _ (by first | omega | (simp; omega) | simp)]; simp [go_sem, *]
        clear fc ff
        have X1 : Ext w w1 := Ext.trans (by repeat (first | (with_reducible exact Ext.refl _) | (with_reducible assumption) | (with_reducible refine Ext.alloc ?_ _) | (with_reducible refine Ext.drewN ?_ _) | (with_reducible refine Ext.drew ?_) | (with_reducible refine Ext.setCell ?_ (by simp <;> omega) _))) hx
        clear hx hE cr0 cr1 fr0 fr1 cb0 cb1 fb0 fb1 h0 h1 hbl
        have l1r : w.heap.size < w1.heap.size := by omega
        have l1b : w.heap.size + 1 < w1.heap.size := by omega
        have l1x : wr.heap.size < w1.heap.size := by omega
        go_wp2_with fail
        go_roundw
        case rel =>
          refine ⟨k + 1, p, q, by omega, by go_num, Lib.hid (HB.out.symm), Hvp, (by repeat (first | (with_reducible exact Ext.refl _) | (with_reducible assumption) | (with_reducible refine Ext.alloc ?_ _) | (with_reducible refine Ext.drewN ?_ _) | (with_reducible refine Ext.drew ?_) | (with_reducible refine Ext.setCell ?_ (by simp <;> omega) _))), ?_⟩
          refine ⟨?_, ?_, ?_, ?_, ?_, ?_, ?_, ?_, ?_⟩ <;> first | assumption | (simp [go_sem, *]; done) | (simp [go_sem, *]; omega)
        case measure => simp [intOf]; omega
      | true =>
        rw [vx] at HV
        obtain ⟨o0, oc⟩ := valid_one vx
        have ho : InI (oneP x y).1 ∧ InI (oneP x y).2 := by
          unfold oneP; split
          · exact ⟨⟨by decide, by decide⟩, ⟨by decide, by decide⟩⟩
          · exact ⟨ix, iy⟩
        have Hvo : Hid (validB (oneP x y).1 (oneP x y).2 = true ∧ InI (oneP x y).1 ∧ InI (oneP x y).2 ∧ ((oneP x y).1 = 0 ∧ (oneP x y).2 = 0 ∨ 0 < (oneP x y).2)) := Lib.hid ⟨valid_of o0 oc, ho.1, ho.2, .inr o0⟩
        rcases hpq with ⟨rfl, rfl⟩ | q0
        · have hb' : bestF (0, 0) (x, y) = ((oneP x y).1, (oneP x y).2) := by simp [bestF, better, vx]
          have HB := Lib.hid (HL.out.trans hb')
          clear HL hb' vx vp o0 oc ho ip iq
          generalize (oneP x y).1 = s at *
          generalize (oneP x y).2 = t at *
          go_wp2_with fail
          refine (HV.out _).mono ?_
          rintro e w1 ⟨rfl, hx⟩
          have fs1 : wr.heap.size + 1 ≤ w1.heap.size := by simpa using hx.size
          obtain ⟨fc, ff⟩ := And.intro hx.cells hx.marks
          have C1r0 : w1.cell? ⟨w.heap.size, 0, none⟩ = some (Value.int IntKind.i64 0) := by rw [fc _ _ (by first | omega | (simp; omega) | simp)]; simp [go_sem, *]
          have F1r0 : w1.frozen? ⟨w.heap.size, 0, none⟩ = false := by rw [ff _ _ (by first | omega | (simp; omega) | simp)]; simp [go_sem, *]
          have C1r1 : w1.cell? ⟨w.heap.size, 1, none⟩ = some (Value.int IntKind.i64 0) := by rw [fc _ _ (by first | omega | (simp; omega) | simp)]; simp [go_sem, *]
          have F1r1 : w1.frozen? ⟨w.heap.size, 1, none⟩ = false := by rw [ff _ _ (by first | omega | (simp; omega) | simp)]; simp [go_sem, *]
          have C1b0 : w1.cell? ⟨w.heap.size + 1, 0, none⟩ = some (Value.int IntKind.i64 0) := by rw [fc _ _ (by first | omega | (simp; omega) | simp)]; simp [go_sem, *]
          have F1b0 : w1.frozen? ⟨w.heap.size + 1, 0, none⟩ = false := by rw [ff _ _ (by first | omega | (simp; omega) | simp)]; simp [go_sem, *]
          have C1b1 : w1.cell? ⟨w.heap.size + 1, 1, none⟩ = some (Value.int IntKind.i64 0) := by rw [fc _ _ (by first | omega | (simp; omega) | simp)]; simp [go_sem, *]
          have F1b1 : w1.frozen? ⟨w.heap.size + 1, 1, none⟩ = false := by rw [ff _ _ (by first | omega | (simp; omega) | simp)]; simp [go_sem, *]
          have C1x0 : w1.cell? ⟨wr.heap.size, 0, none⟩ = some (Value.int IntKind.i64 x) := by rw [fc _ _ (by first | omega | (simp; omega) | simp)]; simp [go_sem, *]
          have F1x0 : w1.frozen? ⟨wr.heap.size, 0, none⟩ = false := by rw [ff _ _ (by first | omega | (simp; omega) | simp)]; simp [go_sem, *]
          have C1x1 : w1.cell? ⟨wr.heap.size, 1, none⟩ = some (Value.int IntKind.i64 y) := by rw [fc _ _ (by first | omega | (simp; omega) | simp)]; simp [go_sem, *]
          have F1x1 : w1.frozen? ⟨wr.heap.size, 1, none⟩ = false := by rw [ff _ _ (by first | omega | (simp; omega) | simp)]; simp [go_sem, *]
          clear fc ff
          have X1 : Ext w w1 := Ext.trans (by repeat (first | (with_reducible exact Ext.refl _) | (with_reducible assumption) | (with_reducible refine Ext.alloc ?_ _) | (with_reducible refine Ext.drewN ?_ _) | (with_reducible refine Ext.drew ?_) | (with_reducible refine Ext.setCell ?_ (by simp <;> omega) _))) hx
          clear hx hE cr0 cr1 fr0 fr1 cb0 cb1 fb0 fb1 h0 h1 hbl
          have l1r : w.heap.size < w1.heap.size := by omega
          have l1b : w.heap.size + 1 < w1.heap.size := by omega
          have l1x : wr.heap.size < w1.heap.size := by omega
          go_wp2_with fail
          refine (HO.out _).mono ?_
          rintro e w2 ⟨rfl, hx⟩
          have fs2 : w1.heap.size ≤ w2.heap.size := by simpa using hx.size
          obtain ⟨fc, ff⟩ := And.intro hx.cells hx.marks
          have C2r0 : w2.cell? ⟨w.heap.size, 0, none⟩ = some (Value.int IntKind.i64 0) := by rw [fc _ _ (by first | omega | (simp; omega) | simp)]; simp [go_sem, *]
          have F2r0 : w2.frozen? ⟨w.heap.size, 0, none⟩ = false := by rw [ff _ _ (by first | omega | (simp; omega) | simp)]; simp [go_sem, *]
          have C2r1 : w2.cell? ⟨w.heap.size, 1, none⟩ = some (Value.int IntKind.i64 0) := by rw [fc _ _ (by first | omega | (simp; omega) | simp)]; simp [go_sem, *]
          have F2r1 : w2.frozen? ⟨w.heap.size, 1, none⟩ = false := by rw [ff _ _ (by first | omega | (simp; omega) | simp)]; simp [go_sem, *]
          have C2b0 : w2.cell? ⟨w.heap.size + 1, 0, none⟩ = some (Value.int IntKind.i64 0) := by rw [fc _ _ (by first | omega | (simp; omega) | simp)]; simp [go_sem, *]
          have F2b0 : w2.frozen? ⟨w.heap.size + 1, 0, none⟩ = false := by rw [ff _ _ (by first | omega | (simp; omega) | simp)]; simp [go_sem, *]
          have C2b1 : w2.cell? ⟨w.heap.size + 1, 1, none⟩ = some (Value.int IntKind.i64 0) := by rw [fc _ _ (by first | omega | (simp; omega) | simp)]; simp [go_sem, *]
          have F2b1 : w2.frozen? ⟨w.heap.size + 1, 1, none⟩ = false := by rw [ff _ _ (by first | omega | (simp; omega) | simp)]; simp [go_sem, *]
          have C2x0 : w2.cell? ⟨wr.heap.size, 0, none⟩ = some (Value.int IntKind.i64 x) := by rw [fc _ _ (by first | omega | (simp; omega) | simp)]; simp [go_sem, *]
          have F2x0 : w2.frozen? ⟨wr.heap.size, 0, none⟩ = false := by rw [ff _ _ (by first | omega | (simp; omega) | simp)]; simp [go_sem, *]
          have C2x1 : w2.cell? ⟨wr.heap.size, 1, none⟩ = some (Value.int IntKind.i64 y) := by rw [fc _ _ (by first | omega | (simp; omega) | simp)]; simp [go_sem, *]
          have F2x1 : w2.frozen? ⟨wr.heap.size, 1, none⟩ = false := by rw [ff _ _ (by first | omega | (simp; omega) | simp)]; simp [go_sem, *]
          clear fc ff
          have X2 : Ext w w2 := Ext.trans (by repeat (first | (with_reducible exact Ext.refl _) | (with_reducible assumption) | (with_reducible refine Ext.alloc ?_ _) | (with_reducible refine Ext.drewN ?_ _) | (with_reducible refine Ext.drew ?_) | (with_reducible refine Ext.setCell ?_ (by simp <;> omega) _))) hx
          clear hx X1 C1r0 F1r0 C1r1 F1r1 C1b0 F1b0 C1b1 F1b1 C1x0 F1x0 C1x1 F1x1
          have l2r : w.heap.size < w2.heap.size := by omega
          have l2b : w.heap.size + 1 < w2.heap.size := by omega
          have l2x : wr.heap.size < w2.heap.size := by omega
          go_wp2_with fail
          go_roundw
          case rel =>
            refine ⟨k + 1, s, t, by omega, by go_num, Lib.hid (HB.out.symm), Hvo, (by repeat (first | (with_reducible exact Ext.refl _) | (with_reducible assumption) | (with_reducible refine Ext.alloc ?_ _) | (with_reducible refine Ext.drewN ?_ _) | (with_reducible refine Ext.drew ?_) | (with_reducible refine Ext.setCell ?_ (by simp <;> omega) _))), ?_⟩
            refine ⟨?_, ?_, ?_, ?_, ?_, ?_, ?_, ?_, ?_⟩ <;> first | assumption | (simp [go_sem, *]; done) | (simp [go_sem, *]; omega)
          case measure => simp [intOf]; omega
        · have HC := Lib.hid (fun W : World => cmp_ext x y p q vx vp ix iy ip iq W)
          have hq1 : (q == 0) = false := by simp; omega
          have hq2 : ¬ q = 0 := by omega
          by_cases hc : 0 < cmpP x y p q
          · have hb' : bestF (p, q) (x, y) = ((oneP x y).1, (oneP x y).2) := by simp [bestF, better, vx, hc]
            have HB := Lib.hid (HL.out.trans hb')
            clear HL hb' vx vp o0 oc ho ip iq
            generalize (oneP x y).1 = s at *
            generalize (oneP x y).2 = t at *
            generalize cmpP x y p q = cc at *
            go_wp2_with fail
            refine (HV.out _).mono ?_
            rintro e w1 ⟨rfl, hx⟩
            have fs1 : wr.heap.size + 1 ≤ w1.heap.size := by simpa using hx.size
            obtain ⟨fc, ff⟩ := And.intro hx.cells hx.marks
            have C1r0 : w1.cell? ⟨w.heap.size, 0, none⟩ = some (Value.int IntKind.i64 0) := by rw [fc _ _ (by first | omega | (simp; omega) | simp)]; simp [go_sem, *]
            have F1r0 : w1.frozen? ⟨w.heap.size, 0, none⟩ = false := by rw [ff _ _ (by first | omega | (simp; omega) | simp)]; simp [go_sem, *]
            have C1r1 : w1.cell? ⟨w.heap.size, 1, none⟩ = some (Value.int IntKind.i64 0) := by rw [fc _ _ (by first | omega | (simp; omega) | simp)]; simp [go_sem, *]
            have F1r1 : w1.frozen? ⟨w.heap.size, 1, none⟩ = false := by rw [ff _ _ (by first | omega | (simp; omega) | simp)]; simp [go_sem, *]
            have C1b0 : w1.cell? ⟨w.heap.size + 1, 0, none⟩ = some (Value.int IntKind.i64 p) := by rw [fc _ _ (by first | omega | (simp; omega) | simp)]; simp [go_sem, *]
            have F1b0 : w1.frozen? ⟨w.heap.size + 1, 0, none⟩ = false := by rw [ff _ _ (by first | omega | (simp; omega) | simp)]; simp [go_sem, *]
            have C1b1 : w1.cell? ⟨w.heap.size + 1, 1, none⟩ = some (Value.int IntKind.i64 q) := by rw [fc _ _ (by first | omega | (simp; omega) | simp)]; simp [go_sem, *]
            have F1b1 : w1.frozen? ⟨w.heap.size + 1, 1, none⟩ = false := by rw [ff _ _ (by first | omega | (simp; omega) | simp)]; simp [go_sem, *]
            have C1x0 : w1.cell? ⟨wr.heap.size, 0, none⟩ = some (Value.int IntKind.i64 x) := by rw [fc _ _ (by first | omega | (simp; omega) | simp)]; simp [go_sem, *]
            have F1x0 : w1.frozen? ⟨wr.heap.size, 0, none⟩ = false := by rw [ff _ _ (by first | omega | (simp; omega) | simp)]; simp [go_sem, *]
            have C1x1 : w1.cell? ⟨wr.heap.size, 1, none⟩ = some (Value.int IntKind.i64 y) := by rw [fc _ _ (by first | omega | (simp; omega) | simp)]; simp [go_sem, *]
            have F1x1 : w1.frozen? ⟨wr.heap.size, 1, none⟩ = false := by rw [ff _ _ (by first | omega | (simp; omega) | simp)]; simp [go_sem, *]
            clear fc ff
            have X1 : Ext w w1 := Ext.trans (by repeat (first | (with_reducible exact Ext.refl _) | (with_reducible assumption) | (with_reducible refine Ext.alloc ?_ _) | (with_reducible refine Ext.drewN ?_ _) | (with_reducible refine Ext.drew ?_) | (with_reducible refine Ext.setCell ?_ (by simp <;> omega) _))) hx
            clear hx hE cr0 cr1 fr0 fr1 cb0 cb1 fb0 fb1 h0 h1 hbl
            have l1r : w.heap.size < w1.heap.size := by omega
            have l1b : w.heap.size + 1 < w1.heap.size := by omega
            have l1x : wr.heap.size < w1.heap.size := by omega
            go_wp2_with fail
            refine (HC.out _).mono ?_
            rintro e w2 ⟨rfl, hx⟩
            have fs2 : w1.heap.size ≤ w2.heap.size := by simpa using hx.size
            obtain ⟨fc, ff⟩ := And.intro hx.cells hx.marks
            have C2r0 : w2.cell? ⟨w.heap.size, 0, none⟩ = some (Value.int IntKind.i64 0) := by rw [fc _ _ (by first | omega | (simp; omega) | simp)]; simp [go_sem, *]
            have F2r0 : w2.frozen? ⟨w.heap.size, 0, none⟩ = false := by rw [ff _ _ (by first | omega | (simp; omega) | simp)]; simp [go_sem, *]
            have C2r1 : w2.cell? ⟨w.heap.size, 1, none⟩ = some (Value.int IntKind.i64 0) := by rw [fc _ _ (by first | omega | (simp; omega) | simp)]; simp [go_sem, *]
            have F2r1 : w2.frozen? ⟨w.heap.size, 1, none⟩ = false := by rw [ff _ _ (by first | omega | (simp; omega) | simp)]; simp [go_sem, *]
            have C2b0 : w2.cell? ⟨w.heap.size + 1, 0, none⟩ = some (Value.int IntKind.i64 p) := by rw [fc _ _ (by first | omega | (simp; omega) | simp)]; simp [go_sem, *]
            have F2b0 : w2.frozen? ⟨w.heap.size + 1, 0, none⟩ = false := by rw [ff _ _ (by first | omega | (simp; omega) | simp)]; simp [go_sem, *]
            have C2b1 : w2.cell? ⟨w.heap.size + 1, 1, none⟩ = some (Value.int IntKind.i64 q) := by rw [fc _ _ (by first | omega | (simp; omega) | simp)]; simp [go_sem, *]
            have F2b1 : w2.frozen? ⟨w.heap.size + 1, 1, none⟩ = false := by rw [ff _ _ (by first | omega | (simp; omega) | simp)]; simp [go_sem, *]
            have C2x0 : w2.cell? ⟨wr.heap.size, 0, none⟩ = some (Value.int IntKind.i64 x) := by rw [fc _ _ (by first | omega | (simp; omega) | simp)]; simp [go_sem, *]
            have F2x0 : w2.frozen? ⟨wr.heap.size, 0, none⟩ = false := by rw [ff _ _ (by first | omega | (simp; omega) | simp)]; simp [go_sem, *]
            have C2x1 : w2.cell? ⟨wr.heap.size, 1, none⟩ = some (Value.int IntKind.i64 y) := by rw [fc _ _ (by first | omega | (simp; omega) | simp)]; simp [go_sem, *]
            have F2x1 : w2.frozen? ⟨wr.heap.size, 1, none⟩ = false := by rw [ff _ _ (by first | omega | (simp; omega) | simp)]; simp [go_sem, *]
            clear fc ff
            have X2 : Ext w w2 := Ext.trans (by repeat (first | (with_reducible exact Ext.refl _) | (with_reducible assumption) | (with_reducible refine Ext.alloc ?_ _) | (with_reducible refine Ext.drewN ?_ _) | (with_reducible refine Ext.drew ?_) | (with_reducible refine Ext.setCell ?_ (by simp <;> omega) _))) hx
            clear hx X1 C1r0 F1r0 C1r1 F1r1 C1b0 F1b0 C1b1 F1b1 C1x0 F1x0 C1x1 F1x1
            have l2r : w.heap.size < w2.heap.size := by omega
            have l2b : w.heap.size + 1 < w2.heap.size := by omega
            have l2x : wr.heap.size < w2.heap.size := by omega
            go_wp2_with fail
            refine (HO.out _).mono ?_
            rintro e w3 ⟨rfl, hx⟩
            have fs3 : w2.heap.size ≤ w3.heap.size := by simpa using hx.size
            obtain ⟨fc, ff⟩ := And.intro hx.cells hx.marks
            have C3r0 : w3.cell? ⟨w.heap.size, 0, none⟩ = some (Value.int IntKind.i64 0) := by rw [fc _ _ (by first | omega | (simp; omega) | simp)]; simp [go_sem, *]
            have F3r0 : w3.frozen? ⟨w.heap.size, 0, none⟩ = false := by rw [ff _ _ (by first | omega | (simp; omega) | simp)]; simp [go_sem, *]
            have C3r1 : w3.cell? ⟨w.heap.size, 1, none⟩ = some (Value.int IntKind.i64 0) := by rw [fc _ _ (by first | omega | (simp; omega) | simp)]; simp [go_sem, *]
            have F3r1 : w3.frozen? ⟨w.heap.size, 1, none⟩ = false := by rw [ff _ _ (by first | omega | (simp; omega) | simp)]; simp [go_sem, *]
            have C3b0 : w3.cell? ⟨w.heap.size + 1, 0, none⟩ = some (Value.int IntKind.i64 p) := by rw [fc _ _ (by first | omega | (simp; omega) | simp)]; simp [go_sem, *]
            have F3b0 : w3.frozen? ⟨w.heap.size + 1, 0, none⟩ = false := by rw [ff _ _ (by first | omega | (simp; omega) | simp)]; simp [go_sem, *]
            have C3b1 : w3.cell? ⟨w.heap.size + 1, 1, none⟩ = some (Value.int IntKind.i64 q) := by rw [fc _ _ (by first | omega | (simp; omega) | simp)]; simp [go_sem, *]
            have F3b1 : w3.frozen? ⟨w.heap.size + 1, 1, none⟩ = false := by rw [ff _ _ (by first | omega | (simp; omega) | simp)]; simp [go_sem, *]
            have C3x0 : w3.cell? ⟨wr.heap.size, 0, none⟩ = some (Value.int IntKind.i64 x) := by rw [fc _ _ (by first | omega | (simp; omega) | simp)]; simp [go_sem, *]
            have F3x0 : w3.frozen? ⟨wr.heap.size, 0, none⟩ = false := by rw [ff _ _ (by first | omega | (simp; omega) | simp)]; simp [go_sem, *]
            have C3x1 : w3.cell? ⟨wr.heap.size, 1, none⟩ = some (Value.int IntKind.i64 y) := by rw [fc _ _ (by first | omega | (simp; omega) | simp)]; simp [go_sem, *]
            have F3x1 : w3.frozen? ⟨wr.heap.size, 1, none⟩ = false := by rw [ff _ _ (by first | omega | (simp; omega) | simp)]; simp [go_sem, *]
            clear fc ff
            have X3 : Ext w w3 := Ext.trans (by repeat (first | (with_reducible exact Ext.refl _) | (with_reducible assumption) | (with_reducible refine Ext.alloc ?_ _) | (with_reducible refine Ext.drewN ?_ _) | (with_reducible refine Ext.drew ?_) | (with_reducible refine Ext.setCell ?_ (by simp <;> omega) _))) hx
            clear hx X2 C2r0 F2r0 C2r1 F2r1 C2b0 F2b0 C2b1 F2b1 C2x0 F2x0 C2x1 F2x1
            have l3r : w.heap.size < w3.heap.size := by omega
            have l3b : w.heap.size + 1 < w3.heap.size := by omega
            have l3x : wr.heap.size < w3.heap.size := by omega
            go_wp2_with fail
            go_roundw
            case rel =>
              refine ⟨k + 1, s, t, by omega, by go_num, Lib.hid (HB.out.symm), Hvo, (by repeat (first | (with_reducible exact Ext.refl _) | (with_reducible assumption) | (with_reducible refine Ext.alloc ?_ _) | (with_reducible refine Ext.drewN ?_ _) | (with_reducible refine Ext.drew ?_) | (with_reducible refine Ext.setCell ?_ (by simp <;> omega) _))), ?_⟩
              refine ⟨?_, ?_, ?_, ?_, ?_, ?_, ?_, ?_, ?_⟩ <;> first | assumption | (simp [go_sem, *]; done) | (simp [go_sem, *]; omega)
            case measure => simp [intOf]; omega
          · have hb' : bestF (p, q) (x, y) = (p, q) := by
              have : ¬ (p, q) = ((0 : Int), (0 : Int)) := by simp; omega
              simp [bestF, better, vx, hc, this]
            have HB := Lib.hid (HL.out.trans hb')
            have Hvp := Lib.hid (And.intro vp (And.intro ip (And.intro iq (Or.inr (a := p = 0 ∧ q = 0) q0))))
            clear HL hb' vx vp o0 oc ho ip iq
            generalize cmpP x y p q = cc at *
            go_wp2_with fail
            refine (HV.out _).mono ?_
            rintro e w1 ⟨rfl, hx⟩
            have fs1 : wr.heap.size + 1 ≤ w1.heap.size := by simpa using hx.size
            obtain ⟨fc, ff⟩ := And.intro hx.cells hx.marks
            have C1r0 : w1.cell? ⟨w.heap.size, 0, none⟩ = some (Value.int IntKind.i64 0) := by rw [fc _ _ (by first | omega | (simp; omega) | simp)]; simp [go_sem, *]
            have F1r0 : w1.frozen? ⟨w.heap.size, 0, none⟩ = false := by rw [ff _ _ (by first | omega | (simp; omega) | simp)]; simp [go_sem, *]
            have C1r1 : w1.cell? ⟨w.heap.size, 1, none⟩ = some (Value.int IntKind.i64 0) := by rw [fc _ _ (by first | omega | (simp; omega) | simp)]; simp [go_sem, *]
            have F1r1 : w1.frozen? ⟨w.heap.size, 1, none⟩ = false := by rw [ff _ _ (by first | omega | (simp; omega) | simp)]; simp [go_sem, *]
            have C1b0 : w1.cell? ⟨w.heap.size + 1, 0, none⟩ = some (Value.int IntKind.i64 p) := by rw [fc _ _ (by first | omega | (simp; omega) | simp)]; simp [go_sem, *]
            have F1b0 : w1.frozen? ⟨w.heap.size + 1, 0, none⟩ = false := by rw [ff _ _ (by first | omega | (simp; omega) | simp)]; simp [go_sem, *]
            have C1b1 : w1.cell? ⟨w.heap.size + 1, 1, none⟩ = some (Value.int IntKind.i64 q) := by rw [fc _ _ (by first | omega | (simp; omega) | simp)]; simp [go_sem, *]
            have F1b1 : w1.frozen? ⟨w.heap.size + 1, 1, none⟩ = false := by rw [ff _ _ (by first | omega | (simp; omega) | simp)]; simp [go_sem, *]
            have C1x0 : w1.cell? ⟨wr.heap.size, 0, none⟩ = some (Value.int IntKind.i64 x) := by rw [fc _ _ (by first | omega | (simp; omega) | simp)]; simp [go_sem, *]
            have F1x0 : w1.frozen? ⟨wr.heap.size, 0, none⟩ = false := by rw [ff _ _ (by first | omega | (simp; omega) | simp)]; simp [go_sem, *]
            have C1x1 : w1.cell? ⟨wr.heap.size, 1, none⟩ = some (Value.int IntKind.i64 y) := by rw [fc _ _ (by first | omega | (simp; omega) | simp)]; simp [go_sem, *]
            have F1x1 : w1.frozen? ⟨wr.heap.size, 1, none⟩ = false := by rw [ff _ _ (by first | omega | (simp; omega) | simp)]; simp [go_sem, *]
            clear fc ff
            have X1 : Ext w w1 := Ext.trans (by repeat (first | (with_reducible exact Ext.refl _) | (with_reducible assumption) | (with_reducible refine Ext.alloc ?_ _) | (with_reducible refine Ext.drewN ?_ _) | (with_reducible refine Ext.drew ?_) | (with_reducible refine Ext.setCell ?_ (by simp <;> omega) _))) hx
            clear hx hE cr0 cr1 fr0 fr1 cb0 cb1 fb0 fb1 h0 h1 hbl
            have l1r : w.heap.size < w1.heap.size := by omega
            have l1b : w.heap.size + 1 < w1.heap.size := by omega
            have l1x : wr.heap.size < w1.heap.size := by omega
            go_wp2_with fail
            refine (HC.out _).mono ?_
            rintro e w2 ⟨rfl, hx⟩
            have fs2 : w1.heap.size ≤ w2.heap.size := by simpa using hx.size
            obtain ⟨fc, ff⟩ := And.intro hx.cells hx.marks
            have C2r0 : w2.cell? ⟨w.heap.size, 0, none⟩ = some (Value.int IntKind.i64 0) := by rw [fc _ _ (by first | omega | (simp; omega) | simp)]; simp [go_sem, *]
            have F2r0 : w2.frozen? ⟨w.heap.size, 0, none⟩ = false := by rw [ff _ _ (by first | omega | (simp; omega) | simp)]; simp [go_sem, *]
            have C2r1 : w2.cell? ⟨w.heap.size, 1, none⟩ = some (Value.int IntKind.i64 0) := by rw [fc _ _ (by first | omega | (simp; omega) | simp)]; simp [go_sem, *]
            have F2r1 : w2.frozen? ⟨w.heap.size, 1, none⟩ = false := by rw [ff _ _ (by first | omega | (simp; omega) | simp)]; simp [go_sem, *]
            have C2b0 : w2.cell? ⟨w.heap.size + 1, 0, none⟩ = some (Value.int IntKind.i64 p) := by rw [fc _ _ (by first | omega | (simp; omega) | simp)]; simp [go_sem, *]
            have F2b0 : w2.frozen? ⟨w.heap.size + 1, 0, none⟩ = false := by rw [ff _ _ (by first | omega | (simp; omega) | simp)]; simp [go_sem, *]
            have C2b1 : w2.cell? ⟨w.heap.size + 1, 1, none⟩ = some (Value.int IntKind.i64 q) := by rw [fc _ _ (by first | omega | (simp; omega) | simp)]; simp [go_sem, *]
            have F2b1 : w2.frozen? ⟨w.heap.size + 1, 1, none⟩ = false := by rw [ff _ _ (by first | omega | (simp; omega) | simp)]; simp [go_sem, *]
            have C2x0 : w2.cell? ⟨wr.heap.size, 0, none⟩ = some (Value.int IntKind.i64 x) := by rw [fc _ _ (by first | omega | (simp; omega) | simp)]; simp [go_sem, *]
            have F2x0 : w2.frozen? ⟨wr.heap.size, 0, none⟩ = false := by rw [ff _ _ (by first | omega | (simp; omega) | simp)]; simp [go_sem, *]
            have C2x1 : w2.cell? ⟨wr.heap.size, 1, none⟩ = some (Value.int IntKind.i64 y) := by rw [fc _ _ (by first | omega | (simp; omega) | simp)]; simp [go_sem, *]
            have F2x1 : w2.frozen? ⟨wr.heap.size, 1, none⟩ = false := by rw [ff _ _ (by first | omega | (simp; omega) | simp)]; simp [go_sem, *]
            clear fc ff
            have X2 : Ext w w2 := Ext.trans (by repeat (first | (with_reducible exact Ext.refl _) | (with_reducible assumption) | (with_reducible refine Ext.alloc ?_ _) | (with_reducible refine Ext.drewN ?_ _) | (with_reducible refine Ext.drew ?_) | (with_reducible refine Ext.setCell ?_ (by simp <;> omega) _))) hx
            clear hx X1 C1r0 F1r0 C1r1 F1r1 C1b0 F1b0 C1b1 F1b1 C1x0 F1x0 C1x1 F1x1
            have l2r : w.heap.size < w2.heap.size := by omega
            have l2b : w.heap.size + 1 < w2.heap.size := by omega
            have l2x : wr.heap.size < w2.heap.size := by omega
            go_wp2_with fail
            go_roundw
            case rel =>
              refine ⟨k + 1, p, q, by omega, by go_num, Lib.hid (HB.out.symm), Hvp, (by repeat (first | (with_reducible exact Ext.refl _) | (with_reducible assumption) | (with_reducible refine Ext.alloc ?_ _) | (with_reducible refine Ext.drewN ?_ _) | (with_reducible refine Ext.drew ?_) | (with_reducible refine Ext.setCell ?_ (by simp <;> omega) _))), ?_⟩
              refine ⟨?_, ?_, ?_, ?_, ?_, ?_, ?_, ?_, ?_⟩ <;> first | assumption | (simp [go_sem, *]; done) | (simp [go_sem, *]; omega)
            case measure => simp [intOf]; omega
    · obtain rfl : k = n := by omega
      have hfull : (p, q) = bestL L := by rw [hb.out, List.take_of_length_le (by rw [HS.out.1]; exact Nat.le_refl _)]
      have hU := HU.out
      rw [← hfull] at hU
      have HO := Lib.hid (fun W : World => one_any p q W)
      have l0 : w.heap.size < wr.heap.size := by omega
      rw [hU] at HO
      clear hU hfull
      go_wp2_with fail
      refine (HO.out _).mono ?_
      rintro e w1 ⟨rfl, hx⟩
      have fs1 : wr.heap.size ≤ w1.heap.size := by simpa using hx.size
      obtain ⟨fc, ff⟩ := And.intro hx.cells hx.marks
      have C1r0 : w1.cell? ⟨w.heap.size, 0, none⟩ = some (Value.int IntKind.i64 0) := by rw [fc _ _ (by first | omega | (simp; omega) | simp)]; simp [go_sem, *]
      have F1r0 : w1.frozen? ⟨w.heap.size, 0, none⟩ = false := by rw [ff _ _ (by first | omega | (simp; omega) | simp)]; simp [go_sem, *]
      have C1r1 : w1.cell? ⟨w.heap.size, 1, none⟩ = some (Value.int IntKind.i64 0) := by rw [fc _ _ (by first | omega | (simp; omega) | simp)]; simp [go_sem, *]
      have F1r1 : w1.frozen? ⟨w.heap.size, 1, none⟩ = false := by rw [ff _ _ (by first | omega | (simp; omega) | simp)]; simp [go_sem, *]
      have C1b0 : w1.cell? ⟨w.heap.size + 1, 0, none⟩ = some (Value.int IntKind.i64 p) := by rw [fc _ _ (by first | omega | (simp; omega) | simp)]; simp [go_sem, *]
      have F1b0 : w1.frozen? ⟨w.heap.size + 1, 0, none⟩ = false := by rw [ff _ _ (by first | omega | (simp; omega) | simp)]; simp [go_sem, *]
      have C1b1 : w1.cell? ⟨w.heap.size + 1, 1, none⟩ = some (Value.int IntKind.i64 q) := by rw [fc _ _ (by first | omega | (simp; omega) | simp)]; simp [go_sem, *]
      have F1b1 : w1.frozen? ⟨w.heap.size + 1, 1, none⟩ = false := by rw [ff _ _ (by first | omega | (simp; omega) | simp)]; simp [go_sem, *]
      clear fc ff
      have X1 : Ext w w1 := Ext.trans (by repeat (first | (with_reducible exact Ext.refl _) | (with_reducible assumption) | (with_reducible refine Ext.alloc ?_ _) | (with_reducible refine Ext.drewN ?_ _) | (with_reducible refine Ext.drew ?_) | (with_reducible refine Ext.setCell ?_ (by simp <;> omega) _))) hx
      clear hx hE cr0 cr1 fr0 fr1 cb0 cb1 fb0 fb1
      have l1r : w.heap.size < w1.heap.size := by omega
      have l1b : w.heap.size + 1 < w1.heap.size := by omega
      go_wp2_with fail
      exact bodyPost_ret (v := .agg #[.int .i64 u, .int .i64 v]) (by simp [results, Tryd.results30, go_sem, *]) rfl ⟨rfl, (by repeat (first | (with_reducible exact Ext.refl _) | (with_reducible assumption) | (with_reducible refine Ext.alloc ?_ _) | (with_reducible refine Ext.drewN ?_ _) | (with_reducible refine Ext.drew ?_) | (with_reducible refine Ext.setCell ?_ (by simp <;> omega) _)))⟩
end Go.Proofs.YtifhgkdajnngnaaDoor
