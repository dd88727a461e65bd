/- The walk of RatioMax (12). -/
import Derived.Test.YtifhgkdajnngnaaDoorRQ
import Derived.Test.YtifhgkdajnngnaaDoorRR1
namespace Go.Proofs.YtifhgkdajnngnaaDoor
open Go.RowKit Go.Par
def plainP (n d : Int) : Int × Int := (if d = 0 then 0 else n, if d = 0 then 1 else d)
def hit (m r : Int × Int) : Bool := validB r.1 r.2 && (decide (cmpP r.1 r.2 m.1 m.2 = 0) && decide (m = plainP r.1 r.2))
def someL (m : Int × Int) (L : List (Int × Int)) : Bool := L.any (hit m)
set_option maxRecDepth 100000 in
set_option maxHeartbeats 4000000 in
theorem lmax_short (A : Option Addr) (n c : Nat) (L : List (Int × Int)) (w : World) (G : Globs w) (hn : n ≤ 20) (hc : n ≤ c) (hc2 : c ≤ maxLen) (h : RSl w A n L) (mu mv : Int) (im : InI mu) (jm : InI mv) (vm : validB mu mv = true)
    (hM : ∀ W : World, RSl W A n L → Calls Tryd.prog 30 #[.slice A n c] W fun e w' => e = .returned (.agg #[.int .i64 mu, .int .i64 mv]) ∧ Ext W w')
    (hle : ∀ r ∈ L, validB r.1 r.2 = true → cmpP r.1 r.2 mu mv ≤ 0) (hsome : someL (mu, mv) L = true ∨ (mu = 0 ∧ mv = 1)) :
    Calls Tryd.prog 12 #[.slice A n c] w fun e w' => e = .returned (.bool true) ∧ Ext w w' := by
  unfold maxLen at *
  have HA := Lib.hid (fun W (G : Globs W) => awake_any W G)
  have HG := Lib.hid G
  have HM := Lib.hid hM
  have HVm := Lib.hid (valid_ext mu mv im jm)
  rw [vm] at HVm
  have Hle := Lib.hid hle
  have Hsome := Lib.hid hsome
  have Hvm := Lib.hid vm
  have HS := Lib.hid h
  clear h
  have hz : ((n : Int) > 20) = False := by simp; omega
  clear hM G hle hsome vm
  have X0 : Ext w w := Ext.refl w
  go_enter Tryd.func12, Tryd.ntmps12
  go_wp2_with fail
  refine (HM.out _ HS.out).mono ?_
  rintro e v1 ⟨rfl, hx⟩
  have HS1 := Lib.hid (HS.out.ext hx)
  have hws := hx.size
  go_wp2_with fail
  go_loopw [4, 16] (fun s i W => ∃ k : Nat, k ≤ n ∧ i = .int .i64 k ∧ s = .bool (someL (mu, mv) (L.take k)) ∧ Ext v1 W ∧ W.cell? ⟨v1.heap.size, 0, none⟩ = some (.int .i64 mu) ∧ W.cell? ⟨v1.heap.size, 1, none⟩ = some (.int .i64 mv) ∧ W.frozen? ⟨v1.heap.size, 0, none⟩ = false ∧ W.frozen? ⟨v1.heap.size, 1, none⟩ = false ∧ v1.heap.size < W.heap.size) (fun _ i _ => n - (intOf i).toNat)
  case atStart =>
    refine ⟨0, Nat.zero_le _, rfl, rfl, (Ext.refl v1).alloc _, ?_⟩
    refine ⟨?_, ?_, ?_, ?_, ?_⟩ <;> simp [go_sem]
  case round =>
    obtain ⟨k, hk, rfl, rfl, hF, cm0, cm1, fm0, fm1, lm⟩ := hrel
    by_cases hlt : k < n
    · obtain ⟨a', x, y, ea, hL, hbl, h0, h1, ix, iy⟩ := (HS1.out.ext hF).2 k hlt
      subst ea
      have htake : someL (mu, mv) (L.take (k + 1)) = (someL (mu, mv) (L.take k) || hit (mu, mv) (x, y)) := by
        rw [List.take_add_one, hL]; simp [someL]
      have hmem : (x, y) ∈ L := List.mem_of_getElem? hL
      have HT := Lib.hid htake
      have Hmem := Lib.hid hmem
      clear hL htake hmem
      generalize someL (mu, mv) (L.take k) = acc at *
      have HV := Lib.hid (valid_ext x y ix iy)
      have HP := Lib.hid (fun W : World => plain_any x y W)
      cases vx : validB x y with
      | false =>
        rw [vx] at HV
        have ht : someL (mu, mv) (L.take (k + 1)) = acc := by rw [HT.out, hit, vx]; simp
        have Ht := Lib.hid ht
        clear ht vx
        go_wp2_with fail
        refine (HV.out _).mono ?_
        rintro e w1 ⟨rfl, hx⟩
        have fs1 : wr.heap.size + 1 ≤ w1.heap.size := by simpa using hx.size
        obtain ⟨fc, ff⟩ := And.intro hx.cells hx.marks
        have C1m0 : w1.cell? ⟨v1.heap.size, 0, none⟩ = some (Value.int IntKind.i64 mu) := by rw [fc _ _ (by first | omega | (simp; omega) | simp)]; simp [go_sem, *]
        have F1m0 : w1.frozen? ⟨v1.heap.size, 0, none⟩ = false := by rw [ff _ _ (by first | omega | (simp; omega) | simp)]; simp [go_sem, *]
        have C1m1 : w1.cell? ⟨v1.heap.size, 1, none⟩ = some (Value.int IntKind.i64 mv) := by rw [fc _ _ (by first | omega | (simp; omega) | simp)]; simp [go_sem, *]
        have F1m1 : w1.frozen? ⟨v1.heap.size, 1, none⟩ = false := by rw [ff _ _ (by first | omega | (simp; omega) | simp)]; simp [go_sem, *]
        have C1x0 : w1.cell? ⟨wr.heap.size, 0, none⟩ = some (Value.int IntKind.i64 x) := by rw [fc _ _ (by first | omega | (simp; omega) | simp)]; simp [go_sem, *]
        have F1x0 : w1.frozen? ⟨wr.heap.size, 0, none⟩ = false := by rw [ff _ _ (by first | omega | (simp; omega) | simp)]; simp [go_sem, *]
        have C1x1 : w1.cell? ⟨wr.heap.size, 1, none⟩ = some (Value.int IntKind.i64 y) := by rw [fc _ _ (by first | omega | (simp; omega) | simp)]; simp [go_sem, *]
        have F1x1 : w1.frozen? ⟨wr.heap.size, 1, none⟩ = false := by rw [ff _ _ (by first | omega | (simp; omega) | simp)]; simp [go_sem, *]
        clear fc ff
        have X1 : Ext v1 w1 := Ext.trans (by repeat (first | (with_reducible exact Ext.refl _) | (with_reducible assumption) | (with_reducible refine Ext.alloc ?_ _) | (with_reducible refine Ext.drewN ?_ _) | (with_reducible refine Ext.drew ?_) | (with_reducible refine Ext.setCell ?_ (by simp <;> omega) _))) hx
        clear hx cm0 cm1 fm0 fm1 h0 h1 hbl
        have l1m : v1.heap.size < w1.heap.size := by omega
        have l1x : wr.heap.size < w1.heap.size := by omega
        go_wp2_with fail
        go_roundw
        case rel =>
          refine ⟨k + 1, by omega, by go_num, by rw [Ht.out], (by repeat (first | (with_reducible exact Ext.refl _) | (with_reducible assumption) | (with_reducible refine Ext.alloc ?_ _) | (with_reducible refine Ext.drewN ?_ _) | (with_reducible refine Ext.drew ?_) | (with_reducible refine Ext.setCell ?_ (by simp <;> omega) _))), ?_⟩
          refine ⟨?_, ?_, ?_, ?_, ?_⟩ <;> first | assumption | (simp [go_sem, *]; done) | (simp [go_sem, *]; omega)
        case measure => simp [intOf]; omega
      | true =>
        rw [vx] at HV
        have HC := Lib.hid (fun W : World => cmp_ext x y mu mv vx Hvm.out ix iy im jm W)
        have hcle : cmpP x y mu mv ≤ 0 := Hle.out (x, y) Hmem.out vx
        have hcg : ¬ 0 < cmpP x y mu mv := by omega
        have hh : hit (mu, mv) (x, y) = (decide (cmpP x y mu mv = 0) && decide ((mu, mv) = plainP x y)) := by simp [hit, vx]
        rw [hh] at HT
        clear hh vx hcle
        generalize cmpP x y mu mv = cc at *
        cases acc with
        | true =>
          have ht : someL (mu, mv) (L.take (k + 1)) = true := by rw [HT.out]; rfl
          have Ht := Lib.hid ht
          clear ht
          go_wp2_with fail
          refine (HV.out _).mono ?_
          rintro e w1 ⟨rfl, hx⟩
          have fs1 : wr.heap.size + 1 ≤ w1.heap.size := by simpa using hx.size
          obtain ⟨fc, ff⟩ := And.intro hx.cells hx.marks
          have C1m0 : w1.cell? ⟨v1.heap.size, 0, none⟩ = some (Value.int IntKind.i64 mu) := by rw [fc _ _ (by first | omega | (simp; omega) | simp)]; simp [go_sem, *]
          have F1m0 : w1.frozen? ⟨v1.heap.size, 0, none⟩ = false := by rw [ff _ _ (by first | omega | (simp; omega) | simp)]; simp [go_sem, *]
          have C1m1 : w1.cell? ⟨v1.heap.size, 1, none⟩ = some (Value.int IntKind.i64 mv) := by rw [fc _ _ (by first | omega | (simp; omega) | simp)]; simp [go_sem, *]
          have F1m1 : w1.frozen? ⟨v1.heap.size, 1, none⟩ = false := by rw [ff _ _ (by first | omega | (simp; omega) | simp)]; simp [go_sem, *]
          have C1x0 : w1.cell? ⟨wr.heap.size, 0, none⟩ = some (Value.int IntKind.i64 x) := by rw [fc _ _ (by first | omega | (simp; omega) | simp)]; simp [go_sem, *]
          have F1x0 : w1.frozen? ⟨wr.heap.size, 0, none⟩ = false := by rw [ff _ _ (by first | omega | (simp; omega) | simp)]; simp [go_sem, *]
          have C1x1 : w1.cell? ⟨wr.heap.size, 1, none⟩ = some (Value.int IntKind.i64 y) := by rw [fc _ _ (by first | omega | (simp; omega) | simp)]; simp [go_sem, *]
          have F1x1 : w1.frozen? ⟨wr.heap.size, 1, none⟩ = false := by rw [ff _ _ (by first | omega | (simp; omega) | simp)]; simp [go_sem, *]
          clear fc ff
          have X1 : Ext v1 w1 := Ext.trans (by repeat (first | (with_reducible exact Ext.refl _) | (with_reducible assumption) | (with_reducible refine Ext.alloc ?_ _) | (with_reducible refine Ext.drewN ?_ _) | (with_reducible refine Ext.drew ?_) | (with_reducible refine Ext.setCell ?_ (by simp <;> omega) _))) hx
          clear hx cm0 cm1 fm0 fm1 h0 h1 hbl
          have l1m : v1.heap.size < w1.heap.size := by omega
          have l1x : wr.heap.size < w1.heap.size := by omega
          go_wp2_with fail
          refine (HC.out _).mono ?_
          rintro e w2 ⟨rfl, hx⟩
          have fs2 : w1.heap.size ≤ w2.heap.size := by simpa using hx.size
          obtain ⟨fc, ff⟩ := And.intro hx.cells hx.marks
          have C2m0 : w2.cell? ⟨v1.heap.size, 0, none⟩ = some (Value.int IntKind.i64 mu) := by rw [fc _ _ (by first | omega | (simp; omega) | simp)]; simp [go_sem, *]
          have F2m0 : w2.frozen? ⟨v1.heap.size, 0, none⟩ = false := by rw [ff _ _ (by first | omega | (simp; omega) | simp)]; simp [go_sem, *]
          have C2m1 : w2.cell? ⟨v1.heap.size, 1, none⟩ = some (Value.int IntKind.i64 mv) := by rw [fc _ _ (by first | omega | (simp; omega) | simp)]; simp [go_sem, *]
          have F2m1 : w2.frozen? ⟨v1.heap.size, 1, none⟩ = false := by rw [ff _ _ (by first | omega | (simp; omega) | simp)]; simp [go_sem, *]
          have C2x0 : w2.cell? ⟨wr.heap.size, 0, none⟩ = some (Value.int IntKind.i64 x) := by rw [fc _ _ (by first | omega | (simp; omega) | simp)]; simp [go_sem, *]
          have F2x0 : w2.frozen? ⟨wr.heap.size, 0, none⟩ = false := by rw [ff _ _ (by first | omega | (simp; omega) | simp)]; simp [go_sem, *]
          have C2x1 : w2.cell? ⟨wr.heap.size, 1, none⟩ = some (Value.int IntKind.i64 y) := by rw [fc _ _ (by first | omega | (simp; omega) | simp)]; simp [go_sem, *]
          have F2x1 : w2.frozen? ⟨wr.heap.size, 1, none⟩ = false := by rw [ff _ _ (by first | omega | (simp; omega) | simp)]; simp [go_sem, *]
          clear fc ff
          have X2 : Ext v1 w2 := Ext.trans (by repeat (first | (with_reducible exact Ext.refl _) | (with_reducible assumption) | (with_reducible refine Ext.alloc ?_ _) | (with_reducible refine Ext.drewN ?_ _) | (with_reducible refine Ext.drew ?_) | (with_reducible refine Ext.setCell ?_ (by simp <;> omega) _))) hx
          clear hx X1 C1m0 F1m0 C1m1 F1m1 C1x0 F1x0 C1x1 F1x1
          have l2m : v1.heap.size < w2.heap.size := by omega
          have l2x : wr.heap.size < w2.heap.size := by omega
          go_wp2_with fail
          refine Go.Par.region 13 [] (by kernel_rfl) (by kernel_rfl) (fun _ _ _ _ _ h => h) ?_
          simp only [List.take_succ_cons, List.take_zero]
          repeat (first
            | (apply step_val; (case hf => rfl); (case hw => (go_simp; done)); (case h => (intro w' hx fc; go_simp; (first | exact rfl | (go_at_call 28; exact HC.out _) | (go_at_call 22; exact HP.out _)))); intro K hK; go_simp; refine hK _ ?_; clear hK K)
            | (apply Go.Par.step_skip; (case hw => (go_simp; first | done | (intro h; cases h))); intro K hK; go_simp; refine hK _ ?_; clear hK K)
            | (apply step_make (mk := fun b => Value.pointer (some ⟨b, 0, none⟩)); (case hf => rfl); (case hw => (go_simp; done)); (case h => (intro w' hx; go_simp; exact rfl)); (case hno => kernel_rfl); simp only [List.nil_append, List.cons_append]))
          refine fin_none (fun w3 hx => ?_)
          have fs3 : w2.heap.size ≤ w3.heap.size := by simpa using hx.size
          obtain ⟨fc, ff⟩ := And.intro hx.cells hx.marks
          have C3m0 : w3.cell? ⟨v1.heap.size, 0, none⟩ = some (Value.int IntKind.i64 mu) := by rw [fc _ _ (by first | omega | (simp; omega) | simp)]; simp [go_sem, *]
          have F3m0 : w3.frozen? ⟨v1.heap.size, 0, none⟩ = false := by rw [ff _ _ (by first | omega | (simp; omega) | simp)]; simp [go_sem, *]
          have C3m1 : w3.cell? ⟨v1.heap.size, 1, none⟩ = some (Value.int IntKind.i64 mv) := by rw [fc _ _ (by first | omega | (simp; omega) | simp)]; simp [go_sem, *]
          have F3m1 : w3.frozen? ⟨v1.heap.size, 1, none⟩ = false := by rw [ff _ _ (by first | omega | (simp; omega) | simp)]; simp [go_sem, *]
          have C3x0 : w3.cell? ⟨wr.heap.size, 0, none⟩ = some (Value.int IntKind.i64 x) := by rw [fc _ _ (by first | omega | (simp; omega) | simp)]; simp [go_sem, *]
          have F3x0 : w3.frozen? ⟨wr.heap.size, 0, none⟩ = false := by rw [ff _ _ (by first | omega | (simp; omega) | simp)]; simp [go_sem, *]
          have C3x1 : w3.cell? ⟨wr.heap.size, 1, none⟩ = some (Value.int IntKind.i64 y) := by rw [fc _ _ (by first | omega | (simp; omega) | simp)]; simp [go_sem, *]
          have F3x1 : w3.frozen? ⟨wr.heap.size, 1, none⟩ = false := by rw [ff _ _ (by first | omega | (simp; omega) | simp)]; simp [go_sem, *]
          clear fc ff
          have X3 : Ext v1 w3 := Ext.trans (by repeat (first | (with_reducible exact Ext.refl _) | (with_reducible assumption) | (with_reducible refine Ext.alloc ?_ _) | (with_reducible refine Ext.drewN ?_ _) | (with_reducible refine Ext.drew ?_) | (with_reducible refine Ext.setCell ?_ (by simp <;> omega) _))) hx
          clear hx X2 C2m0 F2m0 C2m1 F2m1 C2x0 F2x0 C2x1 F2x1
          have l3m : v1.heap.size < w3.heap.size := by omega
          have l3x : wr.heap.size < w3.heap.size := by omega
          simp only [List.drop_succ_cons, List.drop_zero]
          go_wp2_with fail
          go_roundw
          case rel =>
            refine ⟨k + 1, by omega, by go_num, by rw [Ht.out], (by repeat (first | (with_reducible exact Ext.refl _) | (with_reducible assumption) | (with_reducible refine Ext.alloc ?_ _) | (with_reducible refine Ext.drewN ?_ _) | (with_reducible refine Ext.drew ?_) | (with_reducible refine Ext.setCell ?_ (by simp <;> omega) _))), ?_⟩
            refine ⟨?_, ?_, ?_, ?_, ?_⟩ <;> first | assumption | (simp [go_sem, *]; done) | (simp [go_sem, *]; omega)
          case measure => simp [intOf]; omega
        | false =>
          by_cases hz0 : cc = 0
          · subst hz0
            have ht : someL (mu, mv) (L.take (k + 1)) = (mu == (if y = 0 then 0 else x) && mv == (if y = 0 then 1 else y)) := by
              rw [HT.out]
              unfold plainP
              rw [Bool.eq_iff_iff]
              simp
            have Ht := Lib.hid ht
            clear ht
            generalize (if y = 0 then 0 else x) = px at *
            generalize (if y = 0 then 1 else y) = py at *
            by_cases e1 : mu = px
            · by_cases e2 : mv = py
              · subst e1 e2
                have Ht := Lib.hid (Ht.out.trans (show (mu == mu && mv == mv) = true by simp))
                go_wp2_with fail
                refine (HV.out _).mono ?_
                rintro e w1 ⟨rfl, hx⟩
                have fs1 : wr.heap.size + 1 ≤ w1.heap.size := by simpa using hx.size
                obtain ⟨fc, ff⟩ := And.intro hx.cells hx.marks
                have C1m0 : w1.cell? ⟨v1.heap.size, 0, none⟩ = some (Value.int IntKind.i64 mu) := by rw [fc _ _ (by first | omega | (simp; omega) | simp)]; simp [go_sem, *]
                have F1m0 : w1.frozen? ⟨v1.heap.size, 0, none⟩ = false := by rw [ff _ _ (by first | omega | (simp; omega) | simp)]; simp [go_sem, *]
                have C1m1 : w1.cell? ⟨v1.heap.size, 1, none⟩ = some (Value.int IntKind.i64 mv) := by rw [fc _ _ (by first | omega | (simp; omega) | simp)]; simp [go_sem, *]
                have F1m1 : w1.frozen? ⟨v1.heap.size, 1, none⟩ = false := by rw [ff _ _ (by first | omega | (simp; omega) | simp)]; simp [go_sem, *]
                have C1x0 : w1.cell? ⟨wr.heap.size, 0, none⟩ = some (Value.int IntKind.i64 x) := by rw [fc _ _ (by first | omega | (simp; omega) | simp)]; simp [go_sem, *]
                have F1x0 : w1.frozen? ⟨wr.heap.size, 0, none⟩ = false := by rw [ff _ _ (by first | omega | (simp; omega) | simp)]; simp [go_sem, *]
                have C1x1 : w1.cell? ⟨wr.heap.size, 1, none⟩ = some (Value.int IntKind.i64 y) := by rw [fc _ _ (by first | omega | (simp; omega) | simp)]; simp [go_sem, *]
                have F1x1 : w1.frozen? ⟨wr.heap.size, 1, none⟩ = false := by rw [ff _ _ (by first | omega | (simp; omega) | simp)]; simp [go_sem, *]
                clear fc ff
                have X1 : Ext v1 w1 := Ext.trans (by repeat (first | (with_reducible exact Ext.refl _) | (with_reducible assumption) | (with_reducible refine Ext.alloc ?_ _) | (with_reducible refine Ext.drewN ?_ _) | (with_reducible refine Ext.drew ?_) | (with_reducible refine Ext.setCell ?_ (by simp <;> omega) _))) hx
                clear hx cm0 cm1 fm0 fm1 h0 h1 hbl
                have l1m : v1.heap.size < w1.heap.size := by omega
                have l1x : wr.heap.size < w1.heap.size := by omega
                go_wp2_with fail
                refine (HC.out _).mono ?_
                rintro e w2 ⟨rfl, hx⟩
                have fs2 : w1.heap.size ≤ w2.heap.size := by simpa using hx.size
                obtain ⟨fc, ff⟩ := And.intro hx.cells hx.marks
                have C2m0 : w2.cell? ⟨v1.heap.size, 0, none⟩ = some (Value.int IntKind.i64 mu) := by rw [fc _ _ (by first | omega | (simp; omega) | simp)]; simp [go_sem, *]
                have F2m0 : w2.frozen? ⟨v1.heap.size, 0, none⟩ = false := by rw [ff _ _ (by first | omega | (simp; omega) | simp)]; simp [go_sem, *]
                have C2m1 : w2.cell? ⟨v1.heap.size, 1, none⟩ = some (Value.int IntKind.i64 mv) := by rw [fc _ _ (by first | omega | (simp; omega) | simp)]; simp [go_sem, *]
                have F2m1 : w2.frozen? ⟨v1.heap.size, 1, none⟩ = false := by rw [ff _ _ (by first | omega | (simp; omega) | simp)]; simp [go_sem, *]
                have C2x0 : w2.cell? ⟨wr.heap.size, 0, none⟩ = some (Value.int IntKind.i64 x) := by rw [fc _ _ (by first | omega | (simp; omega) | simp)]; simp [go_sem, *]
                have F2x0 : w2.frozen? ⟨wr.heap.size, 0, none⟩ = false := by rw [ff _ _ (by first | omega | (simp; omega) | simp)]; simp [go_sem, *]
                have C2x1 : w2.cell? ⟨wr.heap.size, 1, none⟩ = some (Value.int IntKind.i64 y) := by rw [fc _ _ (by first | omega | (simp; omega) | simp)]; simp [go_sem, *]
                have F2x1 : w2.frozen? ⟨wr.heap.size, 1, none⟩ = false := by rw [ff _ _ (by first | omega | (simp; omega) | simp)]; simp [go_sem, *]
                clear fc ff
                have X2 : Ext v1 w2 := Ext.trans (by repeat (first | (with_reducible exact Ext.refl _) | (with_reducible assumption) | (with_reducible refine Ext.alloc ?_ _) | (with_reducible refine Ext.drewN ?_ _) | (with_reducible refine Ext.drew ?_) | (with_reducible refine Ext.setCell ?_ (by simp <;> omega) _))) hx
                clear hx X1 C1m0 F1m0 C1m1 F1m1 C1x0 F1x0 C1x1 F1x1
                have l2m : v1.heap.size < w2.heap.size := by omega
                have l2x : wr.heap.size < w2.heap.size := by omega
                go_wp2_with fail
                refine Go.Par.region 13 [] (by kernel_rfl) (by kernel_rfl) (fun _ _ _ _ _ h => h) ?_
                simp only [List.take_succ_cons, List.take_zero]
                repeat (first
                  | (apply step_val; (case hf => rfl); (case hw => (go_simp; done)); (case h => (intro w' hx fc; go_simp; (first | exact rfl | (go_at_call 28; exact HC.out _) | (go_at_call 22; exact HP.out _)))); intro K hK; go_simp; refine hK _ ?_; clear hK K)
                  | (apply Go.Par.step_skip; (case hw => (go_simp; first | done | (intro h; cases h))); intro K hK; go_simp; refine hK _ ?_; clear hK K)
                  | (apply step_make (mk := fun b => Value.pointer (some ⟨b, 0, none⟩)); (case hf => rfl); (case hw => (go_simp; done)); (case h => (intro w' hx; go_simp; exact rfl)); (case hno => kernel_rfl); simp only [List.nil_append, List.cons_append]))
                refine fin_none (fun w3 hx => ?_)
                have fs3 : w2.heap.size ≤ w3.heap.size := by simpa using hx.size
                obtain ⟨fc, ff⟩ := And.intro hx.cells hx.marks
                have C3m0 : w3.cell? ⟨v1.heap.size, 0, none⟩ = some (Value.int IntKind.i64 mu) := by rw [fc _ _ (by first | omega | (simp; omega) | simp)]; simp [go_sem, *]
                have F3m0 : w3.frozen? ⟨v1.heap.size, 0, none⟩ = false := by rw [ff _ _ (by first | omega | (simp; omega) | simp)]; simp [go_sem, *]
                have C3m1 : w3.cell? ⟨v1.heap.size, 1, none⟩ = some (Value.int IntKind.i64 mv) := by rw [fc _ _ (by first | omega | (simp; omega) | simp)]; simp [go_sem, *]
                have F3m1 : w3.frozen? ⟨v1.heap.size, 1, none⟩ = false := by rw [ff _ _ (by first | omega | (simp; omega) | simp)]; simp [go_sem, *]
                have C3x0 : w3.cell? ⟨wr.heap.size, 0, none⟩ = some (Value.int IntKind.i64 x) := by rw [fc _ _ (by first | omega | (simp; omega) | simp)]; simp [go_sem, *]
                have F3x0 : w3.frozen? ⟨wr.heap.size, 0, none⟩ = false := by rw [ff _ _ (by first | omega | (simp; omega) | simp)]; simp [go_sem, *]
                have C3x1 : w3.cell? ⟨wr.heap.size, 1, none⟩ = some (Value.int IntKind.i64 y) := by rw [fc _ _ (by first | omega | (simp; omega) | simp)]; simp [go_sem, *]
                have F3x1 : w3.frozen? ⟨wr.heap.size, 1, none⟩ = false := by rw [ff _ _ (by first | omega | (simp; omega) | simp)]; simp [go_sem, *]
                clear fc ff
                have X3 : Ext v1 w3 := Ext.trans (by repeat (first | (with_reducible exact Ext.refl _) | (with_reducible assumption) | (with_reducible refine Ext.alloc ?_ _) | (with_reducible refine Ext.drewN ?_ _) | (with_reducible refine Ext.drew ?_) | (with_reducible refine Ext.setCell ?_ (by simp <;> omega) _))) hx
                clear hx X2 C2m0 F2m0 C2m1 F2m1 C2x0 F2x0 C2x1 F2x1
                have l3m : v1.heap.size < w3.heap.size := by omega
                have l3x : wr.heap.size < w3.heap.size := by omega
                simp only [List.drop_succ_cons, List.drop_zero]
                go_wp2_with fail
                go_roundw
                case rel =>
                  refine ⟨k + 1, by omega, by go_num, by rw [Ht.out], (by repeat (first | (with_reducible exact Ext.refl _) | (with_reducible assumption) | (with_reducible refine Ext.alloc ?_ _) | (with_reducible refine Ext.drewN ?_ _) | (with_reducible refine Ext.drew ?_) | (with_reducible refine Ext.setCell ?_ (by simp <;> omega) _))), ?_⟩
                  refine ⟨?_, ?_, ?_, ?_, ?_⟩ <;> first | assumption | (simp [go_sem, *]; done) | (simp [go_sem, *]; omega)
                case measure => simp [intOf]; omega
              · subst e1
                have e3 : (mv == py) = false := by simp [e2]
                have Ht := Lib.hid (Ht.out.trans (show (mu == mu && mv == py) = false by simp [e2]))
                go_wp2_with fail
                refine (HV.out _).mono ?_
                rintro e w1 ⟨rfl, hx⟩
                have fs1 : wr.heap.size + 1 ≤ w1.heap.size := by simpa using hx.size
                obtain ⟨fc, ff⟩ := And.intro hx.cells hx.marks
                have C1m0 : w1.cell? ⟨v1.heap.size, 0, none⟩ = some (Value.int IntKind.i64 mu) := by rw [fc _ _ (by first | omega | (simp; omega) | simp)]; simp [go_sem, *]
                have F1m0 : w1.frozen? ⟨v1.heap.size, 0, none⟩ = false := by rw [ff _ _ (by first | omega | (simp; omega) | simp)]; simp [go_sem, *]
                have C1m1 : w1.cell? ⟨v1.heap.size, 1, none⟩ = some (Value.int IntKind.i64 mv) := by rw [fc _ _ (by first | omega | (simp; omega) | simp)]; simp [go_sem, *]
                have F1m1 : w1.frozen? ⟨v1.heap.size, 1, none⟩ = false := by rw [ff _ _ (by first | omega | (simp; omega) | simp)]; simp [go_sem, *]
                have C1x0 : w1.cell? ⟨wr.heap.size, 0, none⟩ = some (Value.int IntKind.i64 x) := by rw [fc _ _ (by first | omega | (simp; omega) | simp)]; simp [go_sem, *]
                have F1x0 : w1.frozen? ⟨wr.heap.size, 0, none⟩ = false := by rw [ff _ _ (by first | omega | (simp; omega) | simp)]; simp [go_sem, *]
                have C1x1 : w1.cell? ⟨wr.heap.size, 1, none⟩ = some (Value.int IntKind.i64 y) := by rw [fc _ _ (by first | omega | (simp; omega) | simp)]; simp [go_sem, *]
                have F1x1 : w1.frozen? ⟨wr.heap.size, 1, none⟩ = false := by rw [ff _ _ (by first | omega | (simp; omega) | simp)]; simp [go_sem, *]
                clear fc ff
                have X1 : Ext v1 w1 := Ext.trans (by repeat (first | (with_reducible exact Ext.refl _) | (with_reducible assumption) | (with_reducible refine Ext.alloc ?_ _) | (with_reducible refine Ext.drewN ?_ _) | (with_reducible refine Ext.drew ?_) | (with_reducible refine Ext.setCell ?_ (by simp <;> omega) _))) hx
                clear hx cm0 cm1 fm0 fm1 h0 h1 hbl
                have l1m : v1.heap.size < w1.heap.size := by omega
                have l1x : wr.heap.size < w1.heap.size := by omega
                go_wp2_with fail
                refine (HC.out _).mono ?_
                rintro e w2 ⟨rfl, hx⟩
                have fs2 : w1.heap.size ≤ w2.heap.size := by simpa using hx.size
                obtain ⟨fc, ff⟩ := And.intro hx.cells hx.marks
                have C2m0 : w2.cell? ⟨v1.heap.size, 0, none⟩ = some (Value.int IntKind.i64 mu) := by rw [fc _ _ (by first | omega | (simp; omega) | simp)]; simp [go_sem, *]
                have F2m0 : w2.frozen? ⟨v1.heap.size, 0, none⟩ = false := by rw [ff _ _ (by first | omega | (simp; omega) | simp)]; simp [go_sem, *]
                have C2m1 : w2.cell? ⟨v1.heap.size, 1, none⟩ = some (Value.int IntKind.i64 mv) := by rw [fc _ _ (by first | omega | (simp; omega) | simp)]; simp [go_sem, *]
                have F2m1 : w2.frozen? ⟨v1.heap.size, 1, none⟩ = false := by rw [ff _ _ (by first | omega | (simp; omega) | simp)]; simp [go_sem, *]
                have C2x0 : w2.cell? ⟨wr.heap.size, 0, none⟩ = some (Value.int IntKind.i64 x) := by rw [fc _ _ (by first | omega | (simp; omega) | simp)]; simp [go_sem, *]
                have F2x0 : w2.frozen? ⟨wr.heap.size, 0, none⟩ = false := by rw [ff _ _ (by first | omega | (simp; omega) | simp)]; simp [go_sem, *]
                have C2x1 : w2.cell? ⟨wr.heap.size, 1, none⟩ = some (Value.int IntKind.i64 y) := by rw [fc _ _ (by first | omega | (simp; omega) | simp)]; simp [go_sem, *]
                have F2x1 : w2.frozen? ⟨wr.heap.size, 1, none⟩ = false := by rw [ff _ _ (by first | omega | (simp; omega) | simp)]; simp [go_sem, *]
                clear fc ff
                have X2 : Ext v1 w2 := Ext.trans (by repeat (first | (with_reducible exact Ext.refl _) | (with_reducible assumption) | (with_reducible refine Ext.alloc ?_ _) | (with_reducible refine Ext.drewN ?_ _) | (with_reducible refine Ext.drew ?_) | (with_reducible refine Ext.setCell ?_ (by simp <;> omega) _))) hx
                clear hx X1 C1m0 F1m0 C1m1 F1m1 C1x0 F1x0 C1x1 F1x1
                have l2m : v1.heap.size < w2.heap.size := by omega
                have l2x : wr.heap.size < w2.heap.size := by omega
                go_wp2_with fail
                refine Go.Par.region 13 [] (by kernel_rfl) (by kernel_rfl) (fun _ _ _ _ _ h => h) ?_
                simp only [List.take_succ_cons, List.take_zero]
                repeat (first
                  | (apply step_val; (case hf => rfl); (case hw => (go_simp; done)); (case h => (intro w' hx fc; go_simp; (first | exact rfl | (go_at_call 28; exact HC.out _) | (go_at_call 22; exact HP.out _)))); intro K hK; go_simp; refine hK _ ?_; clear hK K)
                  | (apply Go.Par.step_skip; (case hw => (go_simp; first | done | (intro h; cases h))); intro K hK; go_simp; refine hK _ ?_; clear hK K)
                  | (apply step_make (mk := fun b => Value.pointer (some ⟨b, 0, none⟩)); (case hf => rfl); (case hw => (go_simp; done)); (case h => (intro w' hx; go_simp; exact rfl)); (case hno => kernel_rfl); simp only [List.nil_append, List.cons_append]))
                refine fin_none (fun w3 hx => ?_)
                have fs3 : w2.heap.size ≤ w3.heap.size := by simpa using hx.size
                obtain ⟨fc, ff⟩ := And.intro hx.cells hx.marks
                have C3m0 : w3.cell? ⟨v1.heap.size, 0, none⟩ = some (Value.int IntKind.i64 mu) := by rw [fc _ _ (by first | omega | (simp; omega) | simp)]; simp [go_sem, *]
                have F3m0 : w3.frozen? ⟨v1.heap.size, 0, none⟩ = false := by rw [ff _ _ (by first | omega | (simp; omega) | simp)]; simp [go_sem, *]
                have C3m1 : w3.cell? ⟨v1.heap.size, 1, none⟩ = some (Value.int IntKind.i64 mv) := by rw [fc _ _ (by first | omega | (simp; omega) | simp)]; simp [go_sem, *]
                have F3m1 : w3.frozen? ⟨v1.heap.size, 1, none⟩ = false := by rw [ff _ _ (by first | omega | (simp; omega) | simp)]; simp [go_sem, *]
                have C3x0 : w3.cell? ⟨wr.heap.size, 0, none⟩ = some (Value.int IntKind.i64 x) := by rw [fc _ _ (by first | omega | (simp; omega) | simp)]; simp [go_sem, *]
                have F3x0 : w3.frozen? ⟨wr.heap.size, 0, none⟩ = false := by rw [ff _ _ (by first | omega | (simp; omega) | simp)]; simp [go_sem, *]
                have C3x1 : w3.cell? ⟨wr.heap.size, 1, none⟩ = some (Value.int IntKind.i64 y) := by rw [fc _ _ (by first | omega | (simp; omega) | simp)]; simp [go_sem, *]
                have F3x1 : w3.frozen? ⟨wr.heap.size, 1, none⟩ = false := by rw [ff _ _ (by first | omega | (simp; omega) | simp)]; simp [go_sem, *]
                clear fc ff
                have X3 : Ext v1 w3 := Ext.trans (by repeat (first | (with_reducible exact Ext.refl _) | (with_reducible assumption) | (with_reducible refine Ext.alloc ?_ _) | (with_reducible refine Ext.drewN ?_ _) | (with_reducible refine Ext.drew ?_) | (with_reducible refine Ext.setCell ?_ (by simp <;> omega) _))) hx
                clear hx X2 C2m0 F2m0 C2m1 F2m1 C2x0 F2x0 C2x1 F2x1
                have l3m : v1.heap.size < w3.heap.size := by omega
                have l3x : wr.heap.size < w3.heap.size := by omega
                simp only [List.drop_succ_cons, List.drop_zero]
                go_wp2_with fail
                go_roundw
                case rel =>
                  refine ⟨k + 1, by omega, by go_num, by rw [Ht.out], (by repeat (first | (with_reducible exact Ext.refl _) | (with_reducible assumption) | (with_reducible refine Ext.alloc ?_ _) | (with_reducible refine Ext.drewN ?_ _) | (with_reducible refine Ext.drew ?_) | (with_reducible refine Ext.setCell ?_ (by simp <;> omega) _))), ?_⟩
                  refine ⟨?_, ?_, ?_, ?_, ?_⟩ <;> first | assumption | (simp [go_sem, *]; done) | (simp [go_sem, *]; omega)
                case measure => simp [intOf]; omega
            · have e3 : (mu == px) = false := by simp [e1]
              have Ht := Lib.hid (Ht.out.trans (show (mu == px && mv == py) = false by simp [e1]))
              go_wp2_with fail
              refine (HV.out _).mono ?_
              rintro e w1 ⟨rfl, hx⟩
              have fs1 : wr.heap.size + 1 ≤ w1.heap.size := by simpa using hx.size
              obtain ⟨fc, ff⟩ := And.intro hx.cells hx.marks
              have C1m0 : w1.cell? ⟨v1.heap.size, 0, none⟩ = some (Value.int IntKind.i64 mu) := by rw [fc _ _ (by first | omega | (simp; omega) | simp)]; simp [go_sem, *]
              have F1m0 : w1.frozen? ⟨v1.heap.size, 0, none⟩ = false := by rw [ff _ _ (by first | omega | (simp; omega) | simp)]; simp [go_sem, *]
              have C1m1 : w1.cell? ⟨v1.heap.size, 1, none⟩ = some (Value.int IntKind.i64 mv) := by rw [fc _ _ (by first | omega | (simp; omega) | simp)]; simp [go_sem, *]
              have F1m1 : w1.frozen? ⟨v1.heap.size, 1, none⟩ = false := by rw [ff _ _ (by first | omega | (simp; omega) | simp)]; simp [go_sem, *]
              have C1x0 : w1.cell? ⟨wr.heap.size, 0, none⟩ = some (Value.int IntKind.i64 x) := by rw [fc _ _ (by first | omega | (simp; omega) | simp)]; simp [go_sem, *]
              have F1x0 : w1.frozen? ⟨wr.heap.size, 0, none⟩ = false := by rw [ff _ _ (by first | omega | (simp; omega) | simp)]; simp [go_sem, *]
              have C1x1 : w1.cell? ⟨wr.heap.size, 1, none⟩ = some (Value.int IntKind.i64 y) := by rw [fc _ _ (by first | omega | (simp; omega) | simp)]; simp [go_sem, *]
              have F1x1 : w1.frozen? ⟨wr.heap.size, 1, none⟩ = false := by rw [ff _ _ (by first | omega | (simp; omega) | simp)]; simp [go_sem, *]
              clear fc ff
              have X1 : Ext v1 w1 := Ext.trans (by repeat (first | (with_reducible exact Ext.refl _) | (with_reducible assumption) | (with_reducible refine Ext.alloc ?_ _) | (with_reducible refine Ext.drewN ?_ _) | (with_reducible refine Ext.drew ?_) | (with_reducible refine Ext.setCell ?_ (by simp <;> omega) _))) hx
              clear hx cm0 cm1 fm0 fm1 h0 h1 hbl
              have l1m : v1.heap.size < w1.heap.size := by omega
              have l1x : wr.heap.size < w1.heap.size := by omega
              go_wp2_with fail
              refine (HC.out _).mono ?_
              rintro e w2 ⟨rfl, hx⟩
              have fs2 : w1.heap.size ≤ w2.heap.size := by simpa using hx.size
              obtain ⟨fc, ff⟩ := And.intro hx.cells hx.marks
              have C2m0 : w2.cell? ⟨v1.heap.size, 0, none⟩ = some (Value.int IntKind.i64 mu) := by rw [fc _ _ (by first | omega | (simp; omega) | simp)]; simp [go_sem, *]
              have F2m0 : w2.frozen? ⟨v1.heap.size, 0, none⟩ = false := by rw [ff _ _ (by first | omega | (simp; omega) | simp)]; simp [go_sem, *]
              have C2m1 : w2.cell? ⟨v1.heap.size, 1, none⟩ = some (Value.int IntKind.i64 mv) := by rw [fc _ _ (by first | omega | (simp; omega) | simp)]; simp [go_sem, *]
              have F2m1 : w2.frozen? ⟨v1.heap.size, 1, none⟩ = false := by rw [ff _ _ (by first | omega | (simp; omega) | simp)]; simp [go_sem, *]
              have C2x0 : w2.cell? ⟨wr.heap.size, 0, none⟩ = some (Value.int IntKind.i64 x) := by rw [fc _ _ (by first | omega | (simp; omega) | simp)]; simp [go_sem, *]
              have F2x0 : w2.frozen? ⟨wr.heap.size, 0, none⟩ = false := by rw [ff _ _ (by first | omega | (simp; omega) | simp)]; simp [go_sem, *]
              have C2x1 : w2.cell? ⟨wr.heap.size, 1, none⟩ = some (Value.int IntKind.i64 y) := by rw [fc _ _ (by first | omega | (simp; omega) | simp)]; simp [go_sem, *]
              have F2x1 : w2.frozen? ⟨wr.heap.size, 1, none⟩ = false := by rw [ff _ _ (by first | omega | (simp; omega) | simp)]; simp [go_sem, *]
              clear fc ff
              have X2 : Ext v1 w2 := Ext.trans (by repeat (first | (with_reducible exact Ext.refl _) | (with_reducible assumption) | (with_reducible refine Ext.alloc ?_ _) | (with_reducible refine Ext.drewN ?_ _) | (with_reducible refine Ext.drew ?_) | (with_reducible refine Ext.setCell ?_ (by simp <;> omega) _))) hx
              clear hx X1 C1m0 F1m0 C1m1 F1m1 C1x0 F1x0 C1x1 F1x1
              have l2m : v1.heap.size < w2.heap.size := by omega
              have l2x : wr.heap.size < w2.heap.size := by omega
              go_wp2_with fail
              refine Go.Par.region 13 [] (by kernel_rfl) (by kernel_rfl) (fun _ _ _ _ _ h => h) ?_
              simp only [List.take_succ_cons, List.take_zero]
              repeat (first
                | (apply step_val; (case hf => rfl); (case hw => (go_simp; done)); (case h => (intro w' hx fc; go_simp; (first | exact rfl | (go_at_call 28; exact HC.out _) | (go_at_call 22; exact HP.out _)))); intro K hK; go_simp; refine hK _ ?_; clear hK K)
                | (apply Go.Par.step_skip; (case hw => (go_simp; first | done | (intro h; cases h))); intro K hK; go_simp; refine hK _ ?_; clear hK K)
                | (apply step_make (mk := fun b => Value.pointer (some ⟨b, 0, none⟩)); (case hf => rfl); (case hw => (go_simp; done)); (case h => (intro w' hx; go_simp; exact rfl)); (case hno => kernel_rfl); simp only [List.nil_append, List.cons_append]))
              refine fin_none (fun w3 hx => ?_)
              have fs3 : w2.heap.size ≤ w3.heap.size := by simpa using hx.size
              obtain ⟨fc, ff⟩ := And.intro hx.cells hx.marks
              have C3m0 : w3.cell? ⟨v1.heap.size, 0, none⟩ = some (Value.int IntKind.i64 mu) := by rw [fc _ _ (by first | omega | (simp; omega) | simp)]; simp [go_sem, *]
              have F3m0 : w3.frozen? ⟨v1.heap.size, 0, none⟩ = false := by rw [ff _ _ (by first | omega | (simp; omega) | simp)]; simp [go_sem, *]
              have C3m1 : w3.cell? ⟨v1.heap.size, 1, none⟩ = some (Value.int IntKind.i64 mv) := by rw [fc _ _ (by first | omega | (simp; omega) | simp)]; simp [go_sem, *]
              have F3m1 : w3.frozen? ⟨v1.heap.size, 1, none⟩ = false := by rw [ff _ _ (by first | omega | (simp; omega) | simp)]; simp [go_sem, *]
              have C3x0 : w3.cell? ⟨wr.heap.size, 0, none⟩ = some (Value.int IntKind.i64 x) := by rw [fc _ _ (by first | omega | (simp; omega) | simp)]; simp [go_sem, *]
              have F3x0 : w3.frozen? ⟨wr.heap.size, 0, none⟩ = false := by rw [ff _ _ (by first | omega | (simp; omega) | simp)]; simp [go_sem, *]
              have C3x1 : w3.cell? ⟨wr.heap.size, 1, none⟩ = some (Value.int IntKind.i64 y) := by rw [fc _ _ (by first | omega | (simp; omega) | simp)]; simp [go_sem, *]
              have F3x1 : w3.frozen? ⟨wr.heap.size, 1, none⟩ = false := by rw [ff _ _ (by first | omega | (simp; omega) | simp)]; simp [go_sem, *]
              clear fc ff
              have X3 : Ext v1 w3 := Ext.trans (by repeat (first | (with_reducible exact Ext.refl _) | (with_reducible assumption) | (with_reducible refine Ext.alloc ?_ _) | (with_reducible refine Ext.drewN ?_ _) | (with_reducible refine Ext.drew ?_) | (with_reducible refine Ext.setCell ?_ (by simp <;> omega) _))) hx
              clear hx X2 C2m0 F2m0 C2m1 F2m1 C2x0 F2x0 C2x1 F2x1
              have l3m : v1.heap.size < w3.heap.size := by omega
              have l3x : wr.heap.size < w3.heap.size := by omega
              simp only [List.drop_succ_cons, List.drop_zero]
              go_wp2_with fail
              go_roundw
              case rel =>
                refine ⟨k + 1, by omega, by go_num, by rw [Ht.out], (by repeat (first | (with_reducible exact Ext.refl _) | (with_reducible assumption) | (with_reducible refine Ext.alloc ?_ _) | (with_reducible refine Ext.drewN ?_ _) | (with_reducible refine Ext.drew ?_) | (with_reducible refine Ext.setCell ?_ (by simp <;> omega) _))), ?_⟩
                refine ⟨?_, ?_, ?_, ?_, ?_⟩ <;> first | assumption | (simp [go_sem, *]; done) | (simp [go_sem, *]; omega)
              case measure => simp [intOf]; omega
          · have ht : someL (mu, mv) (L.take (k + 1)) = false := by rw [HT.out]; simp [hz0]
            have Ht := Lib.hid ht
            have hz1 : (cc == 0) = false := by simp [hz0]
            clear ht
            go_wp2_with fail
            refine (HV.out _).mono ?_
            rintro e w1 ⟨rfl, hx⟩
            have fs1 : wr.heap.size + 1 ≤ w1.heap.size := by simpa using hx.size
            obtain ⟨fc, ff⟩ := And.intro hx.cells hx.marks
            have C1m0 : w1.cell? ⟨v1.heap.size, 0, none⟩ = some (Value.int IntKind.i64 mu) := by rw [fc _ _ (by first | omega | (simp; omega) | simp)]; simp [go_sem, *]
            have F1m0 : w1.frozen? ⟨v1.heap.size, 0, none⟩ = false := by rw [ff _ _ (by first | omega | (simp; omega) | simp)]; simp [go_sem, *]
            have C1m1 : w1.cell? ⟨v1.heap.size, 1, none⟩ = some (Value.int IntKind.i64 mv) := by rw [fc _ _ (by first | omega | (simp; omega) | simp)]; simp [go_sem, *]
            have F1m1 : w1.frozen? ⟨v1.heap.size, 1, none⟩ = false := by rw [ff _ _ (by first | omega | (simp; omega) | simp)]; simp [go_sem, *]
            have C1x0 : w1.cell? ⟨wr.heap.size, 0, none⟩ = some (Value.int IntKind.i64 x) := by rw [fc _ _ (by first | omega | (simp; omega) | simp)]; simp [go_sem, *]
            have F1x0 : w1.frozen? ⟨wr.heap.size, 0, none⟩ = false := by rw [ff _ _ (by first | omega | (simp; omega) | simp)]; simp [go_sem, *]
            have C1x1 : w1.cell? ⟨wr.heap.size, 1, none⟩ = some (Value.int IntKind.i64 y) := by rw [fc _ _ (by first | omega | (simp; omega) | simp)]; simp [go_sem, *]
            have F1x1 : w1.frozen? ⟨wr.heap.size, 1, none⟩ = false := by rw [ff _ _ (by first | omega | (simp; omega) | simp)]; simp [go_sem, *]
            clear fc ff
            have X1 : Ext v1 w1 := Ext.trans (by repeat (first | (with_reducible exact Ext.refl _) | (with_reducible assumption) | (with_reducible refine Ext.alloc ?_ _) | (with_reducible refine Ext.drewN ?_ _) | (with_reducible refine Ext.drew ?_) | (with_reducible refine Ext.setCell ?_ (by simp <;> omega) _))) hx
            clear hx cm0 cm1 fm0 fm1 h0 h1 hbl
            have l1m : v1.heap.size < w1.heap.size := by omega
            have l1x : wr.heap.size < w1.heap.size := by omega
            go_wp2_with fail
            refine (HC.out _).mono ?_
            rintro e w2 ⟨rfl, hx⟩
            have fs2 : w1.heap.size ≤ w2.heap.size := by simpa using hx.size
            obtain ⟨fc, ff⟩ := And.intro hx.cells hx.marks
            have C2m0 : w2.cell? ⟨v1.heap.size, 0, none⟩ = some (Value.int IntKind.i64 mu) := by rw [fc _ _ (by first | omega | (simp; omega) | simp)]; simp [go_sem, *]
            have F2m0 : w2.frozen? ⟨v1.heap.size, 0, none⟩ = false := by rw [ff _ _ (by first | omega | (simp; omega) | simp)]; simp [go_sem, *]
            have C2m1 : w2.cell? ⟨v1.heap.size, 1, none⟩ = some (Value.int IntKind.i64 mv) := by rw [fc _ _ (by first | omega | (simp; omega) | simp)]; simp [go_sem, *]
            have F2m1 : w2.frozen? ⟨v1.heap.size, 1, none⟩ = false := by rw [ff _ _ (by first | omega | (simp; omega) | simp)]; simp [go_sem, *]
            have C2x0 : w2.cell? ⟨wr.heap.size, 0, none⟩ = some (Value.int IntKind.i64 x) := by rw [fc _ _ (by first | omega | (simp; omega) | simp)]; simp [go_sem, *]
            have F2x0 : w2.frozen? ⟨wr.heap.size, 0, none⟩ = false := by rw [ff _ _ (by first | omega | (simp; omega) | simp)]; simp [go_sem, *]
            have C2x1 : w2.cell? ⟨wr.heap.size, 1, none⟩ = some (Value.int IntKind.i64 y) := by rw [fc _ _ (by first | omega | (simp; omega) | simp)]; simp [go_sem, *]
            have F2x1 : w2.frozen? ⟨wr.heap.size, 1, none⟩ = false := by rw [ff _ _ (by first | omega | (simp; omega) | simp)]; simp [go_sem, *]
            clear fc ff
            have X2 : Ext v1 w2 := Ext.trans (by repeat (first | (with_reducible exact Ext.refl _) | (with_reducible assumption) | (with_reducible refine Ext.alloc ?_ _) | (with_reducible refine Ext.drewN ?_ _) | (with_reducible refine Ext.drew ?_) | (with_reducible refine Ext.setCell ?_ (by simp <;> omega) _))) hx
            clear hx X1 C1m0 F1m0 C1m1 F1m1 C1x0 F1x0 C1x1 F1x1
            have l2m : v1.heap.size < w2.heap.size := by omega
            have l2x : wr.heap.size < w2.heap.size := by omega
            go_wp2_with fail
            refine Go.Par.region 13 [] (by kernel_rfl) (by kernel_rfl) (fun _ _ _ _ _ h => h) ?_
            simp only [List.take_succ_cons, List.take_zero]
            repeat (first
              | (apply step_val; (case hf => rfl); (case hw => (go_simp; done)); (case h => (intro w' hx fc; go_simp; (first | exact rfl | (go_at_call 28; exact HC.out _) | (go_at_call 22; exact HP.out _)))); intro K hK; go_simp; refine hK _ ?_; clear hK K)
              | (apply Go.Par.step_skip; (case hw => (go_simp; first | done | (intro h; cases h))); intro K hK; go_simp; refine hK _ ?_; clear hK K)
              | (apply step_make (mk := fun b => Value.pointer (some ⟨b, 0, none⟩)); (case hf => rfl); (case hw => (go_simp; done)); (case h => (intro w' hx; go_simp; exact rfl)); (case hno => kernel_rfl); simp only [List.nil_append, List.cons_append]))
            refine fin_none (fun w3 hx => ?_)
            have fs3 : w2.heap.size ≤ w3.heap.size := by simpa using hx.size
            obtain ⟨fc, ff⟩ := And.intro hx.cells hx.marks
            have C3m0 : w3.cell? ⟨v1.heap.size, 0, none⟩ = some (Value.int IntKind.i64 mu) := by rw [fc _ _ (by first | omega | (simp; omega) | simp)]; simp [go_sem, *]
            have F3m0 : w3.frozen? ⟨v1.heap.size, 0, none⟩ = false := by rw [ff _ _ (by first | omega | (simp; omega) | simp)]; simp [go_sem, *]
            have C3m1 : w3.cell? ⟨v1.heap.size, 1, none⟩ = some (Value.int IntKind.i64 mv) := by rw [fc _ _ (by first | omega | (simp; omega) | simp)]; simp [go_sem, *]
            have F3m1 : w3.frozen? ⟨v1.heap.size, 1, none⟩ = false := by rw [ff _ _ (by first | omega | (simp; omega) | simp)]; simp [go_sem, *]
            have C3x0 : w3.cell? ⟨wr.heap.size, 0, none⟩ = some (Value.int IntKind.i64 x) := by rw [fc _ _ (by first | omega | (simp; omega) | simp)]; simp [go_sem, *]
            have F3x0 : w3.frozen? ⟨wr.heap.size, 0, none⟩ = false := by rw [ff _ _ (by first | omega | (simp; omega) | simp)]; simp [go_sem, *]
            have C3x1 : w3.cell? ⟨wr.heap.size, 1, none⟩ = some (Value.int IntKind.i64 y) := by rw [fc _ _ (by first | omega | (simp; omega) | simp)]; simp [go_sem, *]
            have F3x1 : w3.frozen? ⟨wr.heap.size, 1, none⟩ = false := by rw [ff _ _ (by first | omega | (simp; omega) | simp)]; simp [go_sem, *]
            clear fc ff
            have X3 : Ext v1 w3 := Ext.trans (by repeat (first | (with_reducible exact Ext.refl _) | (with_reducible assumption) | (with_reducible refine Ext.alloc ?_ _) | (with_reducible refine Ext.drewN ?_ _) | (with_reducible refine Ext.drew ?_) | (with_reducible refine Ext.setCell ?_ (by simp <;> omega) _))) hx
            clear hx X2 C2m0 F2m0 C2m1 F2m1 C2x0 F2x0 C2x1 F2x1
            have l3m : v1.heap.size < w3.heap.size := by omega
            have l3x : wr.heap.size < w3.heap.size := by omega
            simp only [List.drop_succ_cons, List.drop_zero]
            go_wp2_with fail
            go_roundw
            case rel =>
              refine ⟨k + 1, by omega, by go_num, by rw [Ht.out], (by repeat (first | (with_reducible exact Ext.refl _) | (with_reducible assumption) | (with_reducible refine Ext.alloc ?_ _) | (with_reducible refine Ext.drewN ?_ _) | (with_reducible refine Ext.drew ?_) | (with_reducible refine Ext.setCell ?_ (by simp <;> omega) _))), ?_⟩
              refine ⟨?_, ?_, ?_, ?_, ?_⟩ <;> first | assumption | (simp [go_sem, *]; done) | (simp [go_sem, *]; omega)
            case measure => simp [intOf]; omega
    · have hfull : L.take k = L := List.take_of_length_le (by rw [HS1.out.1]; omega)
      rw [hfull]
      have hs := Hsome.out
      clear hfull
      generalize someL (mu, mv) L = acc at *
      cases acc with
      | true =>
        have HGr := Lib.hid (HG.out.ext (hx.trans hF))
        have hX := hx.trans hF
        go_wp2_with fail
        refine (HA.out _ (HGr.out.ext (by repeat (first | (with_reducible exact Ext.refl _) | (with_reducible assumption) | (with_reducible refine Ext.alloc ?_ _) | (with_reducible refine Ext.drewN ?_ _) | (with_reducible refine Ext.drew ?_) | (with_reducible refine Ext.setCell ?_ (by simp <;> omega) _))))).mono ?_
        rintro e w1 ⟨rfl, hx⟩
        have fs1 : wr.heap.size ≤ w1.heap.size := by simpa using hx.size
        obtain ⟨fc, ff⟩ := And.intro hx.cells hx.marks
        have C1m0 : w1.cell? ⟨v1.heap.size, 0, none⟩ = some (Value.int IntKind.i64 mu) := by rw [fc _ _ (by first | omega | (simp; omega) | simp)]; simp [go_sem, *]
        have F1m0 : w1.frozen? ⟨v1.heap.size, 0, none⟩ = false := by rw [ff _ _ (by first | omega | (simp; omega) | simp)]; simp [go_sem, *]
        have C1m1 : w1.cell? ⟨v1.heap.size, 1, none⟩ = some (Value.int IntKind.i64 mv) := by rw [fc _ _ (by first | omega | (simp; omega) | simp)]; simp [go_sem, *]
        have F1m1 : w1.frozen? ⟨v1.heap.size, 1, none⟩ = false := by rw [ff _ _ (by first | omega | (simp; omega) | simp)]; simp [go_sem, *]
        clear fc ff
        have X1 : Ext v1 w1 := Ext.trans (by repeat (first | (with_reducible exact Ext.refl _) | (with_reducible assumption) | (with_reducible refine Ext.alloc ?_ _) | (with_reducible refine Ext.drewN ?_ _) | (with_reducible refine Ext.drew ?_) | (with_reducible refine Ext.setCell ?_ (by simp <;> omega) _))) hx
        clear hx hF cm0 cm1 fm0 fm1
        have l1m : v1.heap.size < w1.heap.size := by omega
        go_wp2_with fail
        refine (HVm.out _).mono ?_
        rintro e w2 ⟨rfl, hx⟩
        have fs2 : w1.heap.size ≤ w2.heap.size := by simpa using hx.size
        obtain ⟨fc, ff⟩ := And.intro hx.cells hx.marks
        have C2m0 : w2.cell? ⟨v1.heap.size, 0, none⟩ = some (Value.int IntKind.i64 mu) := by rw [fc _ _ (by first | omega | (simp; omega) | simp)]; simp [go_sem, *]
        have F2m0 : w2.frozen? ⟨v1.heap.size, 0, none⟩ = false := by rw [ff _ _ (by first | omega | (simp; omega) | simp)]; simp [go_sem, *]
        have C2m1 : w2.cell? ⟨v1.heap.size, 1, none⟩ = some (Value.int IntKind.i64 mv) := by rw [fc _ _ (by first | omega | (simp; omega) | simp)]; simp [go_sem, *]
        have F2m1 : w2.frozen? ⟨v1.heap.size, 1, none⟩ = false := by rw [ff _ _ (by first | omega | (simp; omega) | simp)]; simp [go_sem, *]
        clear fc ff
        have X2 : Ext v1 w2 := Ext.trans (by repeat (first | (with_reducible exact Ext.refl _) | (with_reducible assumption) | (with_reducible refine Ext.alloc ?_ _) | (with_reducible refine Ext.drewN ?_ _) | (with_reducible refine Ext.drew ?_) | (with_reducible refine Ext.setCell ?_ (by simp <;> omega) _))) hx
        clear hx X1 C1m0 F1m0 C1m1 F1m1
        have l2m : v1.heap.size < w2.heap.size := by omega
        go_wp2_with fail
        go_ret
        exact ⟨rfl, hx.trans (by repeat (first | (with_reducible exact Ext.refl _) | (with_reducible assumption) | (with_reducible refine Ext.alloc ?_ _) | (with_reducible refine Ext.drewN ?_ _) | (with_reducible refine Ext.drew ?_) | (with_reducible refine Ext.setCell ?_ (by simp <;> omega) _)))⟩
      | false =>
        obtain ⟨rfl, rfl⟩ : mu = 0 ∧ mv = 1 := by simpa using hs
        clear hs
        have HGr := Lib.hid (HG.out.ext (hx.trans hF))
        have hX := hx.trans hF
        go_wp2_with fail
        refine (HA.out _ (HGr.out.ext (by repeat (first | (with_reducible exact Ext.refl _) | (with_reducible assumption) | (with_reducible refine Ext.alloc ?_ _) | (with_reducible refine Ext.drewN ?_ _) | (with_reducible refine Ext.drew ?_) | (with_reducible refine Ext.setCell ?_ (by simp <;> omega) _))))).mono ?_
        rintro e w1 ⟨rfl, hx⟩
        have fs1 : wr.heap.size ≤ w1.heap.size := by simpa using hx.size
        obtain ⟨fc, ff⟩ := And.intro hx.cells hx.marks
        have C1m0 : w1.cell? ⟨v1.heap.size, 0, none⟩ = some (Value.int IntKind.i64 0) := by rw [fc _ _ (by first | omega | (simp; omega) | simp)]; simp [go_sem, *]
        have F1m0 : w1.frozen? ⟨v1.heap.size, 0, none⟩ = false := by rw [ff _ _ (by first | omega | (simp; omega) | simp)]; simp [go_sem, *]
        have C1m1 : w1.cell? ⟨v1.heap.size, 1, none⟩ = some (Value.int IntKind.i64 1) := by rw [fc _ _ (by first | omega | (simp; omega) | simp)]; simp [go_sem, *]
        have F1m1 : w1.frozen? ⟨v1.heap.size, 1, none⟩ = false := by rw [ff _ _ (by first | omega | (simp; omega) | simp)]; simp [go_sem, *]
        clear fc ff
        have X1 : Ext v1 w1 := Ext.trans (by repeat (first | (with_reducible exact Ext.refl _) | (with_reducible assumption) | (with_reducible refine Ext.alloc ?_ _) | (with_reducible refine Ext.drewN ?_ _) | (with_reducible refine Ext.drew ?_) | (with_reducible refine Ext.setCell ?_ (by simp <;> omega) _))) hx
        clear hx hF cm0 cm1 fm0 fm1
        have l1m : v1.heap.size < w1.heap.size := by omega
        go_wp2_with fail
        refine (HVm.out _).mono ?_
        rintro e w2 ⟨rfl, hx⟩
        have fs2 : w1.heap.size ≤ w2.heap.size := by simpa using hx.size
        obtain ⟨fc, ff⟩ := And.intro hx.cells hx.marks
        have C2m0 : w2.cell? ⟨v1.heap.size, 0, none⟩ = some (Value.int IntKind.i64 0) := by rw [fc _ _ (by first | omega | (simp; omega) | simp)]; simp [go_sem, *]
        have F2m0 : w2.frozen? ⟨v1.heap.size, 0, none⟩ = false := by rw [ff _ _ (by first | omega | (simp; omega) | simp)]; simp [go_sem, *]
        have C2m1 : w2.cell? ⟨v1.heap.size, 1, none⟩ = some (Value.int IntKind.i64 1) := by rw [fc _ _ (by first | omega | (simp; omega) | simp)]; simp [go_sem, *]
        have F2m1 : w2.frozen? ⟨v1.heap.size, 1, none⟩ = false := by rw [ff _ _ (by first | omega | (simp; omega) | simp)]; simp [go_sem, *]
        clear fc ff
        have X2 : Ext v1 w2 := Ext.trans (by repeat (first | (with_reducible exact Ext.refl _) | (with_reducible assumption) | (with_reducible refine Ext.alloc ?_ _) | (with_reducible refine Ext.drewN ?_ _) | (with_reducible refine Ext.drew ?_) | (with_reducible refine Ext.setCell ?_ (by simp <;> omega) _))) hx
        clear hx X1 C1m0 F1m0 C1m1 F1m1
        have l2m : v1.heap.size < w2.heap.size := by omega
        go_wp2_with fail
        go_ret
        exact ⟨rfl, hx.trans (by repeat (first | (with_reducible exact Ext.refl _) | (with_reducible assumption) | (with_reducible refine Ext.alloc ?_ _) | (with_reducible refine Ext.drewN ?_ _) | (with_reducible refine Ext.drew ?_) | (with_reducible refine Ext.setCell ?_ (by simp <;> omega) _)))⟩


set_option maxRecDepth 100000 in
set_option maxHeartbeats 4000000 in
theorem lmax_long (A : Option Addr) (n c : Nat) (L : List (Int × Int)) (w : World) (G : Globs w) (hn : 20 < n) (hn2 : n ≤ maxLen) (hc : n ≤ c) (hc2 : c ≤ maxLen) (h : RSl w A n L) (mu mv : Int) (im : InI mu) (jm : InI mv) (vm : validB mu mv = true)
    (hM : ∀ W : World, RSl W A 20 (L.take 20) → Calls Tryd.prog 30 #[.slice A 20 c] W fun e w' => e = .returned (.agg #[.int .i64 mu, .int .i64 mv]) ∧ Ext W w')
    (hle : ∀ r ∈ (L.take 20), validB r.1 r.2 = true → cmpP r.1 r.2 mu mv ≤ 0) (hsome : someL (mu, mv) (L.take 20) = true ∨ (mu = 0 ∧ mv = 1)) :
    Calls Tryd.prog 12 #[.slice A n c] w fun e w' => e = .returned (.bool true) ∧ Ext w w' := by
  unfold maxLen at *
  have HA := Lib.hid (fun W (G : Globs W) => awake_any W G)
  have HG := Lib.hid G
  have HM := Lib.hid hM
  have HVm := Lib.hid (valid_ext mu mv im jm)
  rw [vm] at HVm
  have Hle := Lib.hid hle
  have Hsome := Lib.hid hsome
  have Hvm := Lib.hid vm
  obtain ⟨a, -, -, rfl, -⟩ := h.2 0 (by omega)
  have h20 : RSl w (some a) 20 (L.take 20) := by
    refine ⟨by rw [List.length_take, h.1]; omega, fun i hi => ?_⟩
    obtain ⟨a', x, y, e, e2, r⟩ := h.2 i (by omega)
    exact ⟨a', x, y, e, by rw [List.getElem?_take, if_pos hi]; exact e2, r⟩
  have HS := Lib.hid h20
  clear h h20
  generalize L.take 20 = L at *
  have hz : ((n : Int) > 20) = True := by simp; omega
  have hc20 : (20 : Int) ≤ c := by omega
  clear hM G hle hsome vm
  have X0 : Ext w w := Ext.refl w
  go_enter Tryd.func12, Tryd.ntmps12
  go_wp2_with fail
  refine (HM.out _ HS.out).mono ?_
  rintro e v1 ⟨rfl, hx⟩
  have HS1 := Lib.hid (HS.out.ext hx)
  have hws := hx.size
  go_wp2_with fail
  go_loopw [4, 16] (fun s i W => ∃ k : Nat, k ≤ 20 ∧ i = .int .i64 k ∧ s = .bool (someL (mu, mv) (L.take k)) ∧ Ext v1 W ∧ W.cell? ⟨v1.heap.size, 0, none⟩ = some (.int .i64 mu) ∧ W.cell? ⟨v1.heap.size, 1, none⟩ = some (.int .i64 mv) ∧ W.frozen? ⟨v1.heap.size, 0, none⟩ = false ∧ W.frozen? ⟨v1.heap.size, 1, none⟩ = false ∧ v1.heap.size < W.heap.size) (fun _ i _ => 20 - (intOf i).toNat)
  case atStart =>
    refine ⟨0, Nat.zero_le _, rfl, rfl, (Ext.refl v1).alloc _, ?_⟩
    refine ⟨?_, ?_, ?_, ?_, ?_⟩ <;> simp [go_sem]
  case round =>
    obtain ⟨k, hk, rfl, rfl, hF, cm0, cm1, fm0, fm1, lm⟩ := hrel
    by_cases hlt : k < 20
    · obtain ⟨a', x, y, ea, hL, hbl, h0, h1, ix, iy⟩ := (HS1.out.ext hF).2 k hlt
      obtain rfl : a = a' := Option.some.inj ea
      have htake : someL (mu, mv) (L.take (k + 1)) = (someL (mu, mv) (L.take k) || hit (mu, mv) (x, y)) := by
        rw [List.take_add_one, hL]; simp [someL]
      have hmem : (x, y) ∈ L := List.mem_of_getElem? hL
      have HT := Lib.hid htake
      have Hmem := Lib.hid hmem
      clear hL htake hmem
      generalize someL (mu, mv) (L.take k) = acc at *
      have HV := Lib.hid (valid_ext x y ix iy)
      have HP := Lib.hid (fun W : World => plain_any x y W)
      cases vx : validB x y with
      | false =>
        rw [vx] at HV
        have ht : someL (mu, mv) (L.take (k + 1)) = acc := by rw [HT.out, hit, vx]; simp
        have Ht := Lib.hid ht
        clear ht vx
        go_wp2_with fail
        refine (HV.out _).mono ?_
        rintro e w1 ⟨rfl, hx⟩
        have fs1 : wr.heap.size + 1 ≤ w1.heap.size := by simpa using hx.size
        obtain ⟨fc, ff⟩ := And.intro hx.cells hx.marks
        have C1m0 : w1.cell? ⟨v1.heap.size, 0, none⟩ = some (Value.int IntKind.i64 mu) := by rw [fc _ _ (by first | omega | (simp; omega) | simp)]; simp [go_sem, *]
        have F1m0 : w1.frozen? ⟨v1.heap.size, 0, none⟩ = false := by rw [ff _ _ (by first | omega | (simp; omega) | simp)]; simp [go_sem, *]
        have C1m1 : w1.cell? ⟨v1.heap.size, 1, none⟩ = some (Value.int IntKind.i64 mv) := by rw [fc _ _ (by first | omega | (simp; omega) | simp)]; simp [go_sem, *]
        have F1m1 : w1.frozen? ⟨v1.heap.size, 1, none⟩ = false := by rw [ff _ _ (by first | omega | (simp; omega) | simp)]; simp [go_sem, *]
        have C1x0 : w1.cell? ⟨wr.heap.size, 0, none⟩ = some (Value.int IntKind.i64 x) := by rw [fc _ _ (by first | omega | (simp; omega) | simp)]; simp [go_sem, *]
        have F1x0 : w1.frozen? ⟨wr.heap.size, 0, none⟩ = false := by rw [ff _ _ (by first | omega | (simp; omega) | simp)]; simp [go_sem, *]
        have C1x1 : w1.cell? ⟨wr.heap.size, 1, none⟩ = some (Value.int IntKind.i64 y) := by rw [fc _ _ (by first | omega | (simp; omega) | simp)]; simp [go_sem, *]
        have F1x1 : w1.frozen? ⟨wr.heap.size, 1, none⟩ = false := by rw [ff _ _ (by first | omega | (simp; omega) | simp)]; simp [go_sem, *]
        clear fc ff
        have X1 : Ext v1 w1 := Ext.trans (by repeat (first | (with_reducible exact Ext.refl _) | (with_reducible assumption) | (with_reducible refine Ext.alloc ?_ _) | (with_reducible refine Ext.drewN ?_ _) | (with_reducible refine Ext.drew ?_) | (with_reducible refine Ext.setCell ?_ (by simp <;> omega) _))) hx
        clear hx cm0 cm1 fm0 fm1 h0 h1 hbl
        have l1m : v1.heap.size < w1.heap.size := by omega
        have l1x : wr.heap.size < w1.heap.size := by omega
        go_wp2_with fail
        go_roundw
        case rel =>
          refine ⟨k + 1, by omega, by go_num, by rw [Ht.out], (by repeat (first | (with_reducible exact Ext.refl _) | (with_reducible assumption) | (with_reducible refine Ext.alloc ?_ _) | (with_reducible refine Ext.drewN ?_ _) | (with_reducible refine Ext.drew ?_) | (with_reducible refine Ext.setCell ?_ (by simp <;> omega) _))), ?_⟩
          refine ⟨?_, ?_, ?_, ?_, ?_⟩ <;> first | assumption | (simp [go_sem, *]; done) | (simp [go_sem, *]; omega)
        case measure => simp [intOf]; omega
      | true =>
        rw [vx] at HV
        have HC := Lib.hid (fun W : World => cmp_ext x y mu mv vx Hvm.out ix iy im jm W)
        have hcle : cmpP x y mu mv ≤ 0 := Hle.out (x, y) Hmem.out vx
        have hcg : ¬ 0 < cmpP x y mu mv := by omega
        have hh : hit (mu, mv) (x, y) = (decide (cmpP x y mu mv = 0) && decide ((mu, mv) = plainP x y)) := by simp [hit, vx]
        rw [hh] at HT
        clear hh vx hcle
        generalize cmpP x y mu mv = cc at *
        cases acc with
        | true =>
          have ht : someL (mu, mv) (L.take (k + 1)) = true := by rw [HT.out]; rfl
          have Ht := Lib.hid ht
          clear ht
          go_wp2_with fail
          refine (HV.out _).mono ?_
          rintro e w1 ⟨rfl, hx⟩
          have fs1 : wr.heap.size + 1 ≤ w1.heap.size := by simpa using hx.size
          obtain ⟨fc, ff⟩ := And.intro hx.cells hx.marks
          have C1m0 : w1.cell? ⟨v1.heap.size, 0, none⟩ = some (Value.int IntKind.i64 mu) := by rw [fc _ _ (by first | omega | (simp; omega) | simp)]; simp [go_sem, *]
          have F1m0 : w1.frozen? ⟨v1.heap.size, 0, none⟩ = false := by rw [ff _ _ (by first | omega | (simp; omega) | simp)]; simp [go_sem, *]
          have C1m1 : w1.cell? ⟨v1.heap.size, 1, none⟩ = some (Value.int IntKind.i64 mv) := by rw [fc _ _ (by first | omega | (simp; omega) | simp)]; simp [go_sem, *]
          have F1m1 : w1.frozen? ⟨v1.heap.size, 1, none⟩ = false := by rw [ff _ _ (by first | omega | (simp; omega) | simp)]; simp [go_sem, *]
          have C1x0 : w1.cell? ⟨wr.heap.size, 0, none⟩ = some (Value.int IntKind.i64 x) := by rw [fc _ _ (by first | omega | (simp; omega) | simp)]; simp [go_sem, *]
          have F1x0 : w1.frozen? ⟨wr.heap.size, 0, none⟩ = false := by rw [ff _ _ (by first | omega | (simp; omega) | simp)]; simp [go_sem, *]
          have C1x1 : w1.cell? ⟨wr.heap.size, 1, none⟩ = some (Value.int IntKind.i64 y) := by rw [fc _ _ (by first | omega | (simp; omega) | simp)]; simp [go_sem, *]
          have F1x1 : w1.frozen? ⟨wr.heap.size, 1, none⟩ = false := by rw [ff _ _ (by first | omega | (simp; omega) | simp)]; simp [go_sem, *]
          clear fc ff
          have X1 : Ext v1 w1 := Ext.trans (by repeat (first | (with_reducible exact Ext.refl _) | (with_reducible assumption) | (with_reducible refine Ext.alloc ?_ _) | (with_reducible refine Ext.drewN ?_ _) | (with_reducible refine Ext.drew ?_) | (with_reducible refine Ext.setCell ?_ (by simp <;> omega) _))) hx
          clear hx cm0 cm1 fm0 fm1 h0 h1 hbl
          have l1m : v1.heap.size < w1.heap.size := by omega
          have l1x : wr.heap.size < w1.heap.size := by omega
          go_wp2_with fail
          refine (HC.out _).mono ?_
          rintro e w2 ⟨rfl, hx⟩
          have fs2 : w1.heap.size ≤ w2.heap.size := by simpa using hx.size
          obtain ⟨fc, ff⟩ := And.intro hx.cells hx.marks
          have C2m0 : w2.cell? ⟨v1.heap.size, 0, none⟩ = some (Value.int IntKind.i64 mu) := by rw [fc _ _ (by first | omega | (simp; omega) | simp)]; simp [go_sem, *]
          have F2m0 : w2.frozen? ⟨v1.heap.size, 0, none⟩ = false := by rw [ff _ _ (by first | omega | (simp; omega) | simp)]; simp [go_sem, *]
          have C2m1 : w2.cell? ⟨v1.heap.size, 1, none⟩ = some (Value.int IntKind.i64 mv) := by rw [fc _ _ (by first | omega | (simp; omega) | simp)]; simp [go_sem, *]
          have F2m1 : w2.frozen? ⟨v1.heap.size, 1, none⟩ = false := by rw [ff _ _ (by first | omega | (simp; omega) | simp)]; simp [go_sem, *]
          have C2x0 : w2.cell? ⟨wr.heap.size, 0, none⟩ = some (Value.int IntKind.i64 x) := by rw [fc _ _ (by first | omega | (simp; omega) | simp)]; simp [go_sem, *]
          have F2x0 : w2.frozen? ⟨wr.heap.size, 0, none⟩ = false := by rw [ff _ _ (by first | omega | (simp; omega) | simp)]; simp [go_sem, *]
          have C2x1 : w2.cell? ⟨wr.heap.size, 1, none⟩ = some (Value.int IntKind.i64 y) := by rw [fc _ _ (by first | omega | (simp; omega) | simp)]; simp [go_sem, *]
          have F2x1 : w2.frozen? ⟨wr.heap.size, 1, none⟩ = false := by rw [ff _ _ (by first | omega | (simp; omega) | simp)]; simp [go_sem, *]
          clear fc ff
          have X2 : Ext v1 w2 := Ext.trans (by repeat (first | (with_reducible exact Ext.refl _) | (with_reducible assumption) | (with_reducible refine Ext.alloc ?_ _) | (with_reducible refine Ext.drewN ?_ _) | (with_reducible refine Ext.drew ?_) | (with_reducible refine Ext.setCell ?_ (by simp <;> omega) _))) hx
          clear hx X1 C1m0 F1m0 C1m1 F1m1 C1x0 F1x0 C1x1 F1x1
          have l2m : v1.heap.size < w2.heap.size := by omega
          have l2x : wr.heap.size < w2.heap.size := by omega
          go_wp2_with fail
          refine Go.Par.region 13 [] (by kernel_rfl) (by kernel_rfl) (fun _ _ _ _ _ h => h) ?_
          simp only [List.take_succ_cons, List.take_zero]
          repeat (first
            | (apply step_val; (case hf => rfl); (case hw => (go_simp; done)); (case h => (intro w' hx fc; go_simp; (first | exact rfl | (go_at_call 28; exact HC.out _) | (go_at_call 22; exact HP.out _)))); intro K hK; go_simp; refine hK _ ?_; clear hK K)
            | (apply Go.Par.step_skip; (case hw => (go_simp; first | done | (intro h; cases h))); intro K hK; go_simp; refine hK _ ?_; clear hK K)
            | (apply step_make (mk := fun b => Value.pointer (some ⟨b, 0, none⟩)); (case hf => rfl); (case hw => (go_simp; done)); (case h => (intro w' hx; go_simp; exact rfl)); (case hno => kernel_rfl); simp only [List.nil_append, List.cons_append]))
          refine fin_none (fun w3 hx => ?_)
          have fs3 : w2.heap.size ≤ w3.heap.size := by simpa using hx.size
          obtain ⟨fc, ff⟩ := And.intro hx.cells hx.marks
          have C3m0 : w3.cell? ⟨v1.heap.size, 0, none⟩ = some (Value.int IntKind.i64 mu) := by rw [fc _ _ (by first | omega | (simp; omega) | simp)]; simp [go_sem, *]
          have F3m0 : w3.frozen? ⟨v1.heap.size, 0, none⟩ = false := by rw [ff _ _ (by first | omega | (simp; omega) | simp)]; simp [go_sem, *]
          have C3m1 : w3.cell? ⟨v1.heap.size, 1, none⟩ = some (Value.int IntKind.i64 mv) := by rw [fc _ _ (by first | omega | (simp; omega) | simp)]; simp [go_sem, *]
          have F3m1 : w3.frozen? ⟨v1.heap.size, 1, none⟩ = false := by rw [ff _ _ (by first | omega | (simp; omega) | simp)]; simp [go_sem, *]
          have C3x0 : w3.cell? ⟨wr.heap.size, 0, none⟩ = some (Value.int IntKind.i64 x) := by rw [fc _ _ (by first | omega | (simp; omega) | simp)]; simp [go_sem, *]
          have F3x0 : w3.frozen? ⟨wr.heap.size, 0, none⟩ = false := by rw [ff _ _ (by first | omega | (simp; omega) | simp)]; simp [go_sem, *]
          have C3x1 : w3.cell? ⟨wr.heap.size, 1, none⟩ = some (Value.int IntKind.i64 y) := by rw [fc _ _ (by first | omega | (simp; omega) | simp)]; simp [go_sem, *]
          have F3x1 : w3.frozen? ⟨wr.heap.size, 1, none⟩ = false := by rw [ff _ _ (by first | omega | (simp; omega) | simp)]; simp [go_sem, *]
          clear fc ff
          have X3 : Ext v1 w3 := Ext.trans (by repeat (first | (with_reducible exact Ext.refl _) | (with_reducible assumption) | (with_reducible refine Ext.alloc ?_ _) | (with_reducible refine Ext.drewN ?_ _) | (with_reducible refine Ext.drew ?_) | (with_reducible refine Ext.setCell ?_ (by simp <;> omega) _))) hx
          clear hx X2 C2m0 F2m0 C2m1 F2m1 C2x0 F2x0 C2x1 F2x1
          have l3m : v1.heap.size < w3.heap.size := by omega
          have l3x : wr.heap.size < w3.heap.size := by omega
          simp only [List.drop_succ_cons, List.drop_zero]
          go_wp2_with fail
          go_roundw
          case rel =>
            refine ⟨k + 1, by omega, by go_num, by rw [Ht.out], (by repeat (first | (with_reducible exact Ext.refl _) | (with_reducible assumption) | (with_reducible refine Ext.alloc ?_ _) | (with_reducible refine Ext.drewN ?_ _) | (with_reducible refine Ext.drew ?_) | (with_reducible refine Ext.setCell ?_ (by simp <;> omega) _))), ?_⟩
            refine ⟨?_, ?_, ?_, ?_, ?_⟩ <;> first | assumption | (simp [go_sem, *]; done) | (simp [go_sem, *]; omega)
          case measure => simp [intOf]; omega
        | false =>
          by_cases hz0 : cc = 0
          · subst hz0
            have ht : someL (mu, mv) (L.take (k + 1)) = (mu == (if y = 0 then 0 else x) && mv == (if y = 0 then 1 else y)) := by
              rw [HT.out]
              unfold plainP
              rw [Bool.eq_iff_iff]
              simp
            have Ht := Lib.hid ht
            clear ht
            generalize (if y = 0 then 0 else x) = px at *
            generalize (if y = 0 then 1 else y) = py at *
            by_cases e1 : mu = px
            · by_cases e2 : mv = py
              · subst e1 e2
                have Ht := Lib.hid (Ht.out.trans (show (mu == mu && mv == mv) = true by simp))
                go_wp2_with fail
                refine (HV.out _).mono ?_
                rintro e w1 ⟨rfl, hx⟩
                have fs1 : wr.heap.size + 1 ≤ w1.heap.size := by simpa using hx.size
                obtain ⟨fc, ff⟩ := And.intro hx.cells hx.marks
                have C1m0 : w1.cell? ⟨v1.heap.size, 0, none⟩ = some (Value.int IntKind.i64 mu) := by rw [fc _ _ (by first | omega | (simp; omega) | simp)]; simp [go_sem, *]
                have F1m0 : w1.frozen? ⟨v1.heap.size, 0, none⟩ = false := by rw [ff _ _ (by first | omega | (simp; omega) | simp)]; simp [go_sem, *]
                have C1m1 : w1.cell? ⟨v1.heap.size, 1, none⟩ = some (Value.int IntKind.i64 mv) := by rw [fc _ _ (by first | omega | (simp; omega) | simp)]; simp [go_sem, *]
                have F1m1 : w1.frozen? ⟨v1.heap.size, 1, none⟩ = false := by rw [ff _ _ (by first | omega | (simp; omega) | simp)]; simp [go_sem, *]
                have C1x0 : w1.cell? ⟨wr.heap.size, 0, none⟩ = some (Value.int IntKind.i64 x) := by rw [fc _ _ (by first | omega | (simp; omega) | simp)]; simp [go_sem, *]
                have F1x0 : w1.frozen? ⟨wr.heap.size, 0, none⟩ = false := by rw [ff _ _ (by first | omega | (simp; omega) | simp)]; simp [go_sem, *]
                have C1x1 : w1.cell? ⟨wr.heap.size, 1, none⟩ = some (Value.int IntKind.i64 y) := by rw [fc _ _ (by first | omega | (simp; omega) | simp)]; simp [go_sem, *]
                have F1x1 : w1.frozen? ⟨wr.heap.size, 1, none⟩ = false := by rw [ff _ _ (by first | omega | (simp; omega) | simp)]; simp [go_sem, *]
                clear fc ff
                have X1 : Ext v1 w1 := Ext.trans (by repeat (first | (with_reducible exact Ext.refl _) | (with_reducible assumption) | (with_reducible refine Ext.alloc ?_ _) | (with_reducible refine Ext.drewN ?_ _) | (with_reducible refine Ext.drew ?_) | (with_reducible refine Ext.setCell ?_ (by simp <;> omega) _))) hx
                clear hx cm0 cm1 fm0 fm1 h0 h1 hbl
                have l1m : v1.heap.size < w1.heap.size := by omega
                have l1x : wr.heap.size < w1.heap.size := by omega
                go_wp2_with fail
                refine (HC.out _).mono ?_
                rintro e w2 ⟨rfl, hx⟩
                have fs2 : w1.heap.size ≤ w2.heap.size := by simpa using hx.size
                obtain ⟨fc, ff⟩ := And.intro hx.cells hx.marks
                have C2m0 : w2.cell? ⟨v1.heap.size, 0, none⟩ = some (Value.int IntKind.i64 mu) := by rw [fc _ _ (by first | omega | (simp; omega) | simp)]; simp [go_sem, *]
                have F2m0 : w2.frozen? ⟨v1.heap.size, 0, none⟩ = false := by rw [ff _ _ (by first | omega | (simp; omega) | simp)]; simp [go_sem, *]
                have C2m1 : w2.cell? ⟨v1.heap.size, 1, none⟩ = some (Value.int IntKind.i64 mv) := by rw [fc _ _ (by first | omega | (simp; omega) | simp)]; simp [go_sem, *]
                have F2m1 : w2.frozen? ⟨v1.heap.size, 1, none⟩ = false := by rw [ff _ _ (by first | omega | (simp; omega) | simp)]; simp [go_sem, *]
                have C2x0 : w2.cell? ⟨wr.heap.size, 0, none⟩ = some (Value.int IntKind.i64 x) := by rw [fc _ _ (by first | omega | (simp; omega) | simp)]; simp [go_sem, *]
                have F2x0 : w2.frozen? ⟨wr.heap.size, 0, none⟩ = false := by rw [ff _ _ (by first | omega | (simp; omega) | simp)]; simp [go_sem, *]
                have C2x1 : w2.cell? ⟨wr.heap.size, 1, none⟩ = some (Value.int IntKind.i64 y) := by rw [fc _ _ (by first | omega | (simp; omega) | simp)]; simp [go_sem, *]
                have F2x1 : w2.frozen? ⟨wr.heap.size, 1, none⟩ = false := by rw [ff _ _ (by first | omega | (simp; omega) | simp)]; simp [go_sem, *]
                clear fc ff
                have X2 : Ext v1 w2 := Ext.trans (by repeat (first | (with_reducible exact Ext.refl _) | (with_reducible assumption) | (with_reducible refine Ext.alloc ?_ _) | (with_reducible refine Ext.drewN ?_ _) | (with_reducible refine Ext.drew ?_) | (with_reducible refine Ext.setCell ?_ (by simp <;> omega) _))) hx
                clear hx X1 C1m0 F1m0 C1m1 F1m1 C1x0 F1x0 C1x1 F1x1
                have l2m : v1.heap.size < w2.heap.size := by omega
                have l2x : wr.heap.size < w2.heap.size := by omega
                go_wp2_with fail
                refine Go.Par.region 13 [] (by kernel_rfl) (by kernel_rfl) (fun _ _ _ _ _ h => h) ?_
                simp only [List.take_succ_cons, List.take_zero]
                repeat (first
                  | (apply step_val; (case hf => rfl); (case hw => (go_simp; done)); (case h => (intro w' hx fc; go_simp; (first | exact rfl | (go_at_call 28; exact HC.out _) | (go_at_call 22; exact HP.out _)))); intro K hK; go_simp; refine hK _ ?_; clear hK K)
                  | (apply Go.Par.step_skip; (case hw => (go_simp; first | done | (intro h; cases h))); intro K hK; go_simp; refine hK _ ?_; clear hK K)
                  | (apply step_make (mk := fun b => Value.pointer (some ⟨b, 0, none⟩)); (case hf => rfl); (case hw => (go_simp; done)); (case h => (intro w' hx; go_simp; exact rfl)); (case hno => kernel_rfl); simp only [List.nil_append, List.cons_append]))
                refine fin_none (fun w3 hx => ?_)
                have fs3 : w2.heap.size ≤ w3.heap.size := by simpa using hx.size
                obtain ⟨fc, ff⟩ := And.intro hx.cells hx.marks
                have C3m0 : w3.cell? ⟨v1.heap.size, 0, none⟩ = some (Value.int IntKind.i64 mu) := by rw [fc _ _ (by first | omega | (simp; omega) | simp)]; simp [go_sem, *]
                have F3m0 : w3.frozen? ⟨v1.heap.size, 0, none⟩ = false := by rw [ff _ _ (by first | omega | (simp; omega) | simp)]; simp [go_sem, *]
                have C3m1 : w3.cell? ⟨v1.heap.size, 1, none⟩ = some (Value.int IntKind.i64 mv) := by rw [fc _ _ (by first | omega | (simp; omega) | simp)]; simp [go_sem, *]
                have F3m1 : w3.frozen? ⟨v1.heap.size, 1, none⟩ = false := by rw [ff _ _ (by first | omega | (simp; omega) | simp)]; simp [go_sem, *]
                have C3x0 : w3.cell? ⟨wr.heap.size, 0, none⟩ = some (Value.int IntKind.i64 x) := by rw [fc _ _ (by first | omega | (simp; omega) | simp)]; simp [go_sem, *]
                have F3x0 : w3.frozen? ⟨wr.heap.size, 0, none⟩ = false := by rw [ff _ _ (by first | omega | (simp; omega) | simp)]; simp [go_sem, *]
                have C3x1 : w3.cell? ⟨wr.heap.size, 1, none⟩ = some (Value.int IntKind.i64 y) := by rw [fc _ _ (by first | omega | (simp; omega) | simp)]; simp [go_sem, *]
                have F3x1 : w3.frozen? ⟨wr.heap.size, 1, none⟩ = false := by rw [ff _ _ (by first | omega | (simp; omega) | simp)]; simp [go_sem, *]
                clear fc ff
                have X3 : Ext v1 w3 := Ext.trans (by repeat (first | (with_reducible exact Ext.refl _) | (with_reducible assumption) | (with_reducible refine Ext.alloc ?_ _) | (with_reducible refine Ext.drewN ?_ _) | (with_reducible refine Ext.drew ?_) | (with_reducible refine Ext.setCell ?_ (by simp <;> omega) _))) hx
                clear hx X2 C2m0 F2m0 C2m1 F2m1 C2x0 F2x0 C2x1 F2x1
                have l3m : v1.heap.size < w3.heap.size := by omega
                have l3x : wr.heap.size < w3.heap.size := by omega
                simp only [List.drop_succ_cons, List.drop_zero]
                go_wp2_with fail
                go_roundw
                case rel =>
                  refine ⟨k + 1, by omega, by go_num, by rw [Ht.out], (by repeat (first | (with_reducible exact Ext.refl _) | (with_reducible assumption) | (with_reducible refine Ext.alloc ?_ _) | (with_reducible refine Ext.drewN ?_ _) | (with_reducible refine Ext.drew ?_) | (with_reducible refine Ext.setCell ?_ (by simp <;> omega) _))), ?_⟩
                  refine ⟨?_, ?_, ?_, ?_, ?_⟩ <;> first | assumption | (simp [go_sem, *]; done) | (simp [go_sem, *]; omega)
                case measure => simp [intOf]; omega
              · subst e1
                have e3 : (mv == py) = false := by simp [e2]
                have Ht := Lib.hid (Ht.out.trans (show (mu == mu && mv == py) = false by simp [e2]))
                go_wp2_with fail
                refine (HV.out _).mono ?_
                rintro e w1 ⟨rfl, hx⟩
                have fs1 : wr.heap.size + 1 ≤ w1.heap.size := by simpa using hx.size
                obtain ⟨fc, ff⟩ := And.intro hx.cells hx.marks
                have C1m0 : w1.cell? ⟨v1.heap.size, 0, none⟩ = some (Value.int IntKind.i64 mu) := by rw [fc _ _ (by first | omega | (simp; omega) | simp)]; simp [go_sem, *]
                have F1m0 : w1.frozen? ⟨v1.heap.size, 0, none⟩ = false := by rw [ff _ _ (by first | omega | (simp; omega) | simp)]; simp [go_sem, *]
                have C1m1 : w1.cell? ⟨v1.heap.size, 1, none⟩ = some (Value.int IntKind.i64 mv) := by rw [fc _ _ (by first | omega | (simp; omega) | simp)]; simp [go_sem, *]
                have F1m1 : w1.frozen? ⟨v1.heap.size, 1, none⟩ = false := by rw [ff _ _ (by first | omega | (simp; omega) | simp)]; simp [go_sem, *]
                have C1x0 : w1.cell? ⟨wr.heap.size, 0, none⟩ = some (Value.int IntKind.i64 x) := by rw [fc _ _ (by first | omega | (simp; omega) | simp)]; simp [go_sem, *]
                have F1x0 : w1.frozen? ⟨wr.heap.size, 0, none⟩ = false := by rw [ff _ _ (by first | omega | (simp; omega) | simp)]; simp [go_sem, *]
                have C1x1 : w1.cell? ⟨wr.heap.size, 1, none⟩ = some (Value.int IntKind.i64 y) := by rw [fc _ _ (by first | omega | (simp; omega) | simp)]; simp [go_sem, *]
                have F1x1 : w1.frozen? ⟨wr.heap.size, 1, none⟩ = false := by rw [ff _ _ (by first | omega | (simp; omega) | simp)]; simp [go_sem, *]
                clear fc ff
                have X1 : Ext v1 w1 := Ext.trans (by repeat (first | (with_reducible exact Ext.refl _) | (with_reducible assumption) | (with_reducible refine Ext.alloc ?_ _) | (with_reducible refine Ext.drewN ?_ _) | (with_reducible refine Ext.drew ?_) | (with_reducible refine Ext.setCell ?_ (by simp <;> omega) _))) hx
                clear hx cm0 cm1 fm0 fm1 h0 h1 hbl
                have l1m : v1.heap.size < w1.heap.size := by omega
                have l1x : wr.heap.size < w1.heap.size := by omega
                go_wp2_with fail
                refine (HC.out _).mono ?_
                rintro e w2 ⟨rfl, hx⟩
                have fs2 : w1.heap.size ≤ w2.heap.size := by simpa using hx.size
                obtain ⟨fc, ff⟩ := And.intro hx.cells hx.marks
                have C2m0 : w2.cell? ⟨v1.heap.size, 0, none⟩ = some (Value.int IntKind.i64 mu) := by rw [fc _ _ (by first | omega | (simp; omega) | simp)]; simp [go_sem, *]
                have F2m0 : w2.frozen? ⟨v1.heap.size, 0, none⟩ = false := by rw [ff _ _ (by first | omega | (simp; omega) | simp)]; simp [go_sem, *]
                have C2m1 : w2.cell? ⟨v1.heap.size, 1, none⟩ = some (Value.int IntKind.i64 mv) := by rw [fc _ _ (by first | omega | (simp; omega) | simp)]; simp [go_sem, *]
                have F2m1 : w2.frozen? ⟨v1.heap.size, 1, none⟩ = false := by rw [ff _ _ (by first | omega | (simp; omega) | simp)]; simp [go_sem, *]
                have C2x0 : w2.cell? ⟨wr.heap.size, 0, none⟩ = some (Value.int IntKind.i64 x) := by rw [fc _ _ (by first | omega | (simp; omega) | simp)]; simp [go_sem, *]
                have F2x0 : w2.frozen? ⟨wr.heap.size, 0, none⟩ = false := by rw [ff _ _ (by first | omega | (simp; omega) | simp)]; simp [go_sem, *]
                have C2x1 : w2.cell? ⟨wr.heap.size, 1, none⟩ = some (Value.int IntKind.i64 y) := by rw [fc _ _ (by first | omega | (simp; omega) | simp)]; simp [go_sem, *]
                have F2x1 : w2.frozen? ⟨wr.heap.size, 1, none⟩ = false := by rw [ff _ _ (by first | omega | (simp; omega) | simp)]; simp [go_sem, *]
                clear fc ff
                have X2 : Ext v1 w2 := Ext.trans (by repeat (first | (with_reducible exact Ext.refl _) | (with_reducible assumption) | (with_reducible refine Ext.alloc ?_ _) | (with_reducible refine Ext.drewN ?_ _) | (with_reducible refine Ext.drew ?_) | (with_reducible refine Ext.setCell ?_ (by simp <;> omega) _))) hx
                clear hx X1 C1m0 F1m0 C1m1 F1m1 C1x0 F1x0 C1x1 F1x1
                have l2m : v1.heap.size < w2.heap.size := by omega
                have l2x : wr.heap.size < w2.heap.size := by omega
                go_wp2_with fail
                refine Go.Par.region 13 [] (by kernel_rfl) (by kernel_rfl) (fun _ _ _ _ _ h => h) ?_
                simp only [List.take_succ_cons, List.take_zero]
                repeat (first
                  | (apply step_val; (case hf => rfl); (case hw => (go_simp; done)); (case h => (intro w' hx fc; go_simp; (first | exact rfl | (go_at_call 28; exact HC.out _) | (go_at_call 22; exact HP.out _)))); intro K hK; go_simp; refine hK _ ?_; clear hK K)
                  | (apply Go.Par.step_skip; (case hw => (go_simp; first | done | (intro h; cases h))); intro K hK; go_simp; refine hK _ ?_; clear hK K)
                  | (apply step_make (mk := fun b => Value.pointer (some ⟨b, 0, none⟩)); (case hf => rfl); (case hw => (go_simp; done)); (case h => (intro w' hx; go_simp; exact rfl)); (case hno => kernel_rfl); simp only [List.nil_append, List.cons_append]))
                refine fin_none (fun w3 hx => ?_)
                have fs3 : w2.heap.size ≤ w3.heap.size := by simpa using hx.size
                obtain ⟨fc, ff⟩ := And.intro hx.cells hx.marks
                have C3m0 : w3.cell? ⟨v1.heap.size, 0, none⟩ = some (Value.int IntKind.i64 mu) := by rw [fc _ _ (by first | omega | (simp; omega) | simp)]; simp [go_sem, *]
                have F3m0 : w3.frozen? ⟨v1.heap.size, 0, none⟩ = false := by rw [ff _ _ (by first | omega | (simp; omega) | simp)]; simp [go_sem, *]
                have C3m1 : w3.cell? ⟨v1.heap.size, 1, none⟩ = some (Value.int IntKind.i64 mv) := by rw [fc _ _ (by first | omega | (simp; omega) | simp)]; simp [go_sem, *]
                have F3m1 : w3.frozen? ⟨v1.heap.size, 1, none⟩ = false := by rw [ff _ _ (by first | omega | (simp; omega) | simp)]; simp [go_sem, *]
                have C3x0 : w3.cell? ⟨wr.heap.size, 0, none⟩ = some (Value.int IntKind.i64 x) := by rw [fc _ _ (by first | omega | (simp; omega) | simp)]; simp [go_sem, *]
                have F3x0 : w3.frozen? ⟨wr.heap.size, 0, none⟩ = false := by rw [ff _ _ (by first | omega | (simp; omega) | simp)]; simp [go_sem, *]
                have C3x1 : w3.cell? ⟨wr.heap.size, 1, none⟩ = some (Value.int IntKind.i64 y) := by rw [fc _ _ (by first | omega | (simp; omega) | simp)]; simp [go_sem, *]
                have F3x1 : w3.frozen? ⟨wr.heap.size, 1, none⟩ = false := by rw [ff _ _ (by first | omega | (simp; omega) | simp)]; simp [go_sem, *]
                clear fc ff
                have X3 : Ext v1 w3 := Ext.trans (by repeat (first | (with_reducible exact Ext.refl _) | (with_reducible assumption) | (with_reducible refine Ext.alloc ?_ _) | (with_reducible refine Ext.drewN ?_ _) | (with_reducible refine Ext.drew ?_) | (with_reducible refine Ext.setCell ?_ (by simp <;> omega) _))) hx
                clear hx X2 C2m0 F2m0 C2m1 F2m1 C2x0 F2x0 C2x1 F2x1
                have l3m : v1.heap.size < w3.heap.size := by omega
                have l3x : wr.heap.size < w3.heap.size := by omega
                simp only [List.drop_succ_cons, List.drop_zero]
                go_wp2_with fail
                go_roundw
                case rel =>
                  refine ⟨k + 1, by omega, by go_num, by rw [Ht.out], (by repeat (first | (with_reducible exact Ext.refl _) | (with_reducible assumption) | (with_reducible refine Ext.alloc ?_ _) | (with_reducible refine Ext.drewN ?_ _) | (with_reducible refine Ext.drew ?_) | (with_reducible refine Ext.setCell ?_ (by simp <;> omega) _))), ?_⟩
                  refine ⟨?_, ?_, ?_, ?_, ?_⟩ <;> first | assumption | (simp [go_sem, *]; done) | (simp [go_sem, *]; omega)
                case measure => simp [intOf]; omega
            · have e3 : (mu == px) = false := by simp [e1]
              have Ht := Lib.hid (Ht.out.trans (show (mu == px && mv == py) = false by simp [e1]))
              go_wp2_with fail
              refine (HV.out _).mono ?_
              rintro e w1 ⟨rfl, hx⟩
              have fs1 : wr.heap.size + 1 ≤ w1.heap.size := by simpa using hx.size
              obtain ⟨fc, ff⟩ := And.intro hx.cells hx.marks
              have C1m0 : w1.cell? ⟨v1.heap.size, 0, none⟩ = some (Value.int IntKind.i64 mu) := by rw [fc _ _ (by first | omega | (simp; omega) | simp)]; simp [go_sem, *]
              have F1m0 : w1.frozen? ⟨v1.heap.size, 0, none⟩ = false := by rw [ff _ _ (by first | omega | (simp; omega) | simp)]; simp [go_sem, *]
              have C1m1 : w1.cell? ⟨v1.heap.size, 1, none⟩ = some (Value.int IntKind.i64 mv) := by rw [fc _ _ (by first | omega | (simp; omega) | simp)]; simp [go_sem, *]
              have F1m1 : w1.frozen? ⟨v1.heap.size, 1, none⟩ = false := by rw [ff _ _ (by first | omega | (simp; omega) | simp)]; simp [go_sem, *]
              have C1x0 : w1.cell? ⟨wr.heap.size, 0, none⟩ = some (Value.int IntKind.i64 x) := by rw [fc _ _ (by first | omega | (simp; omega) | simp)]; simp [go_sem, *]
              have F1x0 : w1.frozen? ⟨wr.heap.size, 0, none⟩ = false := by rw [ff _ _ (by first | omega | (simp; omega) | simp)]; simp [go_sem, *]
              have C1x1 : w1.cell? ⟨wr.heap.size, 1, none⟩ = some (Value.int IntKind.i64 y) := by rw [fc _ _ (by first | omega | (simp; omega) | simp)]; simp [go_sem, *]
              have F1x1 : w1.frozen? ⟨wr.heap.size, 1, none⟩ = false := by rw [ff _ _ (by first | omega | (simp; omega) | simp)]; simp [go_sem, *]
              clear fc ff
              have X1 : Ext v1 w1 := Ext.trans (by repeat (first | (with_reducible exact Ext.refl _) | (with_reducible assumption) | (with_reducible refine Ext.alloc ?_ _) | (with_reducible refine Ext.drewN ?_ _) | (with_reducible refine Ext.drew ?_) | (with_reducible refine Ext.setCell ?_ (by simp <;> omega) _))) hx
              clear hx cm0 cm1 fm0 fm1 h0 h1 hbl
              have l1m : v1.heap.size < w1.heap.size := by omega
              have l1x : wr.heap.size < w1.heap.size := by omega
              go_wp2_with fail
              refine (HC.out _).mono ?_
              rintro e w2 ⟨rfl, hx⟩
              have fs2 : w1.heap.size ≤ w2.heap.size := by simpa using hx.size
              obtain ⟨fc, ff⟩ := And.intro hx.cells hx.marks
              have C2m0 : w2.cell? ⟨v1.heap.size, 0, none⟩ = some (Value.int IntKind.i64 mu) := by rw [fc _ _ (by first | omega | (simp; omega) | simp)]; simp [go_sem, *]
              have F2m0 : w2.frozen? ⟨v1.heap.size, 0, none⟩ = false := by rw [ff _ _ (by first | omega | (simp; omega) | simp)]; simp [go_sem, *]
              have C2m1 : w2.cell? ⟨v1.heap.size, 1, none⟩ = some (Value.int IntKind.i64 mv) := by rw [fc _ _ (by first | omega | (simp; omega) | simp)]; simp [go_sem, *]
              have F2m1 : w2.frozen? ⟨v1.heap.size, 1, none⟩ = false := by rw [ff _ _ (by first | omega | (simp; omega) | simp)]; simp [go_sem, *]
              have C2x0 : w2.cell? ⟨wr.heap.size, 0, none⟩ = some (Value.int IntKind.i64 x) := by rw [fc _ _ (by first | omega | (simp; omega) | simp)]; simp [go_sem, *]
              have F2x0 : w2.frozen? ⟨wr.heap.size, 0, none⟩ = false := by rw [ff _ _ (by first | omega | (simp; omega) | simp)]; simp [go_sem, *]
              have C2x1 : w2.cell? ⟨wr.heap.size, 1, none⟩ = some (Value.int IntKind.i64 y) := by rw [fc _ _ (by first | omega | (simp; omega) | simp)]; simp [go_sem, *]
              have F2x1 : w2.frozen? ⟨wr.heap.size, 1, none⟩ = false := by rw [ff _ _ (by first | omega | (simp; omega) | simp)]; simp [go_sem, *]
              clear fc ff
              have X2 : Ext v1 w2 := Ext.trans (by repeat (first | (with_reducible exact Ext.refl _) | (with_reducible assumption) | (with_reducible refine Ext.alloc ?_ _) | (with_reducible refine Ext.drewN ?_ _) | (with_reducible refine Ext.drew ?_) | (with_reducible refine Ext.setCell ?_ (by simp <;> omega) _))) hx
              clear hx X1 C1m0 F1m0 C1m1 F1m1 C1x0 F1x0 C1x1 F1x1
              have l2m : v1.heap.size < w2.heap.size := by omega
              have l2x : wr.heap.size < w2.heap.size := by omega
              go_wp2_with fail
              refine Go.Par.region 13 [] (by kernel_rfl) (by kernel_rfl) (fun _ _ _ _ _ h => h) ?_
              simp only [List.take_succ_cons, List.take_zero]
              repeat (first
                | (apply step_val; (case hf => rfl); (case hw => (go_simp; done)); (case h => (intro w' hx fc; go_simp; (first | exact rfl | (go_at_call 28; exact HC.out _) | (go_at_call 22; exact HP.out _)))); intro K hK; go_simp; refine hK _ ?_; clear hK K)
                | (apply Go.Par.step_skip; (case hw => (go_simp; first | done | (intro h; cases h))); intro K hK; go_simp; refine hK _ ?_; clear hK K)
                | (apply step_make (mk := fun b => Value.pointer (some ⟨b, 0, none⟩)); (case hf => rfl); (case hw => (go_simp; done)); (case h => (intro w' hx; go_simp; exact rfl)); (case hno => kernel_rfl); simp only [List.nil_append, List.cons_append]))
              refine fin_none (fun w3 hx => ?_)
              have fs3 : w2.heap.size ≤ w3.heap.size := by simpa using hx.size
              obtain ⟨fc, ff⟩ := And.intro hx.cells hx.marks
              have C3m0 : w3.cell? ⟨v1.heap.size, 0, none⟩ = some (Value.int IntKind.i64 mu) := by rw [fc _ _ (by first | omega | (simp; omega) | simp)]; simp [go_sem, *]
              have F3m0 : w3.frozen? ⟨v1.heap.size, 0, none⟩ = false := by rw [ff _ _ (by first | omega | (simp; omega) | simp)]; simp [go_sem, *]
              have C3m1 : w3.cell? ⟨v1.heap.size, 1, none⟩ = some (Value.int IntKind.i64 mv) := by rw [fc _ _ (by first | omega | (simp; omega) | simp)]; simp [go_sem, *]
              have F3m1 : w3.frozen? ⟨v1.heap.size, 1, none⟩ = false := by rw [ff _ _ (by first | omega | (simp; omega) | simp)]; simp [go_sem, *]
              have C3x0 : w3.cell? ⟨wr.heap.size, 0, none⟩ = some (Value.int IntKind.i64 x) := by rw [fc _ _ (by first | omega | (simp; omega) | simp)]; simp [go_sem, *]
              have F3x0 : w3.frozen? ⟨wr.heap.size, 0, none⟩ = false := by rw [ff _ _ (by first | omega | (simp; omega) | simp)]; simp [go_sem, *]
              have C3x1 : w3.cell? ⟨wr.heap.size, 1, none⟩ = some (Value.int IntKind.i64 y) := by rw [fc _ _ (by first | omega | (simp; omega) | simp)]; simp [go_sem, *]
              have F3x1 : w3.frozen? ⟨wr.heap.size, 1, none⟩ = false := by rw [ff _ _ (by first | omega | (simp; omega) | simp)]; simp [go_sem, *]
              clear fc ff
              have X3 : Ext v1 w3 := Ext.trans (by repeat (first | (with_reducible exact Ext.refl _) | (with_reducible assumption) | (with_reducible refine Ext.alloc ?_ _) | (with_reducible refine Ext.drewN ?_ _) | (with_reducible refine Ext.drew ?_) | (with_reducible refine Ext.setCell ?_ (by simp <;> omega) _))) hx
              clear hx X2 C2m0 F2m0 C2m1 F2m1 C2x0 F2x0 C2x1 F2x1
              have l3m : v1.heap.size < w3.heap.size := by omega
              have l3x : wr.heap.size < w3.heap.size := by omega
              simp only [List.drop_succ_cons, List.drop_zero]
              go_wp2_with fail
              go_roundw
              case rel =>
                refine ⟨k + 1, by omega, by go_num, by rw [Ht.out], (by repeat (first | (with_reducible exact Ext.refl _) | (with_reducible assumption) | (with_reducible refine Ext.alloc ?_ _) | (with_reducible refine Ext.drewN ?_ _) | (with_reducible refine Ext.drew ?_) | (with_reducible refine Ext.setCell ?_ (by simp <;> omega) _))), ?_⟩
                refine ⟨?_, ?_, ?_, ?_, ?_⟩ <;> first | assumption | (simp [go_sem, *]; done) | (simp [go_sem, *]; omega)
              case measure => simp [intOf]; omega
          · have ht : someL (mu, mv) (L.take (k + 1)) = false := by rw [HT.out]; simp [hz0]
            have Ht := Lib.hid ht
            have hz1 : (cc == 0) = false := by simp [hz0]
            clear ht
            go_wp2_with fail
            refine (HV.out _).mono ?_
            rintro e w1 ⟨rfl, hx⟩
            have fs1 : wr.heap.size + 1 ≤ w1.heap.size := by simpa using hx.size
            obtain ⟨fc, ff⟩ := And.intro hx.cells hx.marks
            have C1m0 : w1.cell? ⟨v1.heap.size, 0, none⟩ = some (Value.int IntKind.i64 mu) := by rw [fc _ _ (by first | omega | (simp; omega) | simp)]; simp [go_sem, *]
            have F1m0 : w1.frozen? ⟨v1.heap.size, 0, none⟩ = false := by rw [ff _ _ (by first | omega | (simp; omega) | simp)]; simp [go_sem, *]
            have C1m1 : w1.cell? ⟨v1.heap.size, 1, none⟩ = some (Value.int IntKind.i64 mv) := by rw [fc _ _ (by first | omega | (simp; omega) | simp)]; simp [go_sem, *]
            have F1m1 : w1.frozen? ⟨v1.heap.size, 1, none⟩ = false := by rw [ff _ _ (by first | omega | (simp; omega) | simp)]; simp [go_sem, *]
            have C1x0 : w1.cell? ⟨wr.heap.size, 0, none⟩ = some (Value.int IntKind.i64 x) := by rw [fc _ _ (by first | omega | (simp; omega) | simp)]; simp [go_sem, *]
            have F1x0 : w1.frozen? ⟨wr.heap.size, 0, none⟩ = false := by rw [ff _ _ (by first | omega | (simp; omega) | simp)]; simp [go_sem, *]
            have C1x1 : w1.cell? ⟨wr.heap.size, 1, none⟩ = some (Value.int IntKind.i64 y) := by rw [fc _ _ (by first | omega | (simp; omega) | simp)]; simp [go_sem, *]
            have F1x1 : w1.frozen? ⟨wr.heap.size, 1, none⟩ = false := by rw [ff _ _ (by first | omega | (simp; omega) | simp)]; simp [go_sem, *]
            clear fc ff
            have X1 : Ext v1 w1 := Ext.trans (by repeat (first | (with_reducible exact Ext.refl _) | (with_reducible assumption) | (with_reducible refine Ext.alloc ?_ _) | (with_reducible refine Ext.drewN ?_ _) | (with_reducible refine Ext.drew ?_) | (with_reducible refine Ext.setCell ?_ (by simp <;> omega) _))) hx
            clear hx cm0 cm1 fm0 fm1 h0 h1 hbl
            have l1m : v1.heap.size < w1.heap.size := by omega
            have l1x : wr.heap.size < w1.heap.size := by omega
            go_wp2_with fail
            refine (HC.out _).mono ?_
            rintro e w2 ⟨rfl, hx⟩
            have fs2 : w1.heap.size ≤ w2.heap.size := by simpa using hx.size
            obtain ⟨fc, ff⟩ := And.intro hx.cells hx.marks
            have C2m0 : w2.cell? ⟨v1.heap.size, 0, none⟩ = some (Value.int IntKind.i64 mu) := by rw [fc _ _ (by first | omega | (simp; omega) | simp)]; simp [go_sem, *]
            have F2m0 : w2.frozen? ⟨v1.heap.size, 0, none⟩ = false := by rw [ff _ _ (by first | omega | (simp; omega) | simp)]; simp [go_sem, *]
            have C2m1 : w2.cell? ⟨v1.heap.size, 1, none⟩ = some (Value.int IntKind.i64 mv) := by rw [fc _ _ (by first | omega | (simp; omega) | simp)]; simp [go_sem, *]
            have F2m1 : w2.frozen? ⟨v1.heap.size, 1, none⟩ = false := by rw [ff _ _ (by first | omega | (simp; omega) | simp)]; simp [go_sem, *]
            have C2x0 : w2.cell? ⟨wr.heap.size, 0, none⟩ = some (Value.int IntKind.i64 x) := by rw [fc _ _ (by first | omega | (simp; omega) | simp)]; simp [go_sem, *]
            have F2x0 : w2.frozen? ⟨wr.heap.size, 0, none⟩ = false := by rw [ff _ _ (by first | omega | (simp; omega) | simp)]; simp [go_sem, *]
            have C2x1 : w2.cell? ⟨wr.heap.size, 1, none⟩ = some (Value.int IntKind.i64 y) := by rw [fc _ _ (by first | omega | (simp; omega) | simp)]; simp [go_sem, *]
            have F2x1 : w2.frozen? ⟨wr.heap.size, 1, none⟩ = false := by rw [ff _ _ (by first | omega | (simp; omega) | simp)]; simp [go_sem, *]
            clear fc ff
            have X2 : Ext v1 w2 := Ext.trans (by repeat (first | (with_reducible exact Ext.refl _) | (with_reducible assumption) | (with_reducible refine Ext.alloc ?_ _) | (with_reducible refine Ext.drewN ?_ _) | (with_reducible refine Ext.drew ?_) | (with_reducible refine Ext.setCell ?_ (by simp <;> omega) _))) hx
            clear hx X1 C1m0 F1m0 C1m1 F1m1 C1x0 F1x0 C1x1 F1x1
            have l2m : v1.heap.size < w2.heap.size := by omega
            have l2x : wr.heap.size < w2.heap.size := by omega
            go_wp2_with fail
            refine Go.Par.region 13 [] (by kernel_rfl) (by kernel_rfl) (fun _ _ _ _ _ h => h) ?_
            simp only [List.take_succ_cons, List.take_zero]
            repeat (first
              | (apply step_val; (case hf => rfl); (case hw => (go_simp; done)); (case h => (intro w' hx fc; go_simp; (first | exact rfl | (go_at_call 28; exact HC.out _) | (go_at_call 22; exact HP.out _)))); intro K hK; go_simp; refine hK _ ?_; clear hK K)
              | (apply Go.Par.step_skip; (case hw => (go_simp; first | done | (intro h; cases h))); intro K hK; go_simp; refine hK _ ?_; clear hK K)
              | (apply step_make (mk := fun b => Value.pointer (some ⟨b, 0, none⟩)); (case hf => rfl); (case hw => (go_simp; done)); (case h => (intro w' hx; go_simp; exact rfl)); (case hno => kernel_rfl); simp only [List.nil_append, List.cons_append]))
            refine fin_none (fun w3 hx => ?_)
            have fs3 : w2.heap.size ≤ w3.heap.size := by simpa using hx.size
            obtain ⟨fc, ff⟩ := And.intro hx.cells hx.marks
            have C3m0 : w3.cell? ⟨v1.heap.size, 0, none⟩ = some (Value.int IntKind.i64 mu) := by rw [fc _ _ (by first | omega | (simp; omega) | simp)]; simp [go_sem, *]
            have F3m0 : w3.frozen? ⟨v1.heap.size, 0, none⟩ = false := by rw [ff _ _ (by first | omega | (simp; omega) | simp)]; simp [go_sem, *]
            have C3m1 : w3.cell? ⟨v1.heap.size, 1, none⟩ = some (Value.int IntKind.i64 mv) := by rw [fc _ _ (by first | omega | (simp; omega) | simp)]; simp [go_sem, *]
            have F3m1 : w3.frozen? ⟨v1.heap.size, 1, none⟩ = false := by rw [ff _ _ (by first | omega | (simp; omega) | simp)]; simp [go_sem, *]
            have C3x0 : w3.cell? ⟨wr.heap.size, 0, none⟩ = some (Value.int IntKind.i64 x) := by rw [fc _ _ (by first | omega | (simp; omega) | simp)]; simp [go_sem, *]
            have F3x0 : w3.frozen? ⟨wr.heap.size, 0, none⟩ = false := by rw [ff _ _ (by first | omega | (simp; omega) | simp)]; simp [go_sem, *]
            have C3x1 : w3.cell? ⟨wr.heap.size, 1, none⟩ = some (Value.int IntKind.i64 y) := by rw [fc _ _ (by first | omega | (simp; omega) | simp)]; simp [go_sem, *]
            have F3x1 : w3.frozen? ⟨wr.heap.size, 1, none⟩ = false := by rw [ff _ _ (by first | omega | (simp; omega) | simp)]; simp [go_sem, *]
            clear fc ff
            have X3 : Ext v1 w3 := Ext.trans (by repeat (first | (with_reducible exact Ext.refl _) | (with_reducible assumption) | (with_reducible refine Ext.alloc ?_ _) | (with_reducible refine Ext.drewN ?_ _) | (with_reducible refine Ext.drew ?_) | (with_reducible refine Ext.setCell ?_ (by simp <;> omega) _))) hx
            clear hx X2 C2m0 F2m0 C2m1 F2m1 C2x0 F2x0 C2x1 F2x1
            have l3m : v1.heap.size < w3.heap.size := by omega
            have l3x : wr.heap.size < w3.heap.size := by omega
            simp only [List.drop_succ_cons, List.drop_zero]
            go_wp2_with fail
            go_roundw
            case rel =>
              refine ⟨k + 1, by omega, by go_num, by rw [Ht.out], (by repeat (first | (with_reducible exact Ext.refl _) | (with_reducible assumption) | (with_reducible refine Ext.alloc ?_ _) | (with_reducible refine Ext.drewN ?_ _) | (with_reducible refine Ext.drew ?_) | (with_reducible refine Ext.setCell ?_ (by simp <;> omega) _))), ?_⟩
              refine ⟨?_, ?_, ?_, ?_, ?_⟩ <;> first | assumption | (simp [go_sem, *]; done) | (simp [go_sem, *]; omega)
            case measure => simp [intOf]; omega
    · have hfull : L.take k = L := List.take_of_length_le (by rw [HS1.out.1]; omega)
      rw [hfull]
      have hs := Hsome.out
      clear hfull
      generalize someL (mu, mv) L = acc at *
      cases acc with
      | true =>
        have HGr := Lib.hid (HG.out.ext (hx.trans hF))
        have hX := hx.trans hF
        go_wp2_with fail
        refine (HA.out _ (HGr.out.ext (by repeat (first | (with_reducible exact Ext.refl _) | (with_reducible assumption) | (with_reducible refine Ext.alloc ?_ _) | (with_reducible refine Ext.drewN ?_ _) | (with_reducible refine Ext.drew ?_) | (with_reducible refine Ext.setCell ?_ (by simp <;> omega) _))))).mono ?_
        rintro e w1 ⟨rfl, hx⟩
        have fs1 : wr.heap.size ≤ w1.heap.size := by simpa using hx.size
        obtain ⟨fc, ff⟩ := And.intro hx.cells hx.marks
        have C1m0 : w1.cell? ⟨v1.heap.size, 0, none⟩ = some (Value.int IntKind.i64 mu) := by rw [fc _ _ (by first | omega | (simp; omega) | simp)]; simp [go_sem, *]
        have F1m0 : w1.frozen? ⟨v1.heap.size, 0, none⟩ = false := by rw [ff _ _ (by first | omega | (simp; omega) | simp)]; simp [go_sem, *]
        have C1m1 : w1.cell? ⟨v1.heap.size, 1, none⟩ = some (Value.int IntKind.i64 mv) := by rw [fc _ _ (by first | omega | (simp; omega) | simp)]; simp [go_sem, *]
        have F1m1 : w1.frozen? ⟨v1.heap.size, 1, none⟩ = false := by rw [ff _ _ (by first | omega | (simp; omega) | simp)]; simp [go_sem, *]
        clear fc ff
        have X1 : Ext v1 w1 := Ext.trans (by repeat (first | (with_reducible exact Ext.refl _) | (with_reducible assumption) | (with_reducible refine Ext.alloc ?_ _) | (with_reducible refine Ext.drewN ?_ _) | (with_reducible refine Ext.drew ?_) | (with_reducible refine Ext.setCell ?_ (by simp <;> omega) _))) hx
        clear hx hF cm0 cm1 fm0 fm1
        have l1m : v1.heap.size < w1.heap.size := by omega
        go_wp2_with fail
        refine (HVm.out _).mono ?_
        rintro e w2 ⟨rfl, hx⟩
        have fs2 : w1.heap.size ≤ w2.heap.size := by simpa using hx.size
        obtain ⟨fc, ff⟩ := And.intro hx.cells hx.marks
        have C2m0 : w2.cell? ⟨v1.heap.size, 0, none⟩ = some (Value.int IntKind.i64 mu) := by rw [fc _ _ (by first | omega | (simp; omega) | simp)]; simp [go_sem, *]
        have F2m0 : w2.frozen? ⟨v1.heap.size, 0, none⟩ = false := by rw [ff _ _ (by first | omega | (simp; omega) | simp)]; simp [go_sem, *]
        have C2m1 : w2.cell? ⟨v1.heap.size, 1, none⟩ = some (Value.int IntKind.i64 mv) := by rw [fc _ _ (by first | omega | (simp; omega) | simp)]; simp [go_sem, *]
        have F2m1 : w2.frozen? ⟨v1.heap.size, 1, none⟩ = false := by rw [ff _ _ (by first | omega | (simp; omega) | simp)]; simp [go_sem, *]
        clear fc ff
        have X2 : Ext v1 w2 := Ext.trans (by repeat (first | (with_reducible exact Ext.refl _) | (with_reducible assumption) | (with_reducible refine Ext.alloc ?_ _) | (with_reducible refine Ext.drewN ?_ _) | (with_reducible refine Ext.drew ?_) | (with_reducible refine Ext.setCell ?_ (by simp <;> omega) _))) hx
        clear hx X1 C1m0 F1m0 C1m1 F1m1
        have l2m : v1.heap.size < w2.heap.size := by omega
        go_wp2_with fail
        go_ret
        exact ⟨rfl, hx.trans (by repeat (first | (with_reducible exact Ext.refl _) | (with_reducible assumption) | (with_reducible refine Ext.alloc ?_ _) | (with_reducible refine Ext.drewN ?_ _) | (with_reducible refine Ext.drew ?_) | (with_reducible refine Ext.setCell ?_ (by simp <;> omega) _)))⟩
      | false =>
        obtain ⟨rfl, rfl⟩ : mu = 0 ∧ mv = 1 := by simpa using hs
        clear hs
        have HGr := Lib.hid (HG.out.ext (hx.trans hF))
        have hX := hx.trans hF
        go_wp2_with fail
        refine (HA.out _ (HGr.out.ext (by repeat (first | (with_reducible exact Ext.refl _) | (with_reducible assumption) | (with_reducible refine Ext.alloc ?_ _) | (with_reducible refine Ext.drewN ?_ _) | (with_reducible refine Ext.drew ?_) | (with_reducible refine Ext.setCell ?_ (by simp <;> omega) _))))).mono ?_
        rintro e w1 ⟨rfl, hx⟩
        have fs1 : wr.heap.size ≤ w1.heap.size := by simpa using hx.size
        obtain ⟨fc, ff⟩ := And.intro hx.cells hx.marks
        have C1m0 : w1.cell? ⟨v1.heap.size, 0, none⟩ = some (Value.int IntKind.i64 0) := by rw [fc _ _ (by first | omega | (simp; omega) | simp)]; simp [go_sem, *]
        have F1m0 : w1.frozen? ⟨v1.heap.size, 0, none⟩ = false := by rw [ff _ _ (by first | omega | (simp; omega) | simp)]; simp [go_sem, *]
        have C1m1 : w1.cell? ⟨v1.heap.size, 1, none⟩ = some (Value.int IntKind.i64 1) := by rw [fc _ _ (by first | omega | (simp; omega) | simp)]; simp [go_sem, *]
        have F1m1 : w1.frozen? ⟨v1.heap.size, 1, none⟩ = false := by rw [ff _ _ (by first | omega | (simp; omega) | simp)]; simp [go_sem, *]
        clear fc ff
        have X1 : Ext v1 w1 := Ext.trans (by repeat (first | (with_reducible exact Ext.refl _) | (with_reducible assumption) | (with_reducible refine Ext.alloc ?_ _) | (with_reducible refine Ext.drewN ?_ _) | (with_reducible refine Ext.drew ?_) | (with_reducible refine Ext.setCell ?_ (by simp <;> omega) _))) hx
        clear hx hF cm0 cm1 fm0 fm1
        have l1m : v1.heap.size < w1.heap.size := by omega
        go_wp2_with fail
        refine (HVm.out _).mono ?_
        rintro e w2 ⟨rfl, hx⟩
        have fs2 : w1.heap.size ≤ w2.heap.size := by simpa using hx.size
        obtain ⟨fc, ff⟩ := And.intro hx.cells hx.marks
        have C2m0 : w2.cell? ⟨v1.heap.size, 0, none⟩ = some (Value.int IntKind.i64 0) := by rw [fc _ _ (by first | omega | (simp; omega) | simp)]; simp [go_sem, *]
        have F2m0 : w2.frozen? ⟨v1.heap.size, 0, none⟩ = false := by rw [ff _ _ (by first | omega | (simp; omega) | simp)]; simp [go_sem, *]
        have C2m1 : w2.cell? ⟨v1.heap.size, 1, none⟩ = some (Value.int IntKind.i64 1) := by rw [fc _ _ (by first | omega | (simp; omega) | simp)]; simp [go_sem, *]
        have F2m1 : w2.frozen? ⟨v1.heap.size, 1, none⟩ = false := by rw [ff _ _ (by first | omega | (simp; omega) | simp)]; simp [go_sem, *]
        clear fc ff
        have X2 : Ext v1 w2 := Ext.trans (by repeat (first | (with_reducible exact Ext.refl _) | (with_reducible assumption) | (with_reducible refine Ext.alloc ?_ _) | (with_reducible refine Ext.drewN ?_ _) | (with_reducible refine Ext.drew ?_) | (with_reducible refine Ext.setCell ?_ (by simp <;> omega) _))) hx
        clear hx X1 C1m0 F1m0 C1m1 F1m1
        have l2m : v1.heap.size < w2.heap.size := by omega
        go_wp2_with fail
        go_ret
        exact ⟨rfl, hx.trans (by repeat (first | (with_reducible exact Ext.refl _) | (with_reducible assumption) | (with_reducible refine Ext.alloc ?_ _) | (with_reducible refine Ext.drewN ?_ _) | (with_reducible refine Ext.drew ?_) | (with_reducible refine Ext.setCell ?_ (by simp <;> omega) _)))⟩


end Go.Proofs.YtifhgkdajnngnaaDoor
