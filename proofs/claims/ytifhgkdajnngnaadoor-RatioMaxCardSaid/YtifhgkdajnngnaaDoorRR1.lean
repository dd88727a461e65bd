/- Contracts of the reference (numbers of 128 bits): Of, less, sum, diff, twice, zero, narrow; plain. -/
import Derived.Test.YtifhgkdajnngnaaDoorRW
namespace Go.Proofs.YtifhgkdajnngnaaDoor
open Go.RowKit Go.Par

def hiW (m : Int) : Int := m / 18446744073709551616
def loW (m : Int) : Int := m % 18446744073709551616
def Fits (m : Int) : Prop := 0 ≤ m ∧ m < 340282366920938463463374607431768211456
theorem fits_parts {m : Int} (h : Fits m) : ∃ a b : Int, hiW m = a ∧ loW m = b ∧ 0 ≤ a ∧ a < 18446744073709551616 ∧ 0 ≤ b ∧ b < 18446744073709551616 ∧ Hid (m = a * 18446744073709551616 + b) := by
  obtain ⟨h0, h1⟩ := h
  refine ⟨_, _, rfl, rfl, ?_, ?_, ?_, ?_, Lib.hid ?_⟩ <;> simp only [hiW, loW] <;> omega
theorem of_parts {m a b : Int} (hb : 0 ≤ b) (hb' : b < 18446744073709551616) (e : m = a * 18446744073709551616 + b) : a = hiW m ∧ b = loW m := by
  simp only [hiW, loW]; omega
def wv (s : Bool) (m : Int) : Value := .agg #[.bool s, .int .u64 (hiW m), .int .u64 (loW m)]
theorem ret_wv {s : Bool} {m a b : Int} (ha : a = hiW m) (hb : b = loW m) : Ending.returned (.agg #[.bool s, .int .u64 a, .int .u64 b]) = .returned (wv s m) := by
  subst ha hb; rfl

theorem or_low (x y : Int) (h0 : 0 ≤ x) (h1 : x < 18446744073709551616) (h2 : x % 2 = 0) (h3 : 0 ≤ y) (h4 : y < 2) : bits BinOp.or IntKind.u64 x y = x + y :=
  bits_join .u64 64 (by decide) (fun n a b => by rw [IntKind.wrap_u64]; omega) 1 _ _ (by omega) (by omega) (by omega) (by omega) (by omega) (by omega)

set_option maxHeartbeats 1000000 in
theorem twice_any (s : Bool) (m : Int) (h : Fits m) (h2 : Fits (2 * m)) (w : World) :
    Calls Tryd.prog 42 #[wv s m] w fun e w' => e = .returned (wv s (2 * m)) ∧ Ext w w' := by
  obtain ⟨a, b, ea, eb, a0, a1, b0, b1, em⟩ := fits_parts h
  obtain ⟨c, d, ec, ed, c0, c1, d0, d1, en⟩ := fits_parts h2
  unfold wv
  rw [ea, eb, ec, ed]
  clear ea eb ec ed
  go_enter Tryd.func42, Tryd.ntmps42
  go_wp2
  refine bodyPost_ret (v := .agg #[.bool s, .int .u64 c, .int .u64 d]) ?_ rfl ⟨rfl, (by repeat (first | (with_reducible exact Ext.refl _) | (with_reducible assumption) | (with_reducible refine Ext.alloc ?_ _) | (with_reducible refine Ext.drewN ?_ _) | (with_reducible refine Ext.drew ?_) | (with_reducible refine Ext.setCell ?_ (by simp <;> omega) _)))⟩
  have := em.out
  have := en.out
  clear em en
  simp [results, Tryd.results42, go_sem]
  rw [IntKind.wrap_u64, IntKind.wrap_u64, or_low _ _ (by omega) (by omega) (by omega) (by omega) (by omega)]
  omega

set_option maxHeartbeats 1000000 in
theorem less_any (s t : Bool) (m n : Int) (h : Fits m) (h2 : Fits n) (w : World) :
    Calls Tryd.prog 44 #[wv s m, wv t n] w fun e w' => e = .returned (.bool (decide (m < n))) ∧ Ext w w' := by
  obtain ⟨a, b, ea, eb, a0, a1, b0, b1, em⟩ := fits_parts h
  obtain ⟨c, d, ec, ed, c0, c1, d0, d1, en⟩ := fits_parts h2
  unfold wv
  rw [ea, eb, ec, ed]
  clear ea eb ec ed h h2
  go_enter Tryd.func44, Tryd.ntmps44
  go_wp2
  all_goals
    go_ret
    refine ⟨ret_bool ?_, (by repeat (first | (with_reducible exact Ext.refl _) | (with_reducible assumption) | (with_reducible refine Ext.alloc ?_ _) | (with_reducible refine Ext.drewN ?_ _) | (with_reducible refine Ext.drew ?_) | (with_reducible refine Ext.setCell ?_ (by simp <;> omega) _)))⟩
    have := em.out
    have := en.out
    first | (rw [eq_comm, decide_eq_true_iff]; omega) | (rw [eq_comm, decide_eq_false_iff_not]; omega) | (rw [decide_eq_decide]; omega)

set_option maxHeartbeats 1000000 in
theorem sum_w (s t : Bool) (m n : Int) (h : Fits m) (h2 : Fits n) (h3 : Fits (m + n)) (w : World) :
    Calls Tryd.prog 43 #[wv s m, wv t n] w fun e w' => e = .returned (wv s (m + n)) ∧ Ext w w' := by
  obtain ⟨a, b, ea, eb, a0, a1, b0, b1, em⟩ := fits_parts h
  obtain ⟨c, d, ec, ed, c0, c1, d0, d1, en⟩ := fits_parts h2
  have h3' := Lib.hid h3.2
  unfold wv
  rw [ea, eb, ec, ed]
  clear ea eb ec ed h h2 h3
  go_enter Tryd.func43, Tryd.ntmps43
  go_wp2
  all_goals
    refine bodyPost_ret (v := .agg #[.bool s, .int .u64 (hiW (m + n)), .int .u64 (loW (m + n))]) ?_ rfl ⟨rfl, (by repeat (first | (with_reducible exact Ext.refl _) | (with_reducible assumption) | (with_reducible refine Ext.alloc ?_ _) | (with_reducible refine Ext.drewN ?_ _) | (with_reducible refine Ext.drew ?_) | (with_reducible refine Ext.setCell ?_ (by simp <;> omega) _)))⟩
    have := em.out
    have := en.out
    have := h3'.out
    clear em en h3'
    simp only [IntKind.wrap_u64] at *
    simp [results, Tryd.results43, go_sem]
    simp only [hiW, loW]
    omega

set_option maxHeartbeats 1000000 in
theorem diff_any (s t : Bool) (m n : Int) (h : Fits m) (h2 : Fits n) (h3 : n ≤ m) (w : World) :
    Calls Tryd.prog 45 #[wv s m, wv t n] w fun e w' => e = .returned (wv s (m - n)) ∧ Ext w w' := by
  obtain ⟨a, b, ea, eb, a0, a1, b0, b1, em⟩ := fits_parts h
  obtain ⟨c, d, ec, ed, c0, c1, d0, d1, en⟩ := fits_parts h2
  have h3' := Lib.hid h3
  unfold wv
  rw [ea, eb, ec, ed]
  clear ea eb ec ed h h2 h3
  go_enter Tryd.func45, Tryd.ntmps45
  go_wp2
  all_goals
    refine bodyPost_ret (v := .agg #[.bool s, .int .u64 (hiW (m - n)), .int .u64 (loW (m - n))]) ?_ rfl ⟨rfl, (by repeat (first | (with_reducible exact Ext.refl _) | (with_reducible assumption) | (with_reducible refine Ext.alloc ?_ _) | (with_reducible refine Ext.drewN ?_ _) | (with_reducible refine Ext.drew ?_) | (with_reducible refine Ext.setCell ?_ (by simp <;> omega) _)))⟩
    have := em.out
    have := en.out
    have := h3'.out
    clear em en h3'
    simp only [IntKind.wrap_u64] at *
    simp [results, Tryd.results45, go_sem]
    simp only [hiW, loW]
    omega
set_option maxHeartbeats 1000000 in
theorem of_any (n : Int) (i : InI n) (w : World) :
    Calls Tryd.prog 16 #[.int .i64 n] w fun e w' => e = .returned (wv (decide (n < 0)) n.natAbs) ∧ Ext w w' := by
  obtain ⟨i0, i1⟩ := i
  by_cases h : n < 0
  · go_enter Tryd.func16, Tryd.ntmps16
    go_wp2
    refine bodyPost_ret (v := .agg #[.bool true, .int .u64 (hiW n.natAbs), .int .u64 (loW n.natAbs)]) ?_ rfl ⟨by unfold wv; simp [h], (by repeat (first | (with_reducible exact Ext.refl _) | (with_reducible assumption) | (with_reducible refine Ext.alloc ?_ _) | (with_reducible refine Ext.drewN ?_ _) | (with_reducible refine Ext.drew ?_) | (with_reducible refine Ext.setCell ?_ (by simp <;> omega) _)))⟩
    simp [results, Tryd.results16, go_sem]
    simp only [hiW, loW]
    omega
  · go_enter Tryd.func16, Tryd.ntmps16
    go_wp2
    refine bodyPost_ret (v := .agg #[.bool false, .int .u64 (hiW n.natAbs), .int .u64 (loW n.natAbs)]) ?_ rfl ⟨by unfold wv; simp [h], (by repeat (first | (with_reducible exact Ext.refl _) | (with_reducible assumption) | (with_reducible refine Ext.alloc ?_ _) | (with_reducible refine Ext.drewN ?_ _) | (with_reducible refine Ext.drew ?_) | (with_reducible refine Ext.setCell ?_ (by simp <;> omega) _)))⟩
    simp [results, Tryd.results16, go_sem]
    simp only [hiW, loW]
    omega
set_option maxHeartbeats 1000000 in
theorem zero_any (s : Bool) (m : Int) (h : Fits m) (w : World) :
    Calls Tryd.prog 49 #[wv s m] w fun e w' => e = .returned (.bool (decide (m = 0))) ∧ Ext w w' := by
  obtain ⟨a, b, ea, eb, a0, a1, b0, b1, em⟩ := fits_parts h
  unfold wv
  rw [ea, eb]
  clear ea eb h
  go_enter Tryd.func49, Tryd.ntmps49
  go_wp2
  all_goals
    go_ret
    refine ⟨ret_bool ?_, (by repeat (first | (with_reducible exact Ext.refl _) | (with_reducible assumption) | (with_reducible refine Ext.alloc ?_ _) | (with_reducible refine Ext.drewN ?_ _) | (with_reducible refine Ext.drew ?_) | (with_reducible refine Ext.setCell ?_ (by simp <;> omega) _)))⟩
    have := em.out
    first | (rw [eq_comm, decide_eq_true_iff]; omega) | (rw [eq_comm, decide_eq_false_iff_not]; omega) | (rw [show (b == 0) = decide (b = 0) from rfl, decide_eq_decide]; omega)
theorem ret_ib {a b : Int} {p q : Bool} (h : a = b) (h2 : p = q) : Ending.returned (.tuple #[.int .i64 a, .bool p]) = .returned (.tuple #[.int .i64 b, .bool q]) := by rw [h, h2]
/-- A number of 64 bits, if it is one. -/
def narrowP (s : Bool) (m : Int) : Int × Bool := if m < 9223372036854775808 ∨ (m = 9223372036854775808 ∧ s = true) then ((if s then -m else m), true) else (0, false)
set_option maxHeartbeats 1000000 in
theorem narrow_any (s : Bool) (m : Int) (h : Fits m) (w : World) :
    Calls Tryd.prog 51 #[wv s m] w fun e w' => e = .returned (.tuple #[.int .i64 (narrowP s m).1, .bool (narrowP s m).2]) ∧ Ext w w' := by
  obtain ⟨a, b, ea, eb, a0, a1, b0, b1, em⟩ := fits_parts h
  unfold wv
  rw [ea, eb]
  clear ea eb h
  generalize hP : narrowP s m = P
  have HP := Lib.hid hP
  clear hP
  cases s
  all_goals
    go_enter Tryd.func51, Tryd.ntmps51
    go_wp2
    all_goals
      go_ret2
      refine ⟨?_, (by repeat (first | (with_reducible exact Ext.refl _) | (with_reducible assumption) | (with_reducible refine Ext.alloc ?_ _) | (with_reducible refine Ext.drewN ?_ _) | (with_reducible refine Ext.drew ?_) | (with_reducible refine Ext.setCell ?_ (by simp <;> omega) _)))⟩
      have e1 := em.out
      have := HP.out
      rw [← this]
      unfold narrowP
      first
        | (rw [if_neg (by simp; omega)]; rfl)
        | (rw [if_pos (by simp; omega)]; exact ret_ib (by simp; omega) rfl)
        | (rw [if_pos (by simp; omega)]; exact ret_ib (by simp [wrap64]; omega) rfl)
set_option maxHeartbeats 1000000 in
theorem plain_any (n d : Int) (w : World) :
    Calls Tryd.prog 22 #[.agg #[.int .i64 n, .int .i64 d]] w fun e w' => e = .returned (.agg #[.int .i64 (if d = 0 then 0 else n), .int .i64 (if d = 0 then 1 else d)]) ∧ Ext w w' := by
  by_cases h : d = 0
  · subst h
    go_enter Tryd.func22, Tryd.ntmps22
    go_wp2
    exact bodyPost_ret (v := .agg #[.int .i64 0, .int .i64 1]) (by simp [results, Tryd.results22, go_sem]) rfl ⟨rfl, (by repeat (first | (with_reducible exact Ext.refl _) | (with_reducible assumption) | (with_reducible refine Ext.alloc ?_ _) | (with_reducible refine Ext.drewN ?_ _) | (with_reducible refine Ext.drew ?_) | (with_reducible refine Ext.setCell ?_ (by simp <;> omega) _)))⟩
  · go_enter Tryd.func22, Tryd.ntmps22
    go_wp2
    exact bodyPost_ret (v := .agg #[.int .i64 n, .int .i64 d]) (by simp [results, Tryd.results22, go_sem]) rfl ⟨by simp, (by repeat (first | (with_reducible exact Ext.refl _) | (with_reducible assumption) | (with_reducible refine Ext.alloc ?_ _) | (with_reducible refine Ext.drewN ?_ _) | (with_reducible refine Ext.drew ?_) | (with_reducible refine Ext.setCell ?_ (by simp <;> omega) _)))⟩
end Go.Proofs.YtifhgkdajnngnaaDoor
