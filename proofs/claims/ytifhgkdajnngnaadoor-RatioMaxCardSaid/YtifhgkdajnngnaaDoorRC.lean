/- Contracts of package ratio's functions on numbers of two words: result, times, order, plus. -/
import Derived.Test.YtifhgkdajnngnaaDoorRB
namespace Go.Proofs.YtifhgkdajnngnaaDoor
open Go.RowKit Go.Par

/-- A number of two words is handed back: its sign, its magnitude. -/
def RetW (s : Bool) (m : Int) (w : World) (e : Ending) (w' : World) : Prop :=
  ∃ h l : Int, e = .returned (.agg #[.bool s, .int .u64 h, .int .u64 l]) ∧ 0 ≤ h ∧ h < 18446744073709551616 ∧ 0 ≤ l ∧ l < 18446744073709551616 ∧ Hid (h * 18446744073709551616 + l = m) ∧ Ext w w'

/-- .. and one block more lies in memory. -/
def RetW1 (s : Bool) (m : Int) (w : World) (e : Ending) (w' : World) : Prop :=
  ∃ h l : Int, e = .returned (.agg #[.bool s, .int .u64 h, .int .u64 l]) ∧ 0 ≤ h ∧ h < 18446744073709551616 ∧ 0 ≤ l ∧ l < 18446744073709551616 ∧ Hid (h * 18446744073709551616 + l = m) ∧ ∃ o, w' = w.alloc o

/-- A fraction and an error code are handed back. -/
def RetR (r : Int × Int × Int) (w : World) (e : Ending) (w' : World) : Prop :=
  e = .returned (.tuple #[.agg #[.int .i64 r.1, .int .i64 r.2.1], .int .i64 r.2.2]) ∧ Ext w w'
/-- .. and three blocks more lie in memory. -/
def RetR3 (r : Int × Int × Int) (w : World) (e : Ending) (w' : World) : Prop :=
  e = .returned (.tuple #[.agg #[.int .i64 r.1, .int .i64 r.2.1], .int .i64 r.2.2]) ∧ ∃ o1 o2 o3, w' = ((w.alloc o1).alloc o2).alloc o3

/-- What 'result' makes of two magnitudes and a sign. -/
def res (s : Bool) (m d : Int) : Int × Int × Int :=
  if m ≤ 9223372036854775807 + (if s then 1 else 0) ∧ d ≤ 9223372036854775807 then ((if s then -m else m), d, 0) else (0, 0, 3)

theorem res_no (s : Bool) (m d : Int) (h : ¬ (m ≤ 9223372036854775807 + (if s then 1 else 0) ∧ d ≤ 9223372036854775807)) : res s m d = (0, 0, 3) := by
  unfold res; rw [if_neg h]

theorem negwrap2 (m : Int) (h0 : 0 ≤ m) (h1 : m ≤ 9223372036854775808) : IntKind.i64.wrap (IntKind.u64.wrap (-m)) = -m := by
  simp only [IntKind.wrap_u64, IntKind.wrap_i64]
  omega

set_option maxHeartbeats 1000000 in
theorem result_ok (s t : Bool) (m d : Int) (hm0 : 0 ≤ m) (hd0 : 0 ≤ d) (hm : m ≤ 9223372036854775807 + (if s then 1 else 0)) (hd : d ≤ 9223372036854775807) (w : World) :
    Calls Tryd.prog 33 #[.agg #[.bool s, .int .u64 0, .int .u64 m], .agg #[.bool t, .int .u64 0, .int .u64 d]] w (RetR3 (res s m d) w) := by
  have hr : res s m d = ((if s then -m else m), d, 0) := by unfold res; rw [if_pos ⟨hm, hd⟩]
  rw [hr]
  clear hr
  have hdd : decide (9223372036854775807 < d) = false := by simp; omega
  cases s
  · have hm' : m ≤ 9223372036854775807 := by simpa using hm
    clear hm
    have hmm : decide (9223372036854775807 < m) = false := by simp; omega
    go_enter Tryd.func33, Tryd.ntmps33
    go_wp2
    exact bodyPost_ret (v := .tuple #[.agg #[.int .i64 m, .int .i64 d], .int .i64 0]) (by simp [results, Tryd.results33, go_sem]) rfl ⟨rfl, _, _, _, rfl⟩
  · have hm' : m ≤ 9223372036854775808 := by simpa using hm
    clear hm
    have hmm : decide (9223372036854775808 < m) = false := by simp; omega
    have hneg := negwrap2 m hm0 hm'
    go_enter Tryd.func33, Tryd.ntmps33
    go_wp2
    exact bodyPost_ret (v := .tuple #[.agg #[.int .i64 (-m), .int .i64 d], .int .i64 0]) (by simp [results, Tryd.results33, go_sem]) rfl ⟨rfl, _, _, _, rfl⟩

set_option maxHeartbeats 2000000 in
theorem result_no (s t : Bool) (nh nl dh dl : Int) (h0 : 0 ≤ nh) (_h1 : 0 ≤ nl) (h2 : 0 ≤ dh) (_h3 : 0 ≤ dl) (w : World)
    (h : ¬ (nh = 0 ∧ nl ≤ 9223372036854775807 + (if s then 1 else 0) ∧ dh = 0 ∧ dl ≤ 9223372036854775807)) :
    Calls Tryd.prog 33 #[.agg #[.bool s, .int .u64 nh, .int .u64 nl], .agg #[.bool t, .int .u64 dh, .int .u64 dl]] w (RetR3 (0, 0, 3) w) := by
  have H := Lib.hid h
  clear h
  by_cases a1 : nh = 0
  · subst a1
    by_cases a2 : nl ≤ 9223372036854775807 + (if s then 1 else 0)
    · by_cases a3 : dh = 0
      · subst a3
        have a4 : decide (9223372036854775807 < dl) = true := by
          have := H.out
          simp only [a2, true_and] at this
          simp; omega
        clear H
        cases s
        · have hmm : decide (9223372036854775807 < nl) = false := by simp at a2 ⊢; omega
          go_enter Tryd.func33, Tryd.ntmps33
          go_wp2
          exact bodyPost_ret (v := .tuple #[.agg #[.int .i64 0, .int .i64 0], .int .i64 3]) (by simp [results, Tryd.results33, go_sem]) rfl ⟨rfl, _, _, _, rfl⟩
        · have hmm : decide (9223372036854775808 < nl) = false := by simp at a2 ⊢; omega
          go_enter Tryd.func33, Tryd.ntmps33
          go_wp2
          exact bodyPost_ret (v := .tuple #[.agg #[.int .i64 0, .int .i64 0], .int .i64 3]) (by simp [results, Tryd.results33, go_sem]) rfl ⟨rfl, _, _, _, rfl⟩
      · have a3' : (dh != 0) = true := by simp [a3]
        clear H
        cases s
        · have hmm : decide (9223372036854775807 < nl) = false := by simp at a2 ⊢; omega
          go_enter Tryd.func33, Tryd.ntmps33
          go_wp2
          exact bodyPost_ret (v := .tuple #[.agg #[.int .i64 0, .int .i64 0], .int .i64 3]) (by simp [results, Tryd.results33, go_sem]) rfl ⟨rfl, _, _, _, rfl⟩
        · have hmm : decide (9223372036854775808 < nl) = false := by simp at a2 ⊢; omega
          go_enter Tryd.func33, Tryd.ntmps33
          go_wp2
          exact bodyPost_ret (v := .tuple #[.agg #[.int .i64 0, .int .i64 0], .int .i64 3]) (by simp [results, Tryd.results33, go_sem]) rfl ⟨rfl, _, _, _, rfl⟩
    · clear H
      cases s
      · have hmm : decide (9223372036854775807 < nl) = true := by simp at a2 ⊢; omega
        go_enter Tryd.func33, Tryd.ntmps33
        go_wp2
        exact bodyPost_ret (v := .tuple #[.agg #[.int .i64 0, .int .i64 0], .int .i64 3]) (by simp [results, Tryd.results33, go_sem]) rfl ⟨rfl, _, _, _, rfl⟩
      · have hmm : decide (9223372036854775808 < nl) = true := by simp at a2 ⊢; omega
        go_enter Tryd.func33, Tryd.ntmps33
        go_wp2
        exact bodyPost_ret (v := .tuple #[.agg #[.int .i64 0, .int .i64 0], .int .i64 3]) (by simp [results, Tryd.results33, go_sem]) rfl ⟨rfl, _, _, _, rfl⟩
  · have a1' : (nh != 0) = true := by simp [a1]
    clear H
    cases s
    · go_enter Tryd.func33, Tryd.ntmps33
      go_wp2
      exact bodyPost_ret (v := .tuple #[.agg #[.int .i64 0, .int .i64 0], .int .i64 3]) (by simp [results, Tryd.results33, go_sem]) rfl ⟨rfl, _, _, _, rfl⟩
    · go_enter Tryd.func33, Tryd.ntmps33
      go_wp2
      exact bodyPost_ret (v := .tuple #[.agg #[.int .i64 0, .int .i64 0], .int .i64 3]) (by simp [results, Tryd.results33, go_sem]) rfl ⟨rfl, _, _, _, rfl⟩

theorem result_any (s t : Bool) (nh nl dh dl : Int) (h0 : 0 ≤ nh) (h1 : 0 ≤ nl) (h1' : nl < 18446744073709551616) (h2 : 0 ≤ dh) (h3 : 0 ≤ dl) (h3' : dl < 18446744073709551616) (w : World) :
    Calls Tryd.prog 33 #[.agg #[.bool s, .int .u64 nh, .int .u64 nl], .agg #[.bool t, .int .u64 dh, .int .u64 dl]] w (RetR3 (res s (nh * 18446744073709551616 + nl) (dh * 18446744073709551616 + dl)) w) := by
  by_cases h : nh = 0 ∧ nl ≤ 9223372036854775807 + (if s then 1 else 0) ∧ dh = 0 ∧ dl ≤ 9223372036854775807
  · obtain ⟨rfl, a, rfl, b⟩ := h
    simpa using result_ok s t nl dl h1 h3 a b w
  · rw [res_no]
    · exact result_no s t nh nl dh dl h0 h1 h2 h3 w h
    · intro ⟨a, b⟩
      refine h ⟨?_, ?_, by omega, by omega⟩ <;> cases s <;> simp at a ⊢ <;> omega

set_option maxHeartbeats 1000000 in
theorem times_any (v n : Int) (s : Bool) (hs : decide (v < 0) = s) (h0 : -9223372036854775808 ≤ v) (h1 : v ≤ 9223372036854775807) (hn0 : 0 ≤ n) (hn1 : n < 18446744073709551616) (w : World) :
    Calls Tryd.prog 47 #[.int .i64 v, .int .u64 n] w (RetW1 s (v.natAbs * n) w) := by
  have hp0 : 0 ≤ (v.natAbs : Int) * n := Int.mul_nonneg (by omega) hn0
  have hp1 : (v.natAbs : Int) * n < 340282366920938463463374607431768211456 := by
    have := Int.mul_le_mul (show (v.natAbs : Int) ≤ 9223372036854775808 by omega) (show n ≤ 18446744073709551615 by omega) hn0 (by omega)
    omega
  go_enter Tryd.func47, Tryd.ntmps47
  go_wp2_with fail
  refine (size_any v h0 h1 _).mono ?_
  rintro e w' ⟨rfl, rfl⟩
  go_wp2_with fail
  refine (mul64_any _ _ (by omega) (by omega) hn0 hn1 _).mono ?_
  rintro e w' ⟨rfl, rfl⟩
  generalize hm : (v.natAbs : Int) * n = m at *
  have ha : 0 ≤ m / 18446744073709551616 := by omega
  have hb : m / 18446744073709551616 < 18446744073709551616 := by omega
  have hc : 0 ≤ m % 18446744073709551616 := by omega
  have hd : m % 18446744073709551616 < 18446744073709551616 := by omega
  have he := Lib.hid (show m / 18446744073709551616 * 18446744073709551616 + m % 18446744073709551616 = m by omega)
  generalize m / 18446744073709551616 = a at *
  generalize m % 18446744073709551616 = b at *
  clear hm hp0 hp1
  go_wp2
  exact bodyPost_ret (v := .agg #[.bool s, .int .u64 a, .int .u64 b]) (by simp [results, Tryd.results47, go_sem]) rfl ⟨a, b, rfl, ha, hb, hc, hd, he, _, rfl⟩

def cmpI (x y : Int) : Int := if x < y then -1 else if x = y then 0 else 1

set_option maxHeartbeats 1000000 in
theorem order_any (s t : Bool) (ah al bh bl : Int) (h1 : 0 ≤ al) (h1' : al < 18446744073709551616) (h3 : 0 ≤ bl) (h3' : bl < 18446744073709551616) (w : World) :
    Calls Tryd.prog 48 #[.agg #[.bool s, .int .u64 ah, .int .u64 al], .agg #[.bool t, .int .u64 bh, .int .u64 bl]] w fun e w' =>
      e = .returned (.int .i64 (cmpI (ah * 18446744073709551616 + al) (bh * 18446744073709551616 + bl))) ∧ ∃ o1 o2, w' = (w.alloc o1).alloc o2 := by
  by_cases e1 : ah = bh
  · subst e1
    by_cases e2 : al < bl
    · go_enter Tryd.func48, Tryd.ntmps48
      go_wp2
      go_ret
      exact ⟨ret_int (by unfold cmpI; rw [if_pos (by omega)]), _, _, rfl⟩
    · by_cases e3 : al = bl
      · subst e3
        go_enter Tryd.func48, Tryd.ntmps48
        go_wp2
        go_ret
        exact ⟨ret_int (by unfold cmpI; rw [if_neg (by omega), if_pos rfl]), _, _, rfl⟩
      · have e3' : (al == bl) = false := by simp [e3]
        go_enter Tryd.func48, Tryd.ntmps48
        go_wp2
        go_ret
        exact ⟨ret_int (by unfold cmpI; rw [if_neg (by omega), if_neg (by omega)]), _, _, rfl⟩
  · have e1' : (ah == bh) = false := by simp [e1]
    have e1'' : (ah != bh) = true := by simp [e1]
    by_cases e2 : ah < bh
    · go_enter Tryd.func48, Tryd.ntmps48
      go_wp2
      go_ret
      exact ⟨ret_int (by unfold cmpI; rw [if_pos (by omega)]), _, _, rfl⟩
    · go_enter Tryd.func48, Tryd.ntmps48
      go_wp2
      go_ret
      exact ⟨ret_int (by unfold cmpI; rw [if_neg (by omega), if_neg (by omega)]), _, _, rfl⟩

end Go.Proofs.YtifhgkdajnngnaaDoor
