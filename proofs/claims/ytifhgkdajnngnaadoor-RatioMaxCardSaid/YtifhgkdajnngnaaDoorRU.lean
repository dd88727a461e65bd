/- Contract of ratio.Parse. -/
import Derived.Test.YtifhgkdajnngnaaDoorRT
import Derived.Lib.ParseIntBTie
namespace Go.Proofs.YtifhgkdajnngnaaDoor
open Go.RowKit Go.Par

def finR (l : List UInt8) (n d : Int) : Int × Int × Int := if l = [] ∨ textL n d ≠ l then (0, 0, 6) else (n, d, 0)
def parseR (l : List UInt8) : Int × Int × Int :=
  match Lib.parseIntB 64 (Lib.cut l [47]).1 with
  | .ok n => if (Lib.cut l [47]).2.2 = true then (match Lib.parseIntB 64 (Lib.cut l [47]).2.1 with | .ok d => finR l n d | _ => (0, 0, 6)) else finR l n 1
  | _ => (0, 0, 6)

theorem fin_no (l : List UInt8) (n d : Int) (h : l.isEmpty = true ∨ (!textL n d == l) = true) : finR l n d = (0, 0, 6) := by
  unfold finR
  rw [if_pos]
  rcases h with h | h
  · exact .inl (by simpa using h)
  · exact .inr (by simpa using h)
theorem fin_yes (l : List UInt8) (n d : Int) (h : l.isEmpty = false ∧ (!textL n d == l) = false) : finR l n d = (n, d, 0) := by
  unfold finR
  rw [if_neg]
  rintro (h' | h')
  · rw [h'] at h; simp at h
  · exact h' (by simpa using h.2)

set_option maxHeartbeats 1000000 in
theorem parse_a (l : List UInt8) (hl : l.length ≤ 1000) (w : World) (G : Globs w) (h : ∀ v, Lib.parseIntB 64 (Lib.cut l [47]).1 ≠ .ok v) (hc : (Lib.cut l [47]).1.length ≤ 1000) :
    Calls Tryd.prog 21 #[.string ⟨l.toArray⟩] w (RetR (0, 0, 6) w) := by
  have HC := Lib.hid (fun W (G : Globs W) => cut_any ⟨l.toArray⟩ ⟨#[47]⟩ (by simpa [ByteArray.size] using hl) W G)
  have HP := Lib.hid (fun W (G : Globs W) => parse_bad ⟨(Lib.cut l [47]).1.toArray⟩ (by simpa [ByteArray.size] using hc) h W G)
  have HG := Lib.hid G
  clear G h hc
  generalize hcE : Lib.cut l [47] = c at *
  obtain ⟨c1, c2, c3⟩ := c
  have CE := Lib.hid hcE
  clear hcE
  have HC' : Hid (∀ (W : World), Globs W → Calls Tryd.prog 39 #[.string ⟨l.toArray⟩, .string ⟨#[47]⟩] W fun e w' => e = .returned (.tuple #[.string ⟨c1.toArray⟩, .string ⟨c2.toArray⟩, .bool c3]) ∧ Ext W w') :=
    Lib.hid (fun W G => by have := HC.out W G; simpa [CE.out] using this)
  clear HC
  go_enter Tryd.func21, Tryd.ntmps21
  go_wp2_with fail
  refine (HC'.out _ (HG.out.ext ((Ext.refl _).alloc _))).mono ?_
  rintro e w1 ⟨rfl, hx⟩
  have fs : w.heap.size + 1 ≤ w1.heap.size := by simpa using hx.size
  obtain ⟨fc, ff⟩ := And.intro hx.cells hx.marks
  have C1r0 : w1.cell? ⟨w.heap.size, 0, none⟩ = some (.int .i64 0) := by rw [fc _ _ (by first | omega | (simp; omega) | simp)]; simp [go_sem, *]
  have F1r0 : w1.frozen? ⟨w.heap.size, 0, none⟩ = false := by rw [ff _ _ (by first | omega | (simp; omega) | simp)]; simp [go_sem, *]
  have C1r1 : w1.cell? ⟨w.heap.size, 1, none⟩ = some (.int .i64 0) := by rw [fc _ _ (by first | omega | (simp; omega) | simp)]; simp [go_sem, *]
  have F1r1 : w1.frozen? ⟨w.heap.size, 1, none⟩ = false := by rw [ff _ _ (by first | omega | (simp; omega) | simp)]; simp [go_sem, *]
  clear fc ff
  have X1 : Ext w w1 := Ext.trans (by repeat (first | (with_reducible exact Ext.refl _) | (with_reducible assumption) | (with_reducible refine Ext.alloc ?_ _) | (with_reducible refine Ext.drewN ?_ _) | (with_reducible refine Ext.drew ?_) | (with_reducible refine Ext.setCell ?_ (by simp <;> omega) _))) hx
  clear hx
  go_wp2_with fail
  refine (HP.out _ (HG.out.ext X1)).mono ?_
  rintro e w2 ⟨x, q, rfl, hx⟩
  obtain ⟨fc, ff⟩ := And.intro hx.cells hx.marks
  have C2r0 : w2.cell? ⟨w.heap.size, 0, none⟩ = some (.int .i64 0) := by rw [fc _ _ (by first | omega | (simp; omega) | simp)]; simp [go_sem, *]
  have F2r0 : w2.frozen? ⟨w.heap.size, 0, none⟩ = false := by rw [ff _ _ (by first | omega | (simp; omega) | simp)]; simp [go_sem, *]
  have C2r1 : w2.cell? ⟨w.heap.size, 1, none⟩ = some (.int .i64 0) := by rw [fc _ _ (by first | omega | (simp; omega) | simp)]; simp [go_sem, *]
  have F2r1 : w2.frozen? ⟨w.heap.size, 1, none⟩ = false := by rw [ff _ _ (by first | omega | (simp; omega) | simp)]; simp [go_sem, *]
  clear fc ff
  have X2 : Ext w w2 := Ext.trans X1 hx
  clear hx X1 C1r0 F1r0 C1r1 F1r1
  go_wp2_with fail
  refine bodyPost_ret (v := .tuple #[.agg #[.int .i64 0, .int .i64 0], .int .i64 6]) ?_ rfl ⟨rfl, (by repeat (first | (with_reducible exact Ext.refl _) | (with_reducible assumption) | (with_reducible refine Ext.alloc ?_ _) | (with_reducible refine Ext.drewN ?_ _) | (with_reducible refine Ext.drew ?_) | (with_reducible refine Ext.setCell ?_ (by simp <;> omega) _)))⟩
  simp [results, Tryd.results21, go_sem, *]

set_option maxHeartbeats 1000000 in
theorem parse_c (l : List UInt8) (hl : l.length ≤ 1000) (w : World) (G : Globs w) (n : Int) (h : Lib.parseIntB 64 (Lib.cut l [47]).1 = .ok n) (hc : (Lib.cut l [47]).1.length ≤ 1000) (hb : (Lib.cut l [47]).2.2 = true)
    (h2 : ∀ v, Lib.parseIntB 64 (Lib.cut l [47]).2.1 ≠ .ok v) (hc2 : (Lib.cut l [47]).2.1.length ≤ 1000) :
    Calls Tryd.prog 21 #[.string ⟨l.toArray⟩] w (RetR (0, 0, 6) w) := by
  have HC := Lib.hid (fun W (G : Globs W) => cut_any ⟨l.toArray⟩ ⟨#[47]⟩ (by simpa [ByteArray.size] using hl) W G)
  have HP := Lib.hid (fun W => parse_ok ⟨(Lib.cut l [47]).1.toArray⟩ (by simpa [ByteArray.size] using hc) n h W)
  have HQ := Lib.hid (fun W (G : Globs W) => parse_bad ⟨(Lib.cut l [47]).2.1.toArray⟩ (by simpa [ByteArray.size] using hc2) h2 W G)
  have HG := Lib.hid G
  clear G h hc h2 hc2
  generalize hcE : Lib.cut l [47] = c at *
  obtain ⟨c1, c2, c3⟩ := c
  have CE := Lib.hid hcE
  clear hcE
  have HC' : Hid (∀ (W : World), Globs W → Calls Tryd.prog 39 #[.string ⟨l.toArray⟩, .string ⟨#[47]⟩] W fun e w' => e = .returned (.tuple #[.string ⟨c1.toArray⟩, .string ⟨c2.toArray⟩, .bool c3]) ∧ Ext W w') :=
    Lib.hid (fun W G => by have := HC.out W G; simpa [CE.out] using this)
  clear HC
  simp only at hb
  subst hb
  go_enter Tryd.func21, Tryd.ntmps21
  go_wp2_with fail
  refine (HC'.out _ (HG.out.ext ((Ext.refl _).alloc _))).mono ?_
  rintro e w1 ⟨rfl, hx⟩
  have fs : w.heap.size + 1 ≤ w1.heap.size := by simpa using hx.size
  obtain ⟨fc, ff⟩ := And.intro hx.cells hx.marks
  have C1r0 : w1.cell? ⟨w.heap.size, 0, none⟩ = some (.int .i64 0) := by rw [fc _ _ (by first | omega | (simp; omega) | simp)]; simp [go_sem, *]
  have F1r0 : w1.frozen? ⟨w.heap.size, 0, none⟩ = false := by rw [ff _ _ (by first | omega | (simp; omega) | simp)]; simp [go_sem, *]
  have C1r1 : w1.cell? ⟨w.heap.size, 1, none⟩ = some (.int .i64 0) := by rw [fc _ _ (by first | omega | (simp; omega) | simp)]; simp [go_sem, *]
  have F1r1 : w1.frozen? ⟨w.heap.size, 1, none⟩ = false := by rw [ff _ _ (by first | omega | (simp; omega) | simp)]; simp [go_sem, *]
  clear fc ff
  have X1 : Ext w w1 := Ext.trans (by repeat (first | (with_reducible exact Ext.refl _) | (with_reducible assumption) | (with_reducible refine Ext.alloc ?_ _) | (with_reducible refine Ext.drewN ?_ _) | (with_reducible refine Ext.drew ?_) | (with_reducible refine Ext.setCell ?_ (by simp <;> omega) _))) hx
  clear hx
  go_wp2_with fail
  refine (HP.out _).mono ?_
  rintro e w2 ⟨rfl, hx⟩
  have fs2 : w.heap.size + 1 ≤ w2.heap.size := Nat.le_trans fs hx.size
  obtain ⟨fc, ff⟩ := And.intro hx.cells hx.marks
  have C2r0 : w2.cell? ⟨w.heap.size, 0, none⟩ = some (.int .i64 0) := by rw [fc _ _ (by first | omega | (simp; omega) | simp)]; simp [go_sem, *]
  have F2r0 : w2.frozen? ⟨w.heap.size, 0, none⟩ = false := by rw [ff _ _ (by first | omega | (simp; omega) | simp)]; simp [go_sem, *]
  have C2r1 : w2.cell? ⟨w.heap.size, 1, none⟩ = some (.int .i64 0) := by rw [fc _ _ (by first | omega | (simp; omega) | simp)]; simp [go_sem, *]
  have F2r1 : w2.frozen? ⟨w.heap.size, 1, none⟩ = false := by rw [ff _ _ (by first | omega | (simp; omega) | simp)]; simp [go_sem, *]
  clear fc ff
  have X2 : Ext w w2 := Ext.trans X1 hx
  clear hx X1 C1r0 F1r0 C1r1 F1r1 fs
  have lt2 : w.heap.size < w2.heap.size := by omega
  go_wp2_with fail
  refine (HQ.out _ (HG.out.ext (by repeat (first | (with_reducible exact Ext.refl _) | (with_reducible assumption) | (with_reducible refine Ext.alloc ?_ _) | (with_reducible refine Ext.drewN ?_ _) | (with_reducible refine Ext.drew ?_) | (with_reducible refine Ext.setCell ?_ (by simp <;> omega) _))))).mono ?_
  rintro e w3 ⟨x, q, rfl, hx⟩
  have fs3 : w2.heap.size + 1 ≤ w3.heap.size := by simpa using hx.size
  obtain ⟨fc, ff⟩ := And.intro hx.cells hx.marks
  have C3r0 : w3.cell? ⟨w.heap.size, 0, none⟩ = some (.int .i64 0) := by rw [fc _ _ (by first | omega | (simp; omega) | simp)]; simp [go_sem, *]
  have F3r0 : w3.frozen? ⟨w.heap.size, 0, none⟩ = false := by rw [ff _ _ (by first | omega | (simp; omega) | simp)]; simp [go_sem, *]
  have C3r1 : w3.cell? ⟨w.heap.size, 1, none⟩ = some (.int .i64 0) := by rw [fc _ _ (by first | omega | (simp; omega) | simp)]; simp [go_sem, *]
  have F3r1 : w3.frozen? ⟨w.heap.size, 1, none⟩ = false := by rw [ff _ _ (by first | omega | (simp; omega) | simp)]; simp [go_sem, *]
  have C3b0 : w3.cell? ⟨w2.heap.size, 0, none⟩ = some (.int .i64 n) := by rw [fc _ _ (by first | omega | (simp; omega) | simp)]; simp [go_sem, *]
  have F3b0 : w3.frozen? ⟨w2.heap.size, 0, none⟩ = false := by rw [ff _ _ (by first | omega | (simp; omega) | simp)]; simp [go_sem, *]
  have C3b1 : w3.cell? ⟨w2.heap.size, 1, none⟩ = some (.int .i64 1) := by rw [fc _ _ (by first | omega | (simp; omega) | simp)]; simp [go_sem, *]
  have F3b1 : w3.frozen? ⟨w2.heap.size, 1, none⟩ = false := by rw [ff _ _ (by first | omega | (simp; omega) | simp)]; simp [go_sem, *]
  clear fc ff
  have X3 : Ext w w3 := Ext.trans (by repeat (first | (with_reducible exact Ext.refl _) | (with_reducible assumption) | (with_reducible refine Ext.alloc ?_ _) | (with_reducible refine Ext.drewN ?_ _) | (with_reducible refine Ext.drew ?_) | (with_reducible refine Ext.setCell ?_ (by simp <;> omega) _))) hx
  clear hx X2 C2r0 F2r0 C2r1 F2r1
  have hne : ¬ w2.heap.size = w.heap.size := by omega
  go_wp2_with fail
  refine bodyPost_ret (v := .tuple #[.agg #[.int .i64 0, .int .i64 0], .int .i64 6]) ?_ rfl ⟨rfl, (by repeat (first | (with_reducible exact Ext.refl _) | (with_reducible assumption) | (with_reducible refine Ext.alloc ?_ _) | (with_reducible refine Ext.drewN ?_ _) | (with_reducible refine Ext.drew ?_) | (with_reducible refine Ext.setCell ?_ (by simp <;> omega) _)))⟩
  simp [results, Tryd.results21, go_sem, *]

set_option maxHeartbeats 1000000 in
theorem parse_d (l : List UInt8) (hl : l.length ≤ 1000) (w : World) (G : Globs w) (n d : Int) (h : Lib.parseIntB 64 (Lib.cut l [47]).1 = .ok n) (hc : (Lib.cut l [47]).1.length ≤ 1000) (hb : (Lib.cut l [47]).2.2 = true)
    (h2 : Lib.parseIntB 64 (Lib.cut l [47]).2.1 = .ok d) (hc2 : (Lib.cut l [47]).2.1.length ≤ 1000) (hne : l ≠ []) (i : InI n) (j : InI d) :
    Calls Tryd.prog 21 #[.string ⟨l.toArray⟩] w (RetR (finR l n d) w) := by
  have HT := Lib.hid (fun W (G : Globs W) => text_any n d i j W G)
  have HC := Lib.hid (fun W (G : Globs W) => cut_any ⟨l.toArray⟩ ⟨#[47]⟩ (by simpa [ByteArray.size] using hl) W G)
  have HP := Lib.hid (fun W => parse_ok ⟨(Lib.cut l [47]).1.toArray⟩ (by simpa [ByteArray.size] using hc) n h W)
  have HQ := Lib.hid (fun W => parse_ok ⟨(Lib.cut l [47]).2.1.toArray⟩ (by simpa [ByteArray.size] using hc2) d h2 W)
  have HG := Lib.hid G
  clear G h hc h2 hc2
  generalize hcE : Lib.cut l [47] = c at *
  obtain ⟨c1, c2, c3⟩ := c
  have CE := Lib.hid hcE
  clear hcE
  have HC' : Hid (∀ (W : World), Globs W → Calls Tryd.prog 39 #[.string ⟨l.toArray⟩, .string ⟨#[47]⟩] W fun e w' => e = .returned (.tuple #[.string ⟨c1.toArray⟩, .string ⟨c2.toArray⟩, .bool c3]) ∧ Ext W w') :=
    Lib.hid (fun W G => by have := HC.out W G; simpa [CE.out] using this)
  clear HC
  simp only at hb
  subst hb
  go_enter Tryd.func21, Tryd.ntmps21
  go_wp2_with fail
  refine (HC'.out _ (HG.out.ext ((Ext.refl _).alloc _))).mono ?_
  rintro e w1 ⟨rfl, hx⟩
  have fs : w.heap.size + 1 ≤ w1.heap.size := by simpa using hx.size
  obtain ⟨fc, ff⟩ := And.intro hx.cells hx.marks
  have C1r0 : w1.cell? ⟨w.heap.size, 0, none⟩ = some (.int .i64 0) := by rw [fc _ _ (by first | omega | (simp; omega) | simp)]; simp [go_sem, *]
  have F1r0 : w1.frozen? ⟨w.heap.size, 0, none⟩ = false := by rw [ff _ _ (by first | omega | (simp; omega) | simp)]; simp [go_sem, *]
  have C1r1 : w1.cell? ⟨w.heap.size, 1, none⟩ = some (.int .i64 0) := by rw [fc _ _ (by first | omega | (simp; omega) | simp)]; simp [go_sem, *]
  have F1r1 : w1.frozen? ⟨w.heap.size, 1, none⟩ = false := by rw [ff _ _ (by first | omega | (simp; omega) | simp)]; simp [go_sem, *]
  clear fc ff
  have X1 : Ext w w1 := Ext.trans (by repeat (first | (with_reducible exact Ext.refl _) | (with_reducible assumption) | (with_reducible refine Ext.alloc ?_ _) | (with_reducible refine Ext.drewN ?_ _) | (with_reducible refine Ext.drew ?_) | (with_reducible refine Ext.setCell ?_ (by simp <;> omega) _))) hx
  clear hx
  go_wp2_with fail
  refine (HP.out _).mono ?_
  rintro e w2 ⟨rfl, hx⟩
  have fs2 : w.heap.size + 1 ≤ w2.heap.size := Nat.le_trans fs hx.size
  obtain ⟨fc, ff⟩ := And.intro hx.cells hx.marks
  have C2r0 : w2.cell? ⟨w.heap.size, 0, none⟩ = some (.int .i64 0) := by rw [fc _ _ (by first | omega | (simp; omega) | simp)]; simp [go_sem, *]
  have F2r0 : w2.frozen? ⟨w.heap.size, 0, none⟩ = false := by rw [ff _ _ (by first | omega | (simp; omega) | simp)]; simp [go_sem, *]
  have C2r1 : w2.cell? ⟨w.heap.size, 1, none⟩ = some (.int .i64 0) := by rw [fc _ _ (by first | omega | (simp; omega) | simp)]; simp [go_sem, *]
  have F2r1 : w2.frozen? ⟨w.heap.size, 1, none⟩ = false := by rw [ff _ _ (by first | omega | (simp; omega) | simp)]; simp [go_sem, *]
  clear fc ff
  have X2 : Ext w w2 := Ext.trans X1 hx
  clear hx X1 C1r0 F1r0 C1r1 F1r1 fs
  have lt2 : w.heap.size < w2.heap.size := by omega
  go_wp2_with fail
  refine (HQ.out _).mono ?_
  rintro e w3 ⟨rfl, hx⟩
  have fs3 : w2.heap.size + 1 ≤ w3.heap.size := by simpa using hx.size
  obtain ⟨fc, ff⟩ := And.intro hx.cells hx.marks
  have C3r0 : w3.cell? ⟨w.heap.size, 0, none⟩ = some (.int .i64 0) := by rw [fc _ _ (by first | omega | (simp; omega) | simp)]; simp [go_sem, *]
  have F3r0 : w3.frozen? ⟨w.heap.size, 0, none⟩ = false := by rw [ff _ _ (by first | omega | (simp; omega) | simp)]; simp [go_sem, *]
  have C3r1 : w3.cell? ⟨w.heap.size, 1, none⟩ = some (.int .i64 0) := by rw [fc _ _ (by first | omega | (simp; omega) | simp)]; simp [go_sem, *]
  have F3r1 : w3.frozen? ⟨w.heap.size, 1, none⟩ = false := by rw [ff _ _ (by first | omega | (simp; omega) | simp)]; simp [go_sem, *]
  have C3b0 : w3.cell? ⟨w2.heap.size, 0, none⟩ = some (.int .i64 n) := by rw [fc _ _ (by first | omega | (simp; omega) | simp)]; simp [go_sem, *]
  have F3b0 : w3.frozen? ⟨w2.heap.size, 0, none⟩ = false := by rw [ff _ _ (by first | omega | (simp; omega) | simp)]; simp [go_sem, *]
  have C3b1 : w3.cell? ⟨w2.heap.size, 1, none⟩ = some (.int .i64 1) := by rw [fc _ _ (by first | omega | (simp; omega) | simp)]; simp [go_sem, *]
  have F3b1 : w3.frozen? ⟨w2.heap.size, 1, none⟩ = false := by rw [ff _ _ (by first | omega | (simp; omega) | simp)]; simp [go_sem, *]
  clear fc ff
  have X3 : Ext w w3 := Ext.trans (by repeat (first | (with_reducible exact Ext.refl _) | (with_reducible assumption) | (with_reducible refine Ext.alloc ?_ _) | (with_reducible refine Ext.drewN ?_ _) | (with_reducible refine Ext.drew ?_) | (with_reducible refine Ext.setCell ?_ (by simp <;> omega) _))) hx
  clear hx X2 C2r0 F2r0 C2r1 F2r1
  have hne : ¬ w2.heap.size = w.heap.size := by omega
  go_wp2_with fail
  refine (HT.out _ (HG.out.ext (by repeat (first | (with_reducible exact Ext.refl _) | (with_reducible assumption) | (with_reducible refine Ext.alloc ?_ _) | (with_reducible refine Ext.drewN ?_ _) | (with_reducible refine Ext.drew ?_) | (with_reducible refine Ext.setCell ?_ (by simp <;> omega) _))))).mono ?_
  rintro e w4 ⟨rfl, hx⟩
  have fs4 : w3.heap.size ≤ w4.heap.size := by simpa using hx.size
  obtain ⟨fc, ff⟩ := And.intro hx.cells hx.marks
  have C4r0 : w4.cell? ⟨w.heap.size, 0, none⟩ = some (.int .i64 0) := by rw [fc _ _ (by first | omega | (simp; omega) | simp)]; simp [go_sem, *]
  have F4r0 : w4.frozen? ⟨w.heap.size, 0, none⟩ = false := by rw [ff _ _ (by first | omega | (simp; omega) | simp)]; simp [go_sem, *]
  have C4r1 : w4.cell? ⟨w.heap.size, 1, none⟩ = some (.int .i64 0) := by rw [fc _ _ (by first | omega | (simp; omega) | simp)]; simp [go_sem, *]
  have F4r1 : w4.frozen? ⟨w.heap.size, 1, none⟩ = false := by rw [ff _ _ (by first | omega | (simp; omega) | simp)]; simp [go_sem, *]
  have C4b0 : w4.cell? ⟨w2.heap.size, 0, none⟩ = some (.int .i64 n) := by rw [fc _ _ (by first | omega | (simp; omega) | simp)]; simp [go_sem, *]
  have F4b0 : w4.frozen? ⟨w2.heap.size, 0, none⟩ = false := by rw [ff _ _ (by first | omega | (simp; omega) | simp)]; simp [go_sem, *]
  have C4b1 : w4.cell? ⟨w2.heap.size, 1, none⟩ = some (.int .i64 d) := by rw [fc _ _ (by first | omega | (simp; omega) | simp)]; simp [go_sem, *]
  have F4b1 : w4.frozen? ⟨w2.heap.size, 1, none⟩ = false := by rw [ff _ _ (by first | omega | (simp; omega) | simp)]; simp [go_sem, *]
  clear fc ff
  have X4 : Ext w w4 := Ext.trans (by repeat (first | (with_reducible exact Ext.refl _) | (with_reducible assumption) | (with_reducible refine Ext.alloc ?_ _) | (with_reducible refine Ext.drewN ?_ _) | (with_reducible refine Ext.drew ?_) | (with_reducible refine Ext.setCell ?_ (by simp <;> omega) _))) hx
  clear hx X3 C3r0 F3r0 C3r1 F3r1 C3b0 F3b0 C3b1 F3b1
  go_wp2_with fail
  · rw [fin_no l n d ‹_›]
    refine bodyPost_ret (v := .tuple #[.agg #[.int .i64 0, .int .i64 0], .int .i64 6]) ?_ rfl ⟨rfl, (by repeat (first | (with_reducible exact Ext.refl _) | (with_reducible assumption) | (with_reducible refine Ext.alloc ?_ _) | (with_reducible refine Ext.drewN ?_ _) | (with_reducible refine Ext.drew ?_) | (with_reducible refine Ext.setCell ?_ (by simp <;> omega) _)))⟩
    simp [results, Tryd.results21, go_sem, *]
  · rw [fin_yes l n d ‹_›]
    refine bodyPost_ret (v := .tuple #[.agg #[.int .i64 n, .int .i64 d], .int .i64 0]) ?_ rfl ⟨rfl, (by repeat (first | (with_reducible exact Ext.refl _) | (with_reducible assumption) | (with_reducible refine Ext.alloc ?_ _) | (with_reducible refine Ext.drewN ?_ _) | (with_reducible refine Ext.drew ?_) | (with_reducible refine Ext.setCell ?_ (by simp <;> omega) _)))⟩
    simp [results, Tryd.results21, go_sem, *]

set_option maxHeartbeats 1000000 in
theorem parse_b (l : List UInt8) (hl : l.length ≤ 1000) (w : World) (G : Globs w) (n : Int) (h : Lib.parseIntB 64 (Lib.cut l [47]).1 = .ok n) (hc : (Lib.cut l [47]).1.length ≤ 1000) (hb : (Lib.cut l [47]).2.2 = false) (hne : l ≠ []) (i : InI n) :
    Calls Tryd.prog 21 #[.string ⟨l.toArray⟩] w (RetR (finR l n 1) w) := by
  have HT := Lib.hid (fun W (G : Globs W) => text_any n 1 i ⟨by decide, by decide⟩ W G)
  have HC := Lib.hid (fun W (G : Globs W) => cut_any ⟨l.toArray⟩ ⟨#[47]⟩ (by simpa [ByteArray.size] using hl) W G)
  have HP := Lib.hid (fun W => parse_ok ⟨(Lib.cut l [47]).1.toArray⟩ (by simpa [ByteArray.size] using hc) n h W)
  have HG := Lib.hid G
  clear G h hc
  generalize hcE : Lib.cut l [47] = c at *
  obtain ⟨c1, c2, c3⟩ := c
  have CE := Lib.hid hcE
  clear hcE
  have HC' : Hid (∀ (W : World), Globs W → Calls Tryd.prog 39 #[.string ⟨l.toArray⟩, .string ⟨#[47]⟩] W fun e w' => e = .returned (.tuple #[.string ⟨c1.toArray⟩, .string ⟨c2.toArray⟩, .bool c3]) ∧ Ext W w') :=
    Lib.hid (fun W G => by have := HC.out W G; simpa [CE.out] using this)
  clear HC
  simp only at hb
  subst hb
  go_enter Tryd.func21, Tryd.ntmps21
  go_wp2_with fail
  refine (HC'.out _ (HG.out.ext ((Ext.refl _).alloc _))).mono ?_
  rintro e w1 ⟨rfl, hx⟩
  have fs : w.heap.size + 1 ≤ w1.heap.size := by simpa using hx.size
  obtain ⟨fc, ff⟩ := And.intro hx.cells hx.marks
  have C1r0 : w1.cell? ⟨w.heap.size, 0, none⟩ = some (.int .i64 0) := by rw [fc _ _ (by first | omega | (simp; omega) | simp)]; simp [go_sem, *]
  have F1r0 : w1.frozen? ⟨w.heap.size, 0, none⟩ = false := by rw [ff _ _ (by first | omega | (simp; omega) | simp)]; simp [go_sem, *]
  have C1r1 : w1.cell? ⟨w.heap.size, 1, none⟩ = some (.int .i64 0) := by rw [fc _ _ (by first | omega | (simp; omega) | simp)]; simp [go_sem, *]
  have F1r1 : w1.frozen? ⟨w.heap.size, 1, none⟩ = false := by rw [ff _ _ (by first | omega | (simp; omega) | simp)]; simp [go_sem, *]
  clear fc ff
  have X1 : Ext w w1 := Ext.trans (by repeat (first | (with_reducible exact Ext.refl _) | (with_reducible assumption) | (with_reducible refine Ext.alloc ?_ _) | (with_reducible refine Ext.drewN ?_ _) | (with_reducible refine Ext.drew ?_) | (with_reducible refine Ext.setCell ?_ (by simp <;> omega) _))) hx
  clear hx
  go_wp2_with fail
  refine (HP.out _).mono ?_
  rintro e w2 ⟨rfl, hx⟩
  have fs2 : w.heap.size + 1 ≤ w2.heap.size := Nat.le_trans fs hx.size
  obtain ⟨fc, ff⟩ := And.intro hx.cells hx.marks
  have C2r0 : w2.cell? ⟨w.heap.size, 0, none⟩ = some (.int .i64 0) := by rw [fc _ _ (by first | omega | (simp; omega) | simp)]; simp [go_sem, *]
  have F2r0 : w2.frozen? ⟨w.heap.size, 0, none⟩ = false := by rw [ff _ _ (by first | omega | (simp; omega) | simp)]; simp [go_sem, *]
  have C2r1 : w2.cell? ⟨w.heap.size, 1, none⟩ = some (.int .i64 0) := by rw [fc _ _ (by first | omega | (simp; omega) | simp)]; simp [go_sem, *]
  have F2r1 : w2.frozen? ⟨w.heap.size, 1, none⟩ = false := by rw [ff _ _ (by first | omega | (simp; omega) | simp)]; simp [go_sem, *]
  clear fc ff
  have X2 : Ext w w2 := Ext.trans X1 hx
  clear hx X1 C1r0 F1r0 C1r1 F1r1 fs
  have lt2 : w.heap.size < w2.heap.size := by omega
  have hne : ¬ w2.heap.size = w.heap.size := by omega
  go_wp2_with fail
  refine (HT.out _ (HG.out.ext (by repeat (first | (with_reducible exact Ext.refl _) | (with_reducible assumption) | (with_reducible refine Ext.alloc ?_ _) | (with_reducible refine Ext.drewN ?_ _) | (with_reducible refine Ext.drew ?_) | (with_reducible refine Ext.setCell ?_ (by simp <;> omega) _))))).mono ?_
  rintro e w4 ⟨rfl, hx⟩
  have fs4 : w2.heap.size + 1 ≤ w4.heap.size := by simpa using hx.size
  obtain ⟨fc, ff⟩ := And.intro hx.cells hx.marks
  have C4r0 : w4.cell? ⟨w.heap.size, 0, none⟩ = some (.int .i64 0) := by rw [fc _ _ (by first | omega | (simp; omega) | simp)]; simp [go_sem, *]
  have F4r0 : w4.frozen? ⟨w.heap.size, 0, none⟩ = false := by rw [ff _ _ (by first | omega | (simp; omega) | simp)]; simp [go_sem, *]
  have C4r1 : w4.cell? ⟨w.heap.size, 1, none⟩ = some (.int .i64 0) := by rw [fc _ _ (by first | omega | (simp; omega) | simp)]; simp [go_sem, *]
  have F4r1 : w4.frozen? ⟨w.heap.size, 1, none⟩ = false := by rw [ff _ _ (by first | omega | (simp; omega) | simp)]; simp [go_sem, *]
  have C4b0 : w4.cell? ⟨w2.heap.size, 0, none⟩ = some (.int .i64 n) := by rw [fc _ _ (by first | omega | (simp; omega) | simp)]; simp [go_sem, *]
  have F4b0 : w4.frozen? ⟨w2.heap.size, 0, none⟩ = false := by rw [ff _ _ (by first | omega | (simp; omega) | simp)]; simp [go_sem, *]
  have C4b1 : w4.cell? ⟨w2.heap.size, 1, none⟩ = some (.int .i64 1) := by rw [fc _ _ (by first | omega | (simp; omega) | simp)]; simp [go_sem, *]
  have F4b1 : w4.frozen? ⟨w2.heap.size, 1, none⟩ = false := by rw [ff _ _ (by first | omega | (simp; omega) | simp)]; simp [go_sem, *]
  clear fc ff
  have X4 : Ext w w4 := Ext.trans (by repeat (first | (with_reducible exact Ext.refl _) | (with_reducible assumption) | (with_reducible refine Ext.alloc ?_ _) | (with_reducible refine Ext.drewN ?_ _) | (with_reducible refine Ext.drew ?_) | (with_reducible refine Ext.setCell ?_ (by simp <;> omega) _))) hx
  clear hx X2 C2r0 F2r0 C2r1 F2r1
  go_wp2_with fail
  · rw [fin_no l n 1 ‹_›]
    refine bodyPost_ret (v := .tuple #[.agg #[.int .i64 0, .int .i64 0], .int .i64 6]) ?_ rfl ⟨rfl, (by repeat (first | (with_reducible exact Ext.refl _) | (with_reducible assumption) | (with_reducible refine Ext.alloc ?_ _) | (with_reducible refine Ext.drewN ?_ _) | (with_reducible refine Ext.drew ?_) | (with_reducible refine Ext.setCell ?_ (by simp <;> omega) _)))⟩
    simp [results, Tryd.results21, go_sem, *]
  · rw [fin_yes l n 1 ‹_›]
    refine bodyPost_ret (v := .tuple #[.agg #[.int .i64 n, .int .i64 1], .int .i64 0]) ?_ rfl ⟨rfl, (by repeat (first | (with_reducible exact Ext.refl _) | (with_reducible assumption) | (with_reducible refine Ext.alloc ?_ _) | (with_reducible refine Ext.drewN ?_ _) | (with_reducible refine Ext.drew ?_) | (with_reducible refine Ext.setCell ?_ (by simp <;> omega) _)))⟩
    simp [results, Tryd.results21, go_sem, *]

theorem cut_len (l sep : List UInt8) : (Lib.cut l sep).1.length ≤ l.length ∧ (Lib.cut l sep).2.1.length ≤ l.length := by
  unfold Lib.cut
  split
  · simp; omega
  · simp

theorem inI_of (l : List UInt8) (v : Int) (h : Lib.parseIntB 64 l = .ok v) : InI v := by
  have := Lib.parseIntB_bounds h
  simp at this
  exact ⟨this.1, by omega⟩

theorem parse_any (l : List UInt8) (hl : l.length ≤ 1000) (w : World) (G : Globs w) : Calls Tryd.prog 21 #[.string ⟨l.toArray⟩] w (RetR (parseR l) w) := by
  obtain ⟨hc, hc2⟩ := cut_len l [47]
  unfold parseR
  rcases hp : Lib.parseIntB 64 (Lib.cut l [47]).1 with n | _ | _
  · have hne : l ≠ [] := by
      rintro rfl
      have e : (Lib.cut [] [47]).1 = [] := by decide +kernel
      rw [e] at hp
      cases hp
    simp only
    cases hb : (Lib.cut l [47]).2.2 with
    | true =>
      rw [if_pos rfl]
      rcases hq : Lib.parseIntB 64 (Lib.cut l [47]).2.1 with d | _ | _
      · exact parse_d l hl w G n d hp (by omega) hb hq (by omega) hne (inI_of _ _ hp) (inI_of _ _ hq)
      · exact parse_c l hl w G n hp (by omega) hb (by rw [hq]; intro v hv; cases hv) (by omega)
      · exact parse_c l hl w G n hp (by omega) hb (by rw [hq]; intro v hv; cases hv) (by omega)
    | false =>
      rw [if_neg (by simp)]
      exact parse_b l hl w G n hp (by omega) hb hne (inI_of _ _ hp)
  · exact parse_a l hl w G (by rw [hp]; intro v hv; cases hv) (by omega)
  · exact parse_a l hl w G (by rw [hp]; intro v hv; cases hv) (by omega)

end Go.Proofs.YtifhgkdajnngnaaDoor
