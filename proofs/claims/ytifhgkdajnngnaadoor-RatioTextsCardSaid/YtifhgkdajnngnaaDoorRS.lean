/- Contracts of the reference: Number (38), Text (20); the walk of RatioTexts (5). -/
import Derived.Test.YtifhgkdajnngnaaDoorRR6
import Derived.Laws.BytesString
import Derived.Test.YtifhgkdajnngnaaDoorNum
import Derived.Lib.ItoaLen
namespace Go.Proofs.YtifhgkdajnngnaaDoor
open Go.RowKit Go.Par
theorem digits_more (x : Nat) (h : ¬ x < 10) : Lib.decDigits x = Lib.decDigits (x / 10) ++ [UInt8.ofNat (48 + x % 10)] := by
  rw [Lib.decDigits, dif_neg h]
theorem conv_one (W : World) (m : Int) : (convert 77 9 (.slice (some ⟨W.heap.size, 0, none⟩) 1 1)).run Tryd.prog (W.alloc (.cells #[.int .u8 m] 5)) = .ok (.string ⟨#[UInt8.ofNat m.toNat]⟩) (W.alloc (.cells #[.int .u8 m] 5)) := by
  rw [run_convert_bytes_string _ 77 9 5 _ 1 1 Tryd.underlying77 Tryd.underlying5 Tryd.underlying9]
  rw [run_bytesToString _ _ 1 1 [m] (by simp [go_sem])]
  rfl
set_option maxRecDepth 100000 in
set_option maxHeartbeats 1000000 in
theorem number_any (n : Int) (i : InI n) (w : World) :
    Calls Tryd.prog 38 #[.int .i64 n] w fun e w' => e = .returned (.string ⟨(Lib.itoa n).toArray⟩) ∧ Ext w w' := by
  have HO := Lib.hid (fun W : World => of_any n i W)
  have hab := abs_lt i
  rw [wv_small _ _ (by omega)] at HO
  generalize hsg : decide (n < 0) = sg at *
  have Hsg := Lib.hid hsg
  clear hsg
  go_enter Tryd.func38, Tryd.ntmps38
  go_wp2_with fail
  refine (HO.out _).mono ?_
  rintro e w1 ⟨rfl, hx⟩
  have Hws := Lib.hid hx.size
  go_wp2_with fail
  go_loopw [4] (fun s W => ∃ (x : Nat) (l : List UInt8), x ≤ 9223372036854775808 ∧ Hid (Lib.decDigits n.natAbs = Lib.decDigits x ++ l) ∧ s = .string ⟨l.toArray⟩ ∧ Ext w W ∧ Box3 W w1.heap.size (.bool sg) (.int .u64 0) (.int .u64 x)) (fun _ W => magAt W w1.heap.size)
  case atStart =>
    refine ⟨n.natAbs, [], hab, Lib.hid (by simp), rfl, hx.alloc _, ?_⟩
    refine ⟨⟨?_, ?_, ?_⟩, ⟨?_, ?_, ?_⟩, ?_⟩ <;> simp [go_sem]
  case round =>
    obtain ⟨x, l, hxl, hd, rfl, hE, hB⟩ := hrel
    have hconv := conv_one
    have hl : l.length ≤ 20 := by
      have h1 := congrArg List.length hd.out
      rw [List.length_append, Lib.decDigits_length] at h1
      have := Lib.nDigits_le20 n.natAbs (by omega)
      omega
    have hmag : magAt wr w1.heap.size = x := by
      obtain ⟨⟨-, a2, a3⟩, -, -⟩ := hB
      simp only [magAt, cellI, a2, a3, intOf]
      omega
    have Hmag := Lib.hid hmag
    clear hmag
    obtain ⟨⟨cb0, cb1, cb2⟩, ⟨fb0, fb1, fb2⟩, lb⟩ := hB
    by_cases h : x < 10
    · have h' : ¬ (9 : Int) < x := by omega
      have hd' := hd.out
      rw [Lib.decDigits_one h] at hd'
      have hsum : (UInt8.ofNat (48 + x)) = 48 + UInt8.ofNat x := by rw [UInt8.ofNat_add]; rfl
      rw [hsum] at hd'
      have Hd := Lib.hid hd'
      clear hd' hsum
      cases sg
      · go_wp2_with fail
        go_ret
        have hws := Hws.out
        refine ⟨?_, (by repeat (first | (with_reducible exact Ext.refl _) | (with_reducible assumption) | (with_reducible refine Ext.alloc ?_ _) | (with_reducible refine Ext.drewN ?_ _) | (with_reducible refine Ext.drew ?_) | (with_reducible refine Ext.setCell ?_ (by simp <;> omega) _)))⟩
        have hn : ¬ n < 0 := of_decide_eq_false Hsg.out
        have e : Lib.itoa n = [48 + UInt8.ofNat x] ++ l := by
          rw [← Hd.out, Lib.itoa, if_neg hn]; congr 1; omega
        rw [e, ← bapp]
        rfl
      · go_wp2_with fail
        go_ret
        have hws := Hws.out
        refine ⟨?_, (by repeat (first | (with_reducible exact Ext.refl _) | (with_reducible assumption) | (with_reducible refine Ext.alloc ?_ _) | (with_reducible refine Ext.drewN ?_ _) | (with_reducible refine Ext.drew ?_) | (with_reducible refine Ext.setCell ?_ (by simp <;> omega) _)))⟩
        have hn : n < 0 := of_decide_eq_true Hsg.out
        have e : Lib.itoa n = [45] ++ ([48 + UInt8.ofNat x] ++ l) := by
          rw [← Hd.out, Lib.itoa, if_pos hn]; rfl
        rw [e, ← bapp, ← bapp]
        rfl
    · have h' : (9 : Int) < x := by omega
      have hd' := hd.out
      rw [digits_more x h] at hd'
      have hsum : (UInt8.ofNat (48 + x % 10)) = 48 + UInt8.ofNat (x % 10) := by rw [UInt8.ofNat_add]; rfl
      rw [hsum] at hd'
      have Hd := Lib.hid hd'
      clear hd' hsum
      go_wp2_with fail
      go_roundw
      case rel =>
        have hws := Hws.out
        refine ⟨x / 10, [48 + UInt8.ofNat (x % 10)] ++ l, by omega, Lib.hid (by rw [Hd.out]; simp), ?_, (by repeat (first | (with_reducible exact Ext.refl _) | (with_reducible assumption) | (with_reducible refine Ext.alloc ?_ _) | (with_reducible refine Ext.drewN ?_ _) | (with_reducible refine Ext.drew ?_) | (with_reducible refine Ext.setCell ?_ (by simp <;> omega) _))), ?_⟩
        · rw [← bapp]
        · refine ⟨⟨?_, ?_, ?_⟩, ⟨?_, ?_, ?_⟩, ?_⟩ <;> simp [go_sem, *]
      case measure =>
        rw [Hmag.out]
        simp [magAt, cellI, go_sem, *, intOf]
        omega

set_option maxRecDepth 100000 in
set_option maxHeartbeats 1000000 in
theorem text_walk (n d : Int) (v : Bool) (a b : List UInt8) (ha : a.length ≤ 21) (hb : b.length ≤ 21) (w : World)
    (hV : ∀ W : World, Calls Tryd.prog 18 #[.int .i64 n, .int .i64 d] W fun e w' => e = .returned (.bool v) ∧ Ext W w')
    (hA : ∀ W : World, Calls Tryd.prog 38 #[.int .i64 n] W fun e w' => e = .returned (.string ⟨a.toArray⟩) ∧ Ext W w')
    (hB : ∀ W : World, Calls Tryd.prog 38 #[.int .i64 d] W fun e w' => e = .returned (.string ⟨b.toArray⟩) ∧ Ext W w') :
    Calls Tryd.prog 20 #[.int .i64 n, .int .i64 d] w fun e w' => e = .returned (.string ⟨(if v then (if d < 2 then a else a ++ 47 :: b) else []).toArray⟩) ∧ Ext w w' := by
  have HV := Lib.hid hV
  have HA := Lib.hid hA
  have HB := Lib.hid hB
  clear hV hA hB
  cases v
  · go_enter Tryd.func20, Tryd.ntmps20
    go_wp2_with fail
    refine (HV.out _).mono ?_
    rintro e w1 ⟨rfl, hx⟩
    go_wp2_with fail
    go_ret
    exact ⟨rfl, hx⟩
  · by_cases h : d < 2
    · go_enter Tryd.func20, Tryd.ntmps20
      go_wp2_with fail
      refine (HV.out _).mono ?_
      rintro e w1 ⟨rfl, hx⟩
      go_wp2_with fail
      refine (HA.out _).mono ?_
      rintro e w2 ⟨rfl, hx2⟩
      go_wp2_with fail
      go_ret
      refine ⟨?_, hx.trans hx2⟩
      simp [h]
    · have h' : 2 ≤ d := by omega
      go_enter Tryd.func20, Tryd.ntmps20
      go_wp2_with fail
      refine (HV.out _).mono ?_
      rintro e w1 ⟨rfl, hx⟩
      go_wp2_with fail
      refine (HA.out _).mono ?_
      rintro e w2 ⟨rfl, hx2⟩
      go_wp2_with fail
      refine (HB.out _).mono ?_
      rintro e w3 ⟨rfl, hx3⟩
      go_wp2_with fail
      go_ret
      refine ⟨?_, (hx.trans hx2).trans hx3⟩
      simp only [h, if_true, if_false]
      rw [show a ++ 47 :: b = (a ++ [47]) ++ b by simp, ← bapp, ← bapp]
      rfl
theorem textref_any (n d : Int) (i : InI n) (j : InI d) (W : World) :
    Calls Tryd.prog 20 #[.int .i64 n, .int .i64 d] W fun e w' => e = .returned (.string ⟨(textL n d).toArray⟩) ∧ Ext W w' := by
  have h := text_walk n d (validB n d) (Lib.itoa n) (Lib.itoa d) (Lib.itoa_length_le n i.1 i.2) (Lib.itoa_length_le d j.1 j.2) W (fun W => validref_any n d i j W) (fun W => number_any n i W) (fun W => number_any d j W)
  have e : (if validB n d = true then (if d < 2 then Lib.itoa n else Lib.itoa n ++ 47 :: Lib.itoa d) else []) = textL n d := by
    unfold textL
    cases v : validB n d
    · rfl
    · obtain ⟨p, c⟩ := valid_one v
      simp only [if_true]
      unfold oneP at *
      by_cases h0 : n = 0 ∧ d = 0
      · obtain ⟨rfl, rfl⟩ := h0
        simp
      · simp only [h0, if_false] at *
        by_cases h1 : d = 1
        · subst h1; simp
        · rw [if_neg (by omega), if_neg h1]
  rw [e] at h
  exact h
theorem parse_text (n d : Int) (i : InI n) (j : InI d) (v : validB n d = true) : parseR (textL n d) = ((oneP n d).1, (oneP n d).2, 0) := by
  obtain ⟨p, c⟩ := valid_one v
  have hi : InI (oneP n d).1 ∧ InI (oneP n d).2 := by
    unfold oneP; split
    · exact ⟨⟨by decide, by decide⟩, ⟨by decide, by decide⟩⟩
    · exact ⟨i, j⟩
  have ht : textL (oneP n d).1 (oneP n d).2 = textL n d := by
    have v' : validB (oneP n d).1 (oneP n d).2 = true := valid_of p c
    rw [textL, textL, if_pos v', if_pos v, one_of_pos p]
  have hne : textL n d ≠ [] := by
    rw [textL, if_pos v]
    intro h
    exact Go.Plain.itoa_ne _ (List.append_eq_nil_iff.1 h).1
  have hf : finR (textL n d) (oneP n d).1 (oneP n d).2 = ((oneP n d).1, (oneP n d).2, 0) := fin_yes _ _ _ ⟨by simp [hne], by simp [ht]⟩
  have h47 : (47 : UInt8) ∉ Lib.itoa (oneP n d).1 := Go.Plain.itoa_no _ _ (by decide) (by decide)
  have hp1 := Go.Plain.parseInt_itoa _ hi.1.1 hi.1.2
  have hp2 := Go.Plain.parseInt_itoa _ hi.2.1 hi.2.2
  by_cases h1 : (oneP n d).2 = 1
  · have e : textL n d = Lib.itoa (oneP n d).1 := by rw [textL, if_pos v, if_pos h1, List.append_nil]
    unfold parseR
    rw [h1] at hf ⊢
    rw [e] at hf ⊢
    rw [Go.Plain.cut_none _ _ h47]
    simp only [hp1, Bool.false_eq_true, if_false]
    exact hf
  · have e : textL n d = Lib.itoa (oneP n d).1 ++ 47 :: Lib.itoa (oneP n d).2 := by rw [textL, if_pos v, if_neg h1]
    unfold parseR
    rw [e] at hf ⊢
    rw [Go.Plain.cut_at _ _ _ h47]
    simp only [hp1, hp2, if_true]
    exact hf
set_option maxRecDepth 100000 in
set_option maxHeartbeats 2000000 in
theorem texts_bad (an ad : Int) (w : World) (G : Globs w) (hT : ∀ W : World, Globs W → Calls Tryd.prog 19 #[.agg #[.int .i64 an, .int .i64 ad]] W fun e w' => e = .returned (.string ⟨#[]⟩) ∧ Ext W w') (hR : ∀ W : World, Calls Tryd.prog 20 #[.int .i64 an, .int .i64 ad] W fun e w' => e = .returned (.string ⟨#[]⟩) ∧ Ext W w') (hP : ∀ W : World, Globs W → Calls Tryd.prog 21 #[.string ⟨#[]⟩] W fun e w' => e = .returned (.tuple #[.agg #[.int .i64 0, .int .i64 0], .int .i64 6]) ∧ Ext W w') :
    Calls Tryd.prog 5 #[.agg #[.int .i64 an, .int .i64 ad]] w fun e w' => e = .returned (.bool true) ∧ Ext w w' := by
  have HA := Lib.hid (fun W (G : Globs W) => awake_any W G)
  have HG := Lib.hid G
  have HT := Lib.hid hT
  have HR := Lib.hid hR
  have HP := Lib.hid hP
  clear G hT hR hP
  have X0 : Ext w w := Ext.refl w
  go_enter Tryd.func5, Tryd.ntmps5
  go_wp2_with fail
  refine (HT.out _ (HG.out.ext (by repeat (first | (with_reducible exact Ext.refl _) | (with_reducible assumption) | (with_reducible refine Ext.alloc ?_ _) | (with_reducible refine Ext.drewN ?_ _) | (with_reducible refine Ext.drew ?_) | (with_reducible refine Ext.setCell ?_ (by simp <;> omega) _))))).mono ?_
  rintro e w1 ⟨rfl, hx⟩
  have fs1 : w.heap.size + 1 ≤ w1.heap.size := by simpa using hx.size
  obtain ⟨fc, ff⟩ := And.intro hx.cells hx.marks
  have C1a0 : w1.cell? ⟨w.heap.size, 0, none⟩ = some (Value.int IntKind.i64 an) := by rw [fc _ _ (by first | omega | (simp; omega) | simp)]; simp [go_sem, *]
  have F1a0 : w1.frozen? ⟨w.heap.size, 0, none⟩ = false := by rw [ff _ _ (by first | omega | (simp; omega) | simp)]; simp [go_sem, *]
  have C1a1 : w1.cell? ⟨w.heap.size, 1, none⟩ = some (Value.int IntKind.i64 ad) := by rw [fc _ _ (by first | omega | (simp; omega) | simp)]; simp [go_sem, *]
  have F1a1 : w1.frozen? ⟨w.heap.size, 1, none⟩ = false := by rw [ff _ _ (by first | omega | (simp; omega) | simp)]; simp [go_sem, *]
  clear fc ff
  have X1 : Ext w w1 := Ext.trans (by repeat (first | (with_reducible exact Ext.refl _) | (with_reducible assumption) | (with_reducible refine Ext.alloc ?_ _) | (with_reducible refine Ext.drewN ?_ _) | (with_reducible refine Ext.drew ?_) | (with_reducible refine Ext.setCell ?_ (by simp <;> omega) _))) hx
  clear hx 
  have l1a : w.heap.size < w1.heap.size := by omega
  go_wp2_with fail
  refine (HA.out _ (HG.out.ext (by repeat (first | (with_reducible exact Ext.refl _) | (with_reducible assumption) | (with_reducible refine Ext.alloc ?_ _) | (with_reducible refine Ext.drewN ?_ _) | (with_reducible refine Ext.drew ?_) | (with_reducible refine Ext.setCell ?_ (by simp <;> omega) _))))).mono ?_
  rintro e w2 ⟨rfl, hx⟩
  have fs2 : w1.heap.size ≤ w2.heap.size := by simpa using hx.size
  obtain ⟨fc, ff⟩ := And.intro hx.cells hx.marks
  have C2a0 : w2.cell? ⟨w.heap.size, 0, none⟩ = some (Value.int IntKind.i64 an) := by rw [fc _ _ (by first | omega | (simp; omega) | simp)]; simp [go_sem, *]
  have F2a0 : w2.frozen? ⟨w.heap.size, 0, none⟩ = false := by rw [ff _ _ (by first | omega | (simp; omega) | simp)]; simp [go_sem, *]
  have C2a1 : w2.cell? ⟨w.heap.size, 1, none⟩ = some (Value.int IntKind.i64 ad) := by rw [fc _ _ (by first | omega | (simp; omega) | simp)]; simp [go_sem, *]
  have F2a1 : w2.frozen? ⟨w.heap.size, 1, none⟩ = false := by rw [ff _ _ (by first | omega | (simp; omega) | simp)]; simp [go_sem, *]
  clear fc ff
  have X2 : Ext w w2 := Ext.trans (by repeat (first | (with_reducible exact Ext.refl _) | (with_reducible assumption) | (with_reducible refine Ext.alloc ?_ _) | (with_reducible refine Ext.drewN ?_ _) | (with_reducible refine Ext.drew ?_) | (with_reducible refine Ext.setCell ?_ (by simp <;> omega) _))) hx
  clear hx X1 C1a0 F1a0 C1a1 F1a1
  have l2a : w.heap.size < w2.heap.size := by omega
  go_wp2_with fail
  refine (HR.out _).mono ?_
  rintro e w3 ⟨rfl, hx⟩
  have fs3 : w2.heap.size ≤ w3.heap.size := by simpa using hx.size
  obtain ⟨fc, ff⟩ := And.intro hx.cells hx.marks
  have C3a0 : w3.cell? ⟨w.heap.size, 0, none⟩ = some (Value.int IntKind.i64 an) := by rw [fc _ _ (by first | omega | (simp; omega) | simp)]; simp [go_sem, *]
  have F3a0 : w3.frozen? ⟨w.heap.size, 0, none⟩ = false := by rw [ff _ _ (by first | omega | (simp; omega) | simp)]; simp [go_sem, *]
  have C3a1 : w3.cell? ⟨w.heap.size, 1, none⟩ = some (Value.int IntKind.i64 ad) := by rw [fc _ _ (by first | omega | (simp; omega) | simp)]; simp [go_sem, *]
  have F3a1 : w3.frozen? ⟨w.heap.size, 1, none⟩ = false := by rw [ff _ _ (by first | omega | (simp; omega) | simp)]; simp [go_sem, *]
  clear fc ff
  have X3 : Ext w w3 := Ext.trans (by repeat (first | (with_reducible exact Ext.refl _) | (with_reducible assumption) | (with_reducible refine Ext.alloc ?_ _) | (with_reducible refine Ext.drewN ?_ _) | (with_reducible refine Ext.drew ?_) | (with_reducible refine Ext.setCell ?_ (by simp <;> omega) _))) hx
  clear hx X2 C2a0 F2a0 C2a1 F2a1
  have l3a : w.heap.size < w3.heap.size := by omega
  go_wp2_with fail
  refine (HP.out _ (HG.out.ext (by repeat (first | (with_reducible exact Ext.refl _) | (with_reducible assumption) | (with_reducible refine Ext.alloc ?_ _) | (with_reducible refine Ext.drewN ?_ _) | (with_reducible refine Ext.drew ?_) | (with_reducible refine Ext.setCell ?_ (by simp <;> omega) _))))).mono ?_
  rintro e w4 ⟨rfl, hx⟩
  have fs4 : w3.heap.size ≤ w4.heap.size := by simpa using hx.size
  obtain ⟨fc, ff⟩ := And.intro hx.cells hx.marks
  have C4a0 : w4.cell? ⟨w.heap.size, 0, none⟩ = some (Value.int IntKind.i64 an) := by rw [fc _ _ (by first | omega | (simp; omega) | simp)]; simp [go_sem, *]
  have F4a0 : w4.frozen? ⟨w.heap.size, 0, none⟩ = false := by rw [ff _ _ (by first | omega | (simp; omega) | simp)]; simp [go_sem, *]
  have C4a1 : w4.cell? ⟨w.heap.size, 1, none⟩ = some (Value.int IntKind.i64 ad) := by rw [fc _ _ (by first | omega | (simp; omega) | simp)]; simp [go_sem, *]
  have F4a1 : w4.frozen? ⟨w.heap.size, 1, none⟩ = false := by rw [ff _ _ (by first | omega | (simp; omega) | simp)]; simp [go_sem, *]
  clear fc ff
  have X4 : Ext w w4 := Ext.trans (by repeat (first | (with_reducible exact Ext.refl _) | (with_reducible assumption) | (with_reducible refine Ext.alloc ?_ _) | (with_reducible refine Ext.drewN ?_ _) | (with_reducible refine Ext.drew ?_) | (with_reducible refine Ext.setCell ?_ (by simp <;> omega) _))) hx
  clear hx X3 C3a0 F3a0 C3a1 F3a1
  have l4a : w.heap.size < w4.heap.size := by omega
  go_wp2_with fail
  go_ret
  exact ⟨rfl, (by repeat (first | (with_reducible exact Ext.refl _) | (with_reducible assumption) | (with_reducible refine Ext.alloc ?_ _) | (with_reducible refine Ext.drewN ?_ _) | (with_reducible refine Ext.drew ?_) | (with_reducible refine Ext.setCell ?_ (by simp <;> omega) _)))⟩
set_option maxRecDepth 100000 in
set_option maxHeartbeats 2000000 in
theorem texts_ok (an ad x y : Int) (l : List UInt8) (hl : ¬ l = []) (w : World) (G : Globs w) (hT : ∀ W : World, Globs W → Calls Tryd.prog 19 #[.agg #[.int .i64 an, .int .i64 ad]] W fun e w' => e = .returned (.string ⟨l.toArray⟩) ∧ Ext W w') (hR : ∀ W : World, Calls Tryd.prog 20 #[.int .i64 an, .int .i64 ad] W fun e w' => e = .returned (.string ⟨l.toArray⟩) ∧ Ext W w') (hP : ∀ W : World, Globs W → Calls Tryd.prog 21 #[.string ⟨l.toArray⟩] W fun e w' => e = .returned (.tuple #[.agg #[.int .i64 x, .int .i64 y], .int .i64 0]) ∧ Ext W w') (hN : ∀ W : World, Calls Tryd.prog 22 #[.agg #[.int .i64 an, .int .i64 ad]] W fun e w' => e = .returned (.agg #[.int .i64 x, .int .i64 y]) ∧ Ext W w') :
    Calls Tryd.prog 5 #[.agg #[.int .i64 an, .int .i64 ad]] w fun e w' => e = .returned (.bool true) ∧ Ext w w' := by
  have HA := Lib.hid (fun W (G : Globs W) => awake_any W G)
  have HG := Lib.hid G
  have HT := Lib.hid hT
  have HR := Lib.hid hR
  have HP := Lib.hid hP
  have HN := Lib.hid hN
  clear G hT hR hP hN
  have X0 : Ext w w := Ext.refl w
  have hl2 : l.isEmpty = false := by simp [hl]
  have hl3 : (l == []) = false := by simp [hl]
  go_enter Tryd.func5, Tryd.ntmps5
  go_wp2_with fail
  refine (HT.out _ (HG.out.ext (by repeat (first | (with_reducible exact Ext.refl _) | (with_reducible assumption) | (with_reducible refine Ext.alloc ?_ _) | (with_reducible refine Ext.drewN ?_ _) | (with_reducible refine Ext.drew ?_) | (with_reducible refine Ext.setCell ?_ (by simp <;> omega) _))))).mono ?_
  rintro e w1 ⟨rfl, hx⟩
  have fs1 : w.heap.size + 1 ≤ w1.heap.size := by simpa using hx.size
  obtain ⟨fc, ff⟩ := And.intro hx.cells hx.marks
  have C1a0 : w1.cell? ⟨w.heap.size, 0, none⟩ = some (Value.int IntKind.i64 an) := by rw [fc _ _ (by first | omega | (simp; omega) | simp)]; simp [go_sem, *]
  have F1a0 : w1.frozen? ⟨w.heap.size, 0, none⟩ = false := by rw [ff _ _ (by first | omega | (simp; omega) | simp)]; simp [go_sem, *]
  have C1a1 : w1.cell? ⟨w.heap.size, 1, none⟩ = some (Value.int IntKind.i64 ad) := by rw [fc _ _ (by first | omega | (simp; omega) | simp)]; simp [go_sem, *]
  have F1a1 : w1.frozen? ⟨w.heap.size, 1, none⟩ = false := by rw [ff _ _ (by first | omega | (simp; omega) | simp)]; simp [go_sem, *]
  clear fc ff
  have X1 : Ext w w1 := Ext.trans (by repeat (first | (with_reducible exact Ext.refl _) | (with_reducible assumption) | (with_reducible refine Ext.alloc ?_ _) | (with_reducible refine Ext.drewN ?_ _) | (with_reducible refine Ext.drew ?_) | (with_reducible refine Ext.setCell ?_ (by simp <;> omega) _))) hx
  clear hx 
  have l1a : w.heap.size < w1.heap.size := by omega
  go_wp2_with fail
  refine (HA.out _ (HG.out.ext (by repeat (first | (with_reducible exact Ext.refl _) | (with_reducible assumption) | (with_reducible refine Ext.alloc ?_ _) | (with_reducible refine Ext.drewN ?_ _) | (with_reducible refine Ext.drew ?_) | (with_reducible refine Ext.setCell ?_ (by simp <;> omega) _))))).mono ?_
  rintro e w2 ⟨rfl, hx⟩
  have fs2 : w1.heap.size ≤ w2.heap.size := by simpa using hx.size
  obtain ⟨fc, ff⟩ := And.intro hx.cells hx.marks
  have C2a0 : w2.cell? ⟨w.heap.size, 0, none⟩ = some (Value.int IntKind.i64 an) := by rw [fc _ _ (by first | omega | (simp; omega) | simp)]; simp [go_sem, *]
  have F2a0 : w2.frozen? ⟨w.heap.size, 0, none⟩ = false := by rw [ff _ _ (by first | omega | (simp; omega) | simp)]; simp [go_sem, *]
  have C2a1 : w2.cell? ⟨w.heap.size, 1, none⟩ = some (Value.int IntKind.i64 ad) := by rw [fc _ _ (by first | omega | (simp; omega) | simp)]; simp [go_sem, *]
  have F2a1 : w2.frozen? ⟨w.heap.size, 1, none⟩ = false := by rw [ff _ _ (by first | omega | (simp; omega) | simp)]; simp [go_sem, *]
  clear fc ff
  have X2 : Ext w w2 := Ext.trans (by repeat (first | (with_reducible exact Ext.refl _) | (with_reducible assumption) | (with_reducible refine Ext.alloc ?_ _) | (with_reducible refine Ext.drewN ?_ _) | (with_reducible refine Ext.drew ?_) | (with_reducible refine Ext.setCell ?_ (by simp <;> omega) _))) hx
  clear hx X1 C1a0 F1a0 C1a1 F1a1
  have l2a : w.heap.size < w2.heap.size := by omega
  go_wp2_with fail
  refine (HR.out _).mono ?_
  rintro e w3 ⟨rfl, hx⟩
  have fs3 : w2.heap.size ≤ w3.heap.size := by simpa using hx.size
  obtain ⟨fc, ff⟩ := And.intro hx.cells hx.marks
  have C3a0 : w3.cell? ⟨w.heap.size, 0, none⟩ = some (Value.int IntKind.i64 an) := by rw [fc _ _ (by first | omega | (simp; omega) | simp)]; simp [go_sem, *]
  have F3a0 : w3.frozen? ⟨w.heap.size, 0, none⟩ = false := by rw [ff _ _ (by first | omega | (simp; omega) | simp)]; simp [go_sem, *]
  have C3a1 : w3.cell? ⟨w.heap.size, 1, none⟩ = some (Value.int IntKind.i64 ad) := by rw [fc _ _ (by first | omega | (simp; omega) | simp)]; simp [go_sem, *]
  have F3a1 : w3.frozen? ⟨w.heap.size, 1, none⟩ = false := by rw [ff _ _ (by first | omega | (simp; omega) | simp)]; simp [go_sem, *]
  clear fc ff
  have X3 : Ext w w3 := Ext.trans (by repeat (first | (with_reducible exact Ext.refl _) | (with_reducible assumption) | (with_reducible refine Ext.alloc ?_ _) | (with_reducible refine Ext.drewN ?_ _) | (with_reducible refine Ext.drew ?_) | (with_reducible refine Ext.setCell ?_ (by simp <;> omega) _))) hx
  clear hx X2 C2a0 F2a0 C2a1 F2a1
  have l3a : w.heap.size < w3.heap.size := by omega
  go_wp2_with fail
  refine (HP.out _ (HG.out.ext (by repeat (first | (with_reducible exact Ext.refl _) | (with_reducible assumption) | (with_reducible refine Ext.alloc ?_ _) | (with_reducible refine Ext.drewN ?_ _) | (with_reducible refine Ext.drew ?_) | (with_reducible refine Ext.setCell ?_ (by simp <;> omega) _))))).mono ?_
  rintro e w4 ⟨rfl, hx⟩
  have fs4 : w3.heap.size ≤ w4.heap.size := by simpa using hx.size
  obtain ⟨fc, ff⟩ := And.intro hx.cells hx.marks
  have C4a0 : w4.cell? ⟨w.heap.size, 0, none⟩ = some (Value.int IntKind.i64 an) := by rw [fc _ _ (by first | omega | (simp; omega) | simp)]; simp [go_sem, *]
  have F4a0 : w4.frozen? ⟨w.heap.size, 0, none⟩ = false := by rw [ff _ _ (by first | omega | (simp; omega) | simp)]; simp [go_sem, *]
  have C4a1 : w4.cell? ⟨w.heap.size, 1, none⟩ = some (Value.int IntKind.i64 ad) := by rw [fc _ _ (by first | omega | (simp; omega) | simp)]; simp [go_sem, *]
  have F4a1 : w4.frozen? ⟨w.heap.size, 1, none⟩ = false := by rw [ff _ _ (by first | omega | (simp; omega) | simp)]; simp [go_sem, *]
  clear fc ff
  have X4 : Ext w w4 := Ext.trans (by repeat (first | (with_reducible exact Ext.refl _) | (with_reducible assumption) | (with_reducible refine Ext.alloc ?_ _) | (with_reducible refine Ext.drewN ?_ _) | (with_reducible refine Ext.drew ?_) | (with_reducible refine Ext.setCell ?_ (by simp <;> omega) _))) hx
  clear hx X3 C3a0 F3a0 C3a1 F3a1
  have l4a : w.heap.size < w4.heap.size := by omega
  go_wp2_with fail
  refine Go.Par.region 8 [] (by kernel_rfl) (by kernel_rfl) (fun _ _ _ _ _ h => h) ?_
  simp only [List.take_succ_cons, List.take_zero]
  repeat (first
    | (apply step_val; (case hf => rfl); (case hw => (go_simp; done)); (case h => (intro w' hx fc; go_simp; (first | exact rfl | (go_at_call 22; exact HN.out _)))); intro K hK; go_simp; refine hK _ ?_; clear hK K)
    | (apply Go.Par.step_skip; (case hw => (go_simp; first | done | (intro h; cases h))); intro K hK; go_simp; refine hK _ ?_; clear hK K)
    | (apply step_make (mk := fun b => Value.pointer (some ⟨b, 0, none⟩)); (case hf => rfl); (case hw => (go_simp; done)); (case h => (intro w' hx; go_simp; exact rfl)); (case hno => kernel_rfl); simp only [List.nil_append, List.cons_append]))
  refine fin_none (fun w5 hx => ?_)
  have fs5 : w4.heap.size + 1 ≤ w5.heap.size := by simpa using hx.size
  obtain ⟨fc, ff⟩ := And.intro hx.cells hx.marks
  have C5a0 : w5.cell? ⟨w.heap.size, 0, none⟩ = some (Value.int IntKind.i64 an) := by rw [fc _ _ (by first | omega | (simp; omega) | simp)]; simp [go_sem, *]
  have F5a0 : w5.frozen? ⟨w.heap.size, 0, none⟩ = false := by rw [ff _ _ (by first | omega | (simp; omega) | simp)]; simp [go_sem, *]
  have C5a1 : w5.cell? ⟨w.heap.size, 1, none⟩ = some (Value.int IntKind.i64 ad) := by rw [fc _ _ (by first | omega | (simp; omega) | simp)]; simp [go_sem, *]
  have F5a1 : w5.frozen? ⟨w.heap.size, 1, none⟩ = false := by rw [ff _ _ (by first | omega | (simp; omega) | simp)]; simp [go_sem, *]
  have C5b0 : w5.cell? ⟨w4.heap.size, 0, none⟩ = some (Value.int IntKind.i64 x) := by rw [fc _ _ (by first | omega | (simp; omega) | simp)]; simp [go_sem, *]
  have F5b0 : w5.frozen? ⟨w4.heap.size, 0, none⟩ = false := by rw [ff _ _ (by first | omega | (simp; omega) | simp)]; simp [go_sem, *]
  have C5b1 : w5.cell? ⟨w4.heap.size, 1, none⟩ = some (Value.int IntKind.i64 y) := by rw [fc _ _ (by first | omega | (simp; omega) | simp)]; simp [go_sem, *]
  have F5b1 : w5.frozen? ⟨w4.heap.size, 1, none⟩ = false := by rw [ff _ _ (by first | omega | (simp; omega) | simp)]; simp [go_sem, *]
  clear fc ff
  have X5 : Ext w w5 := Ext.trans (by repeat (first | (with_reducible exact Ext.refl _) | (with_reducible assumption) | (with_reducible refine Ext.alloc ?_ _) | (with_reducible refine Ext.drewN ?_ _) | (with_reducible refine Ext.drew ?_) | (with_reducible refine Ext.setCell ?_ (by simp <;> omega) _))) hx
  clear hx X4 C4a0 F4a0 C4a1 F4a1
  have l5a : w.heap.size < w5.heap.size := by omega
  have l5b : w4.heap.size < w5.heap.size := by omega
  simp only [List.drop_succ_cons, List.drop_zero]
  go_wp2_with fail
  go_ret
  exact ⟨rfl, (by repeat (first | (with_reducible exact Ext.refl _) | (with_reducible assumption) | (with_reducible refine Ext.alloc ?_ _) | (with_reducible refine Ext.drewN ?_ _) | (with_reducible refine Ext.drew ?_) | (with_reducible refine Ext.setCell ?_ (by simp <;> omega) _)))⟩
end Go.Proofs.YtifhgkdajnngnaaDoor
