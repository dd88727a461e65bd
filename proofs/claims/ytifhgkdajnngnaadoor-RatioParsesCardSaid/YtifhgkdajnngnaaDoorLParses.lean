/- Proved: for every string, rootcauselaw04.RatioParses returns true, and the string reads as it did (the tied card RatioParsesCardSaid). Its conditions: the card's own (five variables of the library read as the program's initialisers lay them, tied to the text), and no others. Here: the plain law on what Parse answers, the walk of function 6, the row and its card. -/
import Derived.Test.YtifhgkdajnngnaaDoorRW
import Derived.Test.YtifhgkdajnngnaaDoorCards
namespace Go.Proofs.YtifhgkdajnngnaaDoor
open Go.RowKit Go.Par

theorem fin_law (l : List UInt8) (n d : Int) (i : InI n) (j : InI d) (h0 : l ≠ [48] ∨ 0 < d) :
    finR l n d = (0, 0, 6) ∨ ∃ n' d', finR l n d = (n', d', 0) ∧ validB n' d' = true ∧ 0 < d' ∧ textL n' d' = l ∧ InI n' ∧ InI d' := by
  unfold finR
  split
  · exact .inl rfl
  · rename_i h
    obtain ⟨hl, ht⟩ : l ≠ [] ∧ textL n d = l := ⟨fun e => h (.inl e), Classical.byContradiction fun e => h (.inr e)⟩
    have v : validB n d = true := by
      apply Classical.byContradiction
      intro v
      rw [textL, if_neg v] at ht
      exact hl ht.symm
    have hd : 0 < d := by
      rcases h0 with h0 | h0
      · apply Classical.byContradiction
        intro hd
        have : n = 0 ∧ d = 0 := by simpa [validB, hd] using v
        obtain ⟨rfl, rfl⟩ := this
        apply h0
        rw [← ht, textL, if_pos v]
        simp [oneP, Lib.itoa, Lib.decDigits]
      · exact h0
    exact .inr ⟨n, d, rfl, v, hd, ht, i, j⟩

theorem parse_law (l : List UInt8) :
    parseR l = (0, 0, 6) ∨ ∃ n d, parseR l = (n, d, 0) ∧ validB n d = true ∧ 0 < d ∧ textL n d = l ∧ InI n ∧ InI d := by
  unfold parseR
  split
  · rename_i n hp
    split
    · rename_i hb
      split
      · rename_i d hq
        have h0 : l ≠ [48] := by
          rintro rfl
          revert hb
          decide +kernel
        have := fin_law l n d (inI_of _ _ hp) (inI_of _ _ hq) (.inl h0)
        rcases this with h | ⟨n', d', h, r⟩
        · exact .inl h
        · exact .inr ⟨n', d', h, r⟩
      · exact .inl rfl
    · have := fin_law l n 1 (inI_of _ _ hp) ⟨by decide, by decide⟩ (.inr (by decide))
      rcases this with h | ⟨n', d', h, r⟩
      · exact .inl h
      · exact .inr ⟨n', d', h, r⟩
  · exact .inl rfl

theorem bytes_eta (t : ByteArray) : (⟨t.data.toList.toArray⟩ : ByteArray) = t := by cases t; rfl

theorem parse_bytes (t : ByteArray) (ht : t.size ≤ 1000) (w : World) (G : Globs w) : Calls Tryd.prog 21 #[.string t] w (RetR (parseR t.data.toList) w) := by
  have e : t.data.toList.length = t.size := Array.length_toList
  have := parse_any t.data.toList (by omega) w G
  rwa [bytes_eta] at this

set_option maxHeartbeats 1000000 in
theorem parses_sb (s : ByteArray) (hs : s.size ≤ 100) (hp : parseR s.data.toList = (0, 0, 6)) (w : World) (G : Globs w) :
    Calls Tryd.prog 6 #[.string s] w fun e w' => e = .returned (.bool true) ∧ Ext w w' := by
  have HP := Lib.hid (fun W (G : Globs W) => parse_bytes s (by first | omega | (simp [ByteArray.size_extract]; omega)) W G)
  rw [hp] at HP
  have HA := Lib.hid (fun W (G : Globs W) => awake_any W G)
  have HG := Lib.hid G
  clear G hp
  have hz : ((s.size : Int) > 100) = False := by simp; omega
  go_enter Tryd.func6, Tryd.ntmps6
  go_wp2_with fail
  refine (HP.out _ (HG.out.ext (by repeat (first | (with_reducible exact Ext.refl _) | (with_reducible assumption) | (with_reducible refine Ext.alloc ?_ _) | (with_reducible refine Ext.drewN ?_ _) | (with_reducible refine Ext.drew ?_) | (with_reducible refine Ext.setCell ?_ (by simp <;> omega) _))))).mono ?_
  rintro e w1 ⟨rfl, hx⟩
  have X1 : Ext w w1 := Ext.trans (by repeat (first | (with_reducible exact Ext.refl _) | (with_reducible assumption) | (with_reducible refine Ext.alloc ?_ _) | (with_reducible refine Ext.drewN ?_ _) | (with_reducible refine Ext.drew ?_) | (with_reducible refine Ext.setCell ?_ (by simp <;> omega) _))) hx
  clear hx
  go_wp2_with fail
  refine (HA.out _ (HG.out.ext (by repeat (first | (with_reducible exact Ext.refl _) | (with_reducible assumption) | (with_reducible refine Ext.alloc ?_ _) | (with_reducible refine Ext.drewN ?_ _) | (with_reducible refine Ext.drew ?_) | (with_reducible refine Ext.setCell ?_ (by simp <;> omega) _))))).mono ?_
  rintro e w2 ⟨rfl, hx⟩
  have fs2 : w1.heap.size + 1 ≤ w2.heap.size := by simpa using hx.size
  obtain ⟨fc, ff⟩ := And.intro hx.cells hx.marks
  have C0 : w2.cell? ⟨w1.heap.size, 0, none⟩ = some (.int .i64 (0)) := by rw [fc _ _ (by first | omega | (simp; omega) | simp)]; simp [go_sem, *]
  have F0 : w2.frozen? ⟨w1.heap.size, 0, none⟩ = false := by rw [ff _ _ (by first | omega | (simp; omega) | simp)]; simp [go_sem, *]
  have C1 : w2.cell? ⟨w1.heap.size, 1, none⟩ = some (.int .i64 (0)) := by rw [fc _ _ (by first | omega | (simp; omega) | simp)]; simp [go_sem, *]
  have F1 : w2.frozen? ⟨w1.heap.size, 1, none⟩ = false := by rw [ff _ _ (by first | omega | (simp; omega) | simp)]; simp [go_sem, *]
  clear fc ff
  have X2 : Ext w w2 := Ext.trans (by repeat (first | (with_reducible exact Ext.refl _) | (with_reducible assumption) | (with_reducible refine Ext.alloc ?_ _) | (with_reducible refine Ext.drewN ?_ _) | (with_reducible refine Ext.drew ?_) | (with_reducible refine Ext.setCell ?_ (by simp <;> omega) _))) hx
  clear hx X1
  have lt2 : w1.heap.size < w2.heap.size := by omega
  go_wp2_with fail
  go_ret
  exact ⟨rfl, X2⟩

set_option maxHeartbeats 1000000 in
theorem parses_so (s : ByteArray) (hs : s.size ≤ 100) (n d : Int) (hp : parseR s.data.toList = (n, d, 0)) (v : validB n d = true) (hd : 0 < d) (ht : textL n d = s.data.toList) (i : InI n) (j : InI d) (w : World) (G : Globs w) :
    Calls Tryd.prog 6 #[.string s] w fun e w' => e = .returned (.bool true) ∧ Ext w w' := by
  have HP := Lib.hid (fun W (G : Globs W) => parse_bytes s (by first | omega | (simp [ByteArray.size_extract]; omega)) W G)
  rw [hp] at HP
  have HA := Lib.hid (fun W (G : Globs W) => awake_any W G)
  have HG := Lib.hid G
  have HV := Lib.hid (fun W : World => valid_any n d i.1 i.2 j.1 j.2 W)
  rw [v] at HV
  have HT := Lib.hid (fun W (G : Globs W) => text_any n d i j W G)
  rw [ht, bytes_eta] at HT
  clear G hp
  have hz : ((s.size : Int) > 100) = False := by simp; omega
  go_enter Tryd.func6, Tryd.ntmps6
  go_wp2_with fail
  refine (HP.out _ (HG.out.ext (by repeat (first | (with_reducible exact Ext.refl _) | (with_reducible assumption) | (with_reducible refine Ext.alloc ?_ _) | (with_reducible refine Ext.drewN ?_ _) | (with_reducible refine Ext.drew ?_) | (with_reducible refine Ext.setCell ?_ (by simp <;> omega) _))))).mono ?_
  rintro e w1 ⟨rfl, hx⟩
  have X1 : Ext w w1 := Ext.trans (by repeat (first | (with_reducible exact Ext.refl _) | (with_reducible assumption) | (with_reducible refine Ext.alloc ?_ _) | (with_reducible refine Ext.drewN ?_ _) | (with_reducible refine Ext.drew ?_) | (with_reducible refine Ext.setCell ?_ (by simp <;> omega) _))) hx
  clear hx
  go_wp2_with fail
  refine (HA.out _ (HG.out.ext (by repeat (first | (with_reducible exact Ext.refl _) | (with_reducible assumption) | (with_reducible refine Ext.alloc ?_ _) | (with_reducible refine Ext.drewN ?_ _) | (with_reducible refine Ext.drew ?_) | (with_reducible refine Ext.setCell ?_ (by simp <;> omega) _))))).mono ?_
  rintro e w2 ⟨rfl, hx⟩
  have fs2 : w1.heap.size + 1 ≤ w2.heap.size := by simpa using hx.size
  obtain ⟨fc, ff⟩ := And.intro hx.cells hx.marks
  have C0 : w2.cell? ⟨w1.heap.size, 0, none⟩ = some (.int .i64 (n)) := by rw [fc _ _ (by first | omega | (simp; omega) | simp)]; simp [go_sem, *]
  have F0 : w2.frozen? ⟨w1.heap.size, 0, none⟩ = false := by rw [ff _ _ (by first | omega | (simp; omega) | simp)]; simp [go_sem, *]
  have C1 : w2.cell? ⟨w1.heap.size, 1, none⟩ = some (.int .i64 (d)) := by rw [fc _ _ (by first | omega | (simp; omega) | simp)]; simp [go_sem, *]
  have F1 : w2.frozen? ⟨w1.heap.size, 1, none⟩ = false := by rw [ff _ _ (by first | omega | (simp; omega) | simp)]; simp [go_sem, *]
  clear fc ff
  have X2 : Ext w w2 := Ext.trans (by repeat (first | (with_reducible exact Ext.refl _) | (with_reducible assumption) | (with_reducible refine Ext.alloc ?_ _) | (with_reducible refine Ext.drewN ?_ _) | (with_reducible refine Ext.drew ?_) | (with_reducible refine Ext.setCell ?_ (by simp <;> omega) _))) hx
  clear hx X1
  have lt2 : w1.heap.size < w2.heap.size := by omega
  go_wp2_with fail
  refine (HV.out _).mono ?_
  rintro e w3 ⟨rfl, o, k, rfl⟩
  go_wp2_with fail
  refine (HT.out _ (HG.out.ext (by repeat (first | (with_reducible exact Ext.refl _) | (with_reducible assumption) | (with_reducible refine Ext.alloc ?_ _) | (with_reducible refine Ext.drewN ?_ _) | (with_reducible refine Ext.drew ?_) | (with_reducible refine Ext.setCell ?_ (by simp <;> omega) _))))).mono ?_
  rintro e w4 ⟨rfl, hx⟩
  have X4 : Ext w w4 := Ext.trans (by repeat (first | (with_reducible exact Ext.refl _) | (with_reducible assumption) | (with_reducible refine Ext.alloc ?_ _) | (with_reducible refine Ext.drewN ?_ _) | (with_reducible refine Ext.drew ?_) | (with_reducible refine Ext.setCell ?_ (by simp <;> omega) _))) hx
  go_wp2_with fail
  go_ret
  exact ⟨rfl, X4⟩

set_option maxHeartbeats 1000000 in
theorem parses_lb (s : ByteArray) (hs : 100 < s.size) (hp : parseR (s.extract 0 100).data.toList = (0, 0, 6)) (w : World) (G : Globs w) :
    Calls Tryd.prog 6 #[.string s] w fun e w' => e = .returned (.bool true) ∧ Ext w w' := by
  have HP := Lib.hid (fun W (G : Globs W) => parse_bytes (s.extract 0 100) (by first | omega | (simp [ByteArray.size_extract]; omega)) W G)
  rw [hp] at HP
  have HA := Lib.hid (fun W (G : Globs W) => awake_any W G)
  have HG := Lib.hid G
  clear G hp
  have hz : ((s.size : Int) > 100) = True := by simp; omega
  go_enter Tryd.func6, Tryd.ntmps6
  go_wp2_with fail
  refine (HP.out _ (HG.out.ext (by repeat (first | (with_reducible exact Ext.refl _) | (with_reducible assumption) | (with_reducible refine Ext.alloc ?_ _) | (with_reducible refine Ext.drewN ?_ _) | (with_reducible refine Ext.drew ?_) | (with_reducible refine Ext.setCell ?_ (by simp <;> omega) _))))).mono ?_
  rintro e w1 ⟨rfl, hx⟩
  have X1 : Ext w w1 := Ext.trans (by repeat (first | (with_reducible exact Ext.refl _) | (with_reducible assumption) | (with_reducible refine Ext.alloc ?_ _) | (with_reducible refine Ext.drewN ?_ _) | (with_reducible refine Ext.drew ?_) | (with_reducible refine Ext.setCell ?_ (by simp <;> omega) _))) hx
  clear hx
  go_wp2_with fail
  refine (HA.out _ (HG.out.ext (by repeat (first | (with_reducible exact Ext.refl _) | (with_reducible assumption) | (with_reducible refine Ext.alloc ?_ _) | (with_reducible refine Ext.drewN ?_ _) | (with_reducible refine Ext.drew ?_) | (with_reducible refine Ext.setCell ?_ (by simp <;> omega) _))))).mono ?_
  rintro e w2 ⟨rfl, hx⟩
  have fs2 : w1.heap.size + 1 ≤ w2.heap.size := by simpa using hx.size
  obtain ⟨fc, ff⟩ := And.intro hx.cells hx.marks
  have C0 : w2.cell? ⟨w1.heap.size, 0, none⟩ = some (.int .i64 (0)) := by rw [fc _ _ (by first | omega | (simp; omega) | simp)]; simp [go_sem, *]
  have F0 : w2.frozen? ⟨w1.heap.size, 0, none⟩ = false := by rw [ff _ _ (by first | omega | (simp; omega) | simp)]; simp [go_sem, *]
  have C1 : w2.cell? ⟨w1.heap.size, 1, none⟩ = some (.int .i64 (0)) := by rw [fc _ _ (by first | omega | (simp; omega) | simp)]; simp [go_sem, *]
  have F1 : w2.frozen? ⟨w1.heap.size, 1, none⟩ = false := by rw [ff _ _ (by first | omega | (simp; omega) | simp)]; simp [go_sem, *]
  clear fc ff
  have X2 : Ext w w2 := Ext.trans (by repeat (first | (with_reducible exact Ext.refl _) | (with_reducible assumption) | (with_reducible refine Ext.alloc ?_ _) | (with_reducible refine Ext.drewN ?_ _) | (with_reducible refine Ext.drew ?_) | (with_reducible refine Ext.setCell ?_ (by simp <;> omega) _))) hx
  clear hx X1
  have lt2 : w1.heap.size < w2.heap.size := by omega
  go_wp2_with fail
  go_ret
  exact ⟨rfl, X2⟩

set_option maxHeartbeats 1000000 in
theorem parses_lo (s : ByteArray) (hs : 100 < s.size) (n d : Int) (hp : parseR (s.extract 0 100).data.toList = (n, d, 0)) (v : validB n d = true) (hd : 0 < d) (ht : textL n d = (s.extract 0 100).data.toList) (i : InI n) (j : InI d) (w : World) (G : Globs w) :
    Calls Tryd.prog 6 #[.string s] w fun e w' => e = .returned (.bool true) ∧ Ext w w' := by
  have HP := Lib.hid (fun W (G : Globs W) => parse_bytes (s.extract 0 100) (by first | omega | (simp [ByteArray.size_extract]; omega)) W G)
  rw [hp] at HP
  have HA := Lib.hid (fun W (G : Globs W) => awake_any W G)
  have HG := Lib.hid G
  have HV := Lib.hid (fun W : World => valid_any n d i.1 i.2 j.1 j.2 W)
  rw [v] at HV
  have HT := Lib.hid (fun W (G : Globs W) => text_any n d i j W G)
  rw [ht, bytes_eta] at HT
  clear G hp
  have hz : ((s.size : Int) > 100) = True := by simp; omega
  go_enter Tryd.func6, Tryd.ntmps6
  go_wp2_with fail
  refine (HP.out _ (HG.out.ext (by repeat (first | (with_reducible exact Ext.refl _) | (with_reducible assumption) | (with_reducible refine Ext.alloc ?_ _) | (with_reducible refine Ext.drewN ?_ _) | (with_reducible refine Ext.drew ?_) | (with_reducible refine Ext.setCell ?_ (by simp <;> omega) _))))).mono ?_
  rintro e w1 ⟨rfl, hx⟩
  have X1 : Ext w w1 := Ext.trans (by repeat (first | (with_reducible exact Ext.refl _) | (with_reducible assumption) | (with_reducible refine Ext.alloc ?_ _) | (with_reducible refine Ext.drewN ?_ _) | (with_reducible refine Ext.drew ?_) | (with_reducible refine Ext.setCell ?_ (by simp <;> omega) _))) hx
  clear hx
  go_wp2_with fail
  refine (HA.out _ (HG.out.ext (by repeat (first | (with_reducible exact Ext.refl _) | (with_reducible assumption) | (with_reducible refine Ext.alloc ?_ _) | (with_reducible refine Ext.drewN ?_ _) | (with_reducible refine Ext.drew ?_) | (with_reducible refine Ext.setCell ?_ (by simp <;> omega) _))))).mono ?_
  rintro e w2 ⟨rfl, hx⟩
  have fs2 : w1.heap.size + 1 ≤ w2.heap.size := by simpa using hx.size
  obtain ⟨fc, ff⟩ := And.intro hx.cells hx.marks
  have C0 : w2.cell? ⟨w1.heap.size, 0, none⟩ = some (.int .i64 (n)) := by rw [fc _ _ (by first | omega | (simp; omega) | simp)]; simp [go_sem, *]
  have F0 : w2.frozen? ⟨w1.heap.size, 0, none⟩ = false := by rw [ff _ _ (by first | omega | (simp; omega) | simp)]; simp [go_sem, *]
  have C1 : w2.cell? ⟨w1.heap.size, 1, none⟩ = some (.int .i64 (d)) := by rw [fc _ _ (by first | omega | (simp; omega) | simp)]; simp [go_sem, *]
  have F1 : w2.frozen? ⟨w1.heap.size, 1, none⟩ = false := by rw [ff _ _ (by first | omega | (simp; omega) | simp)]; simp [go_sem, *]
  clear fc ff
  have X2 : Ext w w2 := Ext.trans (by repeat (first | (with_reducible exact Ext.refl _) | (with_reducible assumption) | (with_reducible refine Ext.alloc ?_ _) | (with_reducible refine Ext.drewN ?_ _) | (with_reducible refine Ext.drew ?_) | (with_reducible refine Ext.setCell ?_ (by simp <;> omega) _))) hx
  clear hx X1
  have lt2 : w1.heap.size < w2.heap.size := by omega
  go_wp2_with fail
  refine (HV.out _).mono ?_
  rintro e w3 ⟨rfl, o, k, rfl⟩
  go_wp2_with fail
  refine (HT.out _ (HG.out.ext (by repeat (first | (with_reducible exact Ext.refl _) | (with_reducible assumption) | (with_reducible refine Ext.alloc ?_ _) | (with_reducible refine Ext.drewN ?_ _) | (with_reducible refine Ext.drew ?_) | (with_reducible refine Ext.setCell ?_ (by simp <;> omega) _))))).mono ?_
  rintro e w4 ⟨rfl, hx⟩
  have X4 : Ext w w4 := Ext.trans (by repeat (first | (with_reducible exact Ext.refl _) | (with_reducible assumption) | (with_reducible refine Ext.alloc ?_ _) | (with_reducible refine Ext.drewN ?_ _) | (with_reducible refine Ext.drew ?_) | (with_reducible refine Ext.setCell ?_ (by simp <;> omega) _))) hx
  go_wp2_with fail
  go_ret
  exact ⟨rfl, X4⟩

theorem parses_walk (s : ByteArray) (w : World) (G : Globs w) :
    Calls Tryd.prog 6 #[.string s] w fun e w' => e = .returned (.bool true) ∧ Ext w w' := by
  by_cases hs : 100 < s.size
  · rcases parse_law (s.extract 0 100).data.toList with h | ⟨n, d, h, v, hd, ht, i, j⟩
    · exact parses_lb s hs h w G
    · exact parses_lo s hs n d h v hd ht i j w G
  · rcases parse_law s.data.toList with h | ⟨n, d, h, v, hd, ht, i, j⟩
    · exact parses_sb s (by omega) h w G
    · exact parses_so s (by omega) n d h v hd ht i j w G

namespace ratioParses
open Go.ChangeShapes Go.WideShapes Go.ChangeAt Go.RowKit
open Go.ChangeMaps (open_string shut_string)
set_option maxRecDepth 100000 in
theorem lifted (os : Os) (started : os.Started) (H : Type) (enc : TypeId × Value → H) :
    ReturnsInHanded {} Tryd.checked os 6 .any (fun w args => (Rows.ratioParsesSpec.pre enc Tryd.prog Tryd.f6 [] false w args ∧ laidMet Tryd.prog laids w) ∧ sizedMet enc Tryd.prog Tryd.f6 (OpenSpec.ofChange Rows.ratioParsesSpec) false w args)
      (Rows.ratioParsesSpec.post enc Tryd.prog Tryd.f6 false true false false) := by
  refine wrap (C := Tryd.checked) (X := fun w _ => laidMet Tryd.prog laids w) (fun _ _ _ hh h => h.of_heap hh) own started (by kernel_rfl) Tryd.func6
    (ChangeSpec.witness_shaped (enc := enc) (C := Tryd.checked) (os := os) (X := fun w _ => laidMet Tryd.prog laids w) false (World.laidAll Tryd.prog os laids) #[.string ByteArray.empty] 8 (World.laidAll_os _ _ _) (laid_shaped os _) (by kernel_rfl) (by kernel_rfl) (by kernel_rfl) (laid_met os _)) ?_
  intro W base args ds gs before hval0 hW hL hS
  have G : Globs W := globs_of hL hS
  have hval : ∀ (j : Nat) t v, Tryd.f6.params[j]? = some t → args[j]? = some v → Value.okWide Tryd.prog W .any base t v := hval0
  have hW' := hW
  obtain ⟨p, q, hA0, hV, rfl, hfz, hnd⟩ := hW
  have hA : DataW.TrodAll enc Tryd.prog W 0 (fun _ => true) true Tryd.f6.params.toList args.toList ds p := hA0
  rw [Tryd.params6] at hA hval
  obtain ⟨v0, d0, rfl, rfl, h0⟩ := trodAll_one hA
  obtain ⟨rfl, rfl⟩ := trodVars_none hV
  obtain ⟨s, rfl, rfl, rfl, hs⟩ := open_string Tryd.underlying9 (hval 0 9 v0 rfl rfl) h0
  clear hA0 hval0
  simp only [List.append_nil] at hW'
  refine (parses_walk s W G).mono fun e W' ⟨he, hg⟩ => ?_
  subst he
  refine ⟨_, rfl, _, _, _, [], [], [], hW', ?_, ?_, rfl, ext_kept hg _, fun h => by cases h⟩
  · exact trodAll_mk1 (shut_bool Tryd.underlying4 _)
  · exact trodAll_mk1 (shut_string Tryd.underlying9 hs)

theorem holds : Rows.RatioParsesSaid :=
  OpenClaim.holds_of_wide 6 Tryd.f6 rfl rfl rfl rfl rfl rfl rfl ⟨rfl, rfl, rfl, rfl, rfl⟩ rfl rfl rfl rfl rfl (by kernel_rfl) Tryd.func6 (by kernel_rfl)
    (of_decide_eq_true (by kernel_rfl)) (by unfold Func.isWrapper; first | (rw [if_pos (by decide +kernel)]; kernel_rfl) | (rw [if_neg (by decide +kernel)]; exact ⟨rfl, rfl⟩))
    (fun os started H enc _ => lifted os started H enc)

theorem card_holds : Rows.RatioParsesCardSaid :=
  Claim7.holds_tied_plain_at .later [] [.data, .data, .data, .sentinel, .sentinel] true (true, "bbbaab33fab55bd816ac80e1e0d782c1e88fb0bbc056c970f732e874dd844292") true
    holds (fun _ h => by cases h) (by kernel_rfl) (fun _ h => by cases h) ratioParses_row_tie rfl ⟨rfl, rfl⟩ (by kernel_rfl) rfl
    (fun f fn hf hfn => by
      obtain rfl : f = 6 := Option.some.inj ((show Tryd.prog.funcNamed "rootcause/rootcauselaw04.RatioParses" = some 6 by kernel_rfl).symm.trans hf) |>.symm
      obtain rfl : fn = Tryd.f6 := (Option.some.inj (Tryd.func6.symm.trans hfn)).symm
      exact ⟨by kernel_rfl, fun j t ht => by
        rw [Tryd.params6] at ht
        have h3 : t = 9 := by
          rcases j with _ | j
          · simpa using ht.symm
          · simp at ht
        subst h3
        exact (show Tryd.prog.wantsStandIn 9 = false by kernel_rfl)⟩)
    (by kernel_rfl)
#print axioms card_holds
end ratioParses

end Go.Proofs.YtifhgkdajnngnaaDoor
