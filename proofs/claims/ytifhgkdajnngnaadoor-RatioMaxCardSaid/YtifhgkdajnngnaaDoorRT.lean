/- The package variables that the texts lean on; contracts of FormatInt, ParseInt, Cut, Text. -/
import Derived.Test.YtifhgkdajnngnaaDoorRI
import Derived.Lib.ItoaLen
namespace Go.Proofs.YtifhgkdajnngnaaDoor
open Go.RowKit Go.Par

/-- What the walk is told of the package variables. -/
structure Globs (w : World) : Prop where
  tab : Lib.TabIs Tryd.prog w "internal/strconv.uint64pow10" .u64 Lib.pow10Tab
  most : ∃ m : Int, w.cell? ⟨1, 0, none⟩ = some (.int .i64 m)
  errS : ∃ tp p, w.var? Tryd.prog "strconv.ErrSyntax" = some #[.iface tp p]
  errR : ∃ tp p, w.var? Tryd.prog "strconv.ErrRange" = some #[.iface tp p]
  size : 7 < w.heap.size

theorem var_ext {n : String} {g : Nat} {W W' : World} {cs : Array Value} (h : Ext W W') (hg : Tryd.prog.globalNamed n = some g) (hs : g < W.heap.size) (hv : W.var? Tryd.prog n = some cs) : W'.var? Tryd.prog n = some cs := by
  unfold World.var? at hv ⊢
  simp only [hg, Option.bind_some] at hv ⊢
  rw [(Ext.below h).block g hs]
  exact hv

theorem Globs.ext {W W' : World} (G : Globs W) (h : Ext W W') : Globs W' := by
  have hs := G.size
  refine ⟨?_, ?_, ?_, ?_, Nat.lt_of_lt_of_le hs h.size⟩
  · exact var_ext h (g := 0) (by kernel_rfl) (by omega) G.tab
  · obtain ⟨m, hm⟩ := G.most
    exact ⟨m, by rw [h.cells 1 0 (by omega)]; exact hm⟩
  · obtain ⟨tp, p, hv⟩ := G.errS
    exact ⟨tp, p, var_ext h (g := 2) (by kernel_rfl) (by omega) hv⟩
  · obtain ⟨tp, p, hv⟩ := G.errR
    exact ⟨tp, p, var_ext h (g := 3) (by kernel_rfl) (by omega) hv⟩

theorem ext_grow {w : World} (os : Array Obj) : Ext w (Sort.grow w os) :=
  Ext.of_below ⟨rfl, rfl, rfl, by simp [Sort.grow], fun k hk => by simp [Sort.grow, Array.getElem?_append, hk]⟩

theorem format_any (n : Int) (i : InI n) (w : World) (G : Globs w) :
    Calls Tryd.prog 37 #[.int .i64 n, .int .i64 10] w fun e w' => e = .returned (.string ⟨(Lib.itoa n).toArray⟩) ∧ Ext w w' :=
  (Tryd.strconv_FormatInt_10 n i.1 i.2 w G.tab).mono fun _ _ ⟨he, k, os, hw⟩ => ⟨he, hw ▸ ((Ext.refl w).drewN k).trans (ext_grow os)⟩

/-- strconv.ParseInt(s, 10, 64): the number, or an error that is not nil. -/
theorem parse_ok (s : ByteArray) (hs : s.size ≤ 1000) (v : Int) (h : Lib.parseIntB 64 s.data.toList = .ok v) (w : World) :
    Calls Tryd.prog 40 #[.string s, .int .i64 10, .int .i64 64] w fun e w' => e = .returned (.tuple #[.int .i64 v, .nilIface]) ∧ Ext w w' :=
  (Tryd.strconv_ParseInt_10_at64_ok s (by omega) v h w).mono fun _ _ ⟨he, hw⟩ => ⟨he, by
    rcases hw with rfl | ⟨t, rfl⟩
    · exact Ext.refl _
    · exact Ext.of_below (Lib.bytesWorld_below w 5 t)⟩
theorem parse_bad (s : ByteArray) (hs : s.size ≤ 1000) (h : ∀ v, Lib.parseIntB 64 s.data.toList ≠ .ok v) (w : World) (G : Globs w) :
    Calls Tryd.prog 40 #[.string s, .int .i64 10, .int .i64 64] w fun e w' => ∃ x q, e = .returned (.tuple #[.int .i64 x, .iface 92 q]) ∧ Ext w w' := by
  rcases hp : Lib.parseIntB 64 s.data.toList with v | _ | _
  · exact absurd hp (h v)
  · obtain ⟨tp, p, hv⟩ := G.errS
    exact (Any.strconv_ParseInt_10_at64_syntax_var Tryd.laysC174 s (by omega) hp tp p w hv).mono fun _ _ ⟨N, he, _, _, hb⟩ => ⟨_, _, he, Ext.of_below hb⟩
  · obtain ⟨tp, p, hv⟩ := G.errR
    exact (Any.strconv_ParseInt_10_at64_range_var Tryd.laysC174 s (by omega) hp tp p w hv).mono fun _ _ ⟨N, he, _, _, hb⟩ => ⟨_, _, he, Ext.of_below hb⟩

theorem cut_any (s sep : ByteArray) (hs : s.size ≤ 1000) (w : World) (G : Globs w) :
    Calls Tryd.prog 39 #[.string s, .string sep] w fun e w' => e = .returned (.tuple #[.string ⟨(Lib.cut s.data.toList sep.data.toList).1.toArray⟩, .string ⟨(Lib.cut s.data.toList sep.data.toList).2.1.toArray⟩, .bool (Lib.cut s.data.toList sep.data.toList).2.2]) ∧ Ext w w' := by
  obtain ⟨m, hm⟩ := G.most
  exact (Tryd.strings_Cut s sep m w (by omega) hm).mono fun _ _ ⟨he, n, hw⟩ => ⟨he, hw ▸ (Ext.refl w).drewN n⟩

theorem bapp (x y : List UInt8) : (⟨x.toArray⟩ : ByteArray) ++ ⟨y.toArray⟩ = ⟨(x ++ y).toArray⟩ := by
  apply ByteArray.ext
  simp

/-- The text of a fraction. -/
def textL (n d : Int) : List UInt8 := if validB n d = true then Lib.itoa (oneP n d).1 ++ (if (oneP n d).2 = 1 then [] else 47 :: Lib.itoa (oneP n d).2) else []

set_option maxHeartbeats 1000000 in
theorem text_bad (n d : Int) (v : validB n d = false) (i : InI n) (j : InI d) (w : World) :
    Calls Tryd.prog 19 #[.agg #[.int .i64 n, .int .i64 d]] w fun e w' => e = .returned (.string ⟨(textL n d).toArray⟩) ∧ Ext w w' := by
  have HA := Lib.hid (fun W : World => valid_any n d i.1 i.2 j.1 j.2 W)
  have ht : textL n d = [] := by rw [textL, if_neg (by simp [v])]
  rw [v] at HA
  rw [ht]
  clear ht v
  go_enter Tryd.func19, Tryd.ntmps19
  go_wp2_with fail
  refine (HA.out _).mono ?_
  rintro e w' ⟨rfl, o, k, rfl⟩
  go_wp2_with fail
  go_ret
  exact ⟨rfl, (((Ext.refl _).alloc _).alloc _).drewN _⟩

set_option maxHeartbeats 1000000 in
theorem text_ok (n d : Int) (v : validB n d = true) (i : InI n) (j : InI d) (w : World) (G : Globs w) :
    Calls Tryd.prog 19 #[.agg #[.int .i64 n, .int .i64 d]] w fun e w' => e = .returned (.string ⟨(textL n d).toArray⟩) ∧ Ext w w' := by
  have HA := Lib.hid (fun W : World => valid_any n d i.1 i.2 j.1 j.2 W)
  obtain ⟨ba0, ba1, ba2, ba3⟩ := one_bounds n d v i.1 i.2 j.2
  have ht : textL n d = Lib.itoa (oneP n d).1 ++ (if (oneP n d).2 = 1 then [] else 47 :: Lib.itoa (oneP n d).2) := by rw [textL, if_pos v]
  have HO := Lib.hid (one_any n d)
  rw [v] at HA
  rw [ht]
  clear ht v
  generalize (oneP n d).1 = a1 at *
  generalize (oneP n d).2 = a2 at *
  have HF := Lib.hid (fun W (G : Globs W) => format_any a1 ⟨ba0, ba1⟩ W G)
  have HF2 := Lib.hid (fun W (G : Globs W) => format_any a2 ⟨by omega, ba3⟩ W G)
  have l1 := Lib.itoa_length_le a1 ba0 ba1
  have l2 := Lib.itoa_length_le a2 (by omega) ba3
  have HG := Lib.hid G
  clear G
  by_cases h1 : a2 = 1
  · subst h1
    go_enter Tryd.func19, Tryd.ntmps19
    go_wp2_with fail
    refine (HA.out _).mono ?_
    rintro e w' ⟨rfl, o, k, rfl⟩
    go_wp2_with fail
    refine (HO.out _).mono ?_
    rintro e w1 ⟨rfl, hx⟩
    have fs : w.heap.size + 1 + 1 ≤ w1.heap.size := by simpa using hx.size
    obtain ⟨fc, ff⟩ := And.intro hx.cells hx.marks
    have C1a0 : w1.cell? ⟨w.heap.size, 0, none⟩ = some (.int .i64 n) := by rw [fc _ _ (by first | omega | (simp; omega) | simp)]; simp [go_sem, *]
    have F1a0 : w1.frozen? ⟨w.heap.size, 0, none⟩ = false := by rw [ff _ _ (by first | omega | (simp; omega) | simp)]; simp [go_sem, *]
    have C1a1 : w1.cell? ⟨w.heap.size, 1, none⟩ = some (.int .i64 d) := by rw [fc _ _ (by first | omega | (simp; omega) | simp)]; simp [go_sem, *]
    have F1a1 : w1.frozen? ⟨w.heap.size, 1, none⟩ = false := by rw [ff _ _ (by first | omega | (simp; omega) | simp)]; simp [go_sem, *]
    clear fc ff
    have X1 : Ext w w1 := Ext.trans (by repeat (first | (with_reducible exact Ext.refl _) | (with_reducible assumption) | (with_reducible refine Ext.alloc ?_ _) | (with_reducible refine Ext.drewN ?_ _) | (with_reducible refine Ext.drew ?_) | (with_reducible refine Ext.setCell ?_ (by simp <;> omega) _))) hx
    clear hx
    go_upto_region 4 with (fail)
    have ew2s : ((w1.setCell ⟨w.heap.size, 0, none⟩ (.int .i64 a1)).setCell ⟨w.heap.size, 1, none⟩ (.int .i64 1)).heap.size = w1.heap.size := by simp
    have Xw2 : Ext w ((w1.setCell ⟨w.heap.size, 0, none⟩ (.int .i64 a1)).setCell ⟨w.heap.size, 1, none⟩ (.int .i64 1)) := (by repeat (first | (with_reducible exact Ext.refl _) | (with_reducible assumption) | (with_reducible refine Ext.alloc ?_ _) | (with_reducible refine Ext.drewN ?_ _) | (with_reducible refine Ext.drew ?_) | (with_reducible refine Ext.setCell ?_ (by simp <;> omega) _)))
    have C2a0 : ((w1.setCell ⟨w.heap.size, 0, none⟩ (.int .i64 a1)).setCell ⟨w.heap.size, 1, none⟩ (.int .i64 1)).cell? ⟨w.heap.size, 0, none⟩ = some (.int .i64 a1) := by simp [go_sem, *]
    have F2a0 : ((w1.setCell ⟨w.heap.size, 0, none⟩ (.int .i64 a1)).setCell ⟨w.heap.size, 1, none⟩ (.int .i64 1)).frozen? ⟨w.heap.size, 0, none⟩ = false := by simp [go_sem, *]
    have C2a1 : ((w1.setCell ⟨w.heap.size, 0, none⟩ (.int .i64 a1)).setCell ⟨w.heap.size, 1, none⟩ (.int .i64 1)).cell? ⟨w.heap.size, 1, none⟩ = some (.int .i64 1) := by simp [go_sem, *]
    have F2a1 : ((w1.setCell ⟨w.heap.size, 0, none⟩ (.int .i64 a1)).setCell ⟨w.heap.size, 1, none⟩ (.int .i64 1)).frozen? ⟨w.heap.size, 1, none⟩ = false := by simp [go_sem, *]
    generalize ((w1.setCell ⟨w.heap.size, 0, none⟩ (.int .i64 a1)).setCell ⟨w.heap.size, 1, none⟩ (.int .i64 1)) = w2 at *
    clear C1a0 F1a0 C1a1 F1a1 X1
    have fs2 : w.heap.size < w2.heap.size := by omega
    clear ew2s fs
    go_wp2_with fail
    refine (HF.out _ (HG.out.ext Xw2)).mono ?_
    rintro e w3 ⟨rfl, hx⟩
    obtain ⟨fc, ff⟩ := And.intro hx.cells hx.marks
    have C3a0 : w3.cell? ⟨w.heap.size, 0, none⟩ = some (.int .i64 a1) := by rw [fc _ _ (by first | omega | (simp; omega) | simp)]; simp [go_sem, *]
    have F3a0 : w3.frozen? ⟨w.heap.size, 0, none⟩ = false := by rw [ff _ _ (by first | omega | (simp; omega) | simp)]; simp [go_sem, *]
    have C3a1 : w3.cell? ⟨w.heap.size, 1, none⟩ = some (.int .i64 1) := by rw [fc _ _ (by first | omega | (simp; omega) | simp)]; simp [go_sem, *]
    have F3a1 : w3.frozen? ⟨w.heap.size, 1, none⟩ = false := by rw [ff _ _ (by first | omega | (simp; omega) | simp)]; simp [go_sem, *]
    clear fc ff
    have X3 : Ext w w3 := Ext.trans Xw2 hx
    clear hx Xw2 C2a0 F2a0 C2a1 F2a1
    go_wp2_with fail
    go_ret
    exact ⟨by simp, X3⟩
  · have h1' : (a2 != 1) = true := by simp [h1]
    go_enter Tryd.func19, Tryd.ntmps19
    go_wp2_with fail
    refine (HA.out _).mono ?_
    rintro e w' ⟨rfl, o, k, rfl⟩
    go_wp2_with fail
    refine (HO.out _).mono ?_
    rintro e w1 ⟨rfl, hx⟩
    have fs : w.heap.size + 1 + 1 ≤ w1.heap.size := by simpa using hx.size
    obtain ⟨fc, ff⟩ := And.intro hx.cells hx.marks
    have C1a0 : w1.cell? ⟨w.heap.size, 0, none⟩ = some (.int .i64 n) := by rw [fc _ _ (by first | omega | (simp; omega) | simp)]; simp [go_sem, *]
    have F1a0 : w1.frozen? ⟨w.heap.size, 0, none⟩ = false := by rw [ff _ _ (by first | omega | (simp; omega) | simp)]; simp [go_sem, *]
    have C1a1 : w1.cell? ⟨w.heap.size, 1, none⟩ = some (.int .i64 d) := by rw [fc _ _ (by first | omega | (simp; omega) | simp)]; simp [go_sem, *]
    have F1a1 : w1.frozen? ⟨w.heap.size, 1, none⟩ = false := by rw [ff _ _ (by first | omega | (simp; omega) | simp)]; simp [go_sem, *]
    clear fc ff
    have X1 : Ext w w1 := Ext.trans (by repeat (first | (with_reducible exact Ext.refl _) | (with_reducible assumption) | (with_reducible refine Ext.alloc ?_ _) | (with_reducible refine Ext.drewN ?_ _) | (with_reducible refine Ext.drew ?_) | (with_reducible refine Ext.setCell ?_ (by simp <;> omega) _))) hx
    clear hx
    go_upto_region 4 with (fail)
    have ew2s : ((w1.setCell ⟨w.heap.size, 0, none⟩ (.int .i64 a1)).setCell ⟨w.heap.size, 1, none⟩ (.int .i64 a2)).heap.size = w1.heap.size := by simp
    have Xw2 : Ext w ((w1.setCell ⟨w.heap.size, 0, none⟩ (.int .i64 a1)).setCell ⟨w.heap.size, 1, none⟩ (.int .i64 a2)) := (by repeat (first | (with_reducible exact Ext.refl _) | (with_reducible assumption) | (with_reducible refine Ext.alloc ?_ _) | (with_reducible refine Ext.drewN ?_ _) | (with_reducible refine Ext.drew ?_) | (with_reducible refine Ext.setCell ?_ (by simp <;> omega) _)))
    have C2a0 : ((w1.setCell ⟨w.heap.size, 0, none⟩ (.int .i64 a1)).setCell ⟨w.heap.size, 1, none⟩ (.int .i64 a2)).cell? ⟨w.heap.size, 0, none⟩ = some (.int .i64 a1) := by simp [go_sem, *]
    have F2a0 : ((w1.setCell ⟨w.heap.size, 0, none⟩ (.int .i64 a1)).setCell ⟨w.heap.size, 1, none⟩ (.int .i64 a2)).frozen? ⟨w.heap.size, 0, none⟩ = false := by simp [go_sem, *]
    have C2a1 : ((w1.setCell ⟨w.heap.size, 0, none⟩ (.int .i64 a1)).setCell ⟨w.heap.size, 1, none⟩ (.int .i64 a2)).cell? ⟨w.heap.size, 1, none⟩ = some (.int .i64 a2) := by simp [go_sem, *]
    have F2a1 : ((w1.setCell ⟨w.heap.size, 0, none⟩ (.int .i64 a1)).setCell ⟨w.heap.size, 1, none⟩ (.int .i64 a2)).frozen? ⟨w.heap.size, 1, none⟩ = false := by simp [go_sem, *]
    generalize ((w1.setCell ⟨w.heap.size, 0, none⟩ (.int .i64 a1)).setCell ⟨w.heap.size, 1, none⟩ (.int .i64 a2)) = w2 at *
    clear C1a0 F1a0 C1a1 F1a1 X1
    have fs2 : w.heap.size < w2.heap.size := by omega
    clear ew2s fs
    go_wp2_with fail
    refine (HF.out _ (HG.out.ext Xw2)).mono ?_
    rintro e w3 ⟨rfl, hx⟩
    obtain ⟨fc, ff⟩ := And.intro hx.cells hx.marks
    have C3a0 : w3.cell? ⟨w.heap.size, 0, none⟩ = some (.int .i64 a1) := by rw [fc _ _ (by first | omega | (simp; omega) | simp)]; simp [go_sem, *]
    have F3a0 : w3.frozen? ⟨w.heap.size, 0, none⟩ = false := by rw [ff _ _ (by first | omega | (simp; omega) | simp)]; simp [go_sem, *]
    have C3a1 : w3.cell? ⟨w.heap.size, 1, none⟩ = some (.int .i64 a2) := by rw [fc _ _ (by first | omega | (simp; omega) | simp)]; simp [go_sem, *]
    have F3a1 : w3.frozen? ⟨w.heap.size, 1, none⟩ = false := by rw [ff _ _ (by first | omega | (simp; omega) | simp)]; simp [go_sem, *]
    clear fc ff
    have X3 : Ext w w3 := Ext.trans Xw2 hx
    clear hx Xw2 C2a0 F2a0 C2a1 F2a1
    go_wp2_with fail
    refine (HF2.out _ (HG.out.ext X3)).mono ?_
    rintro e w4 ⟨rfl, hx⟩
    have X4 : Ext w w4 := Ext.trans X3 hx
    go_wp2_with fail
    go_ret
    refine ⟨?_, X4⟩
    refine (congrArg (fun b => Ending.returned (.string b)) ?_ : _)
    show (⟨(Lib.itoa a1).toArray⟩ : ByteArray) ++ ((⟨[47].toArray⟩ : ByteArray) ++ ⟨(Lib.itoa a2).toArray⟩) = _
    rw [bapp, bapp]
    rfl

theorem text_any (n d : Int) (i : InI n) (j : InI d) (w : World) (G : Globs w) :
    Calls Tryd.prog 19 #[.agg #[.int .i64 n, .int .i64 d]] w fun e w' => e = .returned (.string ⟨(textL n d).toArray⟩) ∧ Ext w w' := by
  cases v : validB n d with
  | false => exact text_bad n d v i j w
  | true => exact text_ok n d v i j w G
end Go.Proofs.YtifhgkdajnngnaaDoor
