/- Contract of Text. -/
import Derived.Test.YtnmickfdflinpaaDoorF7
namespace Go.Proofs.YtnmickfdflinpaaDoor
open Go.RowKit Go.Par Go.Sx
theorem fmt_int (i : Int) (h0 : 0 ≤ i) (h1 : i < 18446744073709551616) (w : World) (G : Globs w) :
    Calls Tryd.prog 34 #[.int .u64 i, .int .i64 10] w fun e w' => e = .returned (strV (Lib.decDigits i.toNat)) ∧ Ext w w' := by
  have := fmt_any i.toNat (by omega) w G
  rwa [Int.toNat_of_nonneg h0] at this
theorem str_app (a b : List UInt8) : (⟨a.toArray⟩ : ByteArray) ++ ⟨b.toArray⟩ = ⟨(a ++ b).toArray⟩ := by
  apply ByteArray.ext
  rw [ByteArray.data_append]
  simp
theorem str_size (a : List UInt8) : (⟨a.toArray⟩ : ByteArray).size = a.length := by simp [ByteArray.size]
theorem str_inj {a b : List UInt8} : ((⟨a.toArray⟩ : ByteArray) = ⟨b.toArray⟩) ↔ a = b := by
  constructor
  · intro h
    have := congrArg (fun s : ByteArray => s.data.toList) h
    simpa using this
  · intro h; rw [h]
def texts (x : Nat → Int) (k : Nat) : List (List UInt8) := (List.range k).map fun i => Lib.decDigits (x i).toNat
theorem texts_length (x : Nat → Int) (k : Nat) : (texts x k).length = k := by simp [texts]
theorem texts_succ (x : Nat → Int) (k : Nat) : (texts x (k + 1)).map strV = (texts x k).map strV ++ [strV (Lib.decDigits (x k).toNat)] := by simp [texts, List.range_succ]
theorem dig_len (u : Nat) (h : u < 18446744073709551616) : (Lib.decDigits u).length ≤ 20 := by
  rw [Lib.decDigits_length]
  by_cases h1 : 1 ≤ u
  · exact digits_le u h1 h
  · obtain rfl : u = 0 := by omega
    unfold Lib.nDigits; simp
theorem join_len : ∀ (xs : List (List UInt8)), (∀ l ∈ xs, l.length ≤ 20) → (Lib.join xs [44]).length ≤ xs.length * 21
  | [], _ => by simp [Lib.join]
  | [a], h => by
    have := h a (by simp)
    simp [Lib.join, List.intercalate]; omega
  | a :: b :: r, h => by
    have h1 := h a (by simp)
    have ih := join_len (b :: r) (fun l hl => h l (by simp at hl ⊢; exact .inr hl))
    have e : Lib.join (a :: b :: r) [44] = a ++ [44] ++ Lib.join (b :: r) [44] := by simp [Lib.join, List.intercalate]
    rw [e]
    simp at ih ⊢; omega
theorem texts_len (x : Nat → Int) (hU : U64 x) (k : Nat) : ∀ l ∈ texts x k, l.length ≤ 20 := by
  intro l hl
  obtain ⟨i, _, rfl⟩ := List.mem_map.1 hl
  have := hU i
  exact dig_len _ (by omega)
def textL (x : Nat → Int) : List UInt8 := [91] ++ Lib.join (texts x (lenK x 16)) [44] ++ [93]
/-- strings.Join of an own row of strings. -/
theorem join_st {H : Hp} {w0 W : World} {bs : List Res} {r : Value} {n : Nat} (xs : List (List UInt8)) (sep : List UInt8) (s : St H w0 bs W) (hm : Res.row 9 1 r n (xs.map strV) ∈ bs) (hn : xs.length ≤ 1000000) (hl : (Lib.join xs sep).length ≤ 1000000) :
    Calls Tryd.prog 35 #[r, strV sep] W fun e W' => e = .returned (strV (Lib.join xs sep)) ∧ Ext W W' := by
  have ho : W.ownsRow w0.heap.size 9 1 r n (xs.map strV) := (s.own _ hm).1
  have hnl : xs.length = n := by have := ho.1; simpa using this
  by_cases h0 : xs = []
  · subst h0
    have hn0 : n = 0 := by simpa using hnl.symm
    subst hn0
    obtain ⟨p, c, rfl⟩ : ∃ p c, r = .slice p 0 c := by
      rcases ho.2 with ⟨rfl, _⟩ | ⟨g, cap, cur, rfl, _⟩
      · exact ⟨_, _, rfl⟩
      · exact ⟨_, _, rfl⟩
    exact (Tryd.strings_Join_none p c ⟨sep.toArray⟩ W).mono fun _ _ ⟨a, b⟩ => ⟨by rw [a]; simp [Lib.join, strV], same_ext b⟩
  · rcases ho.2 with ⟨_, rfl⟩ | ⟨g, cap, cur, rfl, hg, hc, hnc, hcm, _⟩
    · exact absurd (List.eq_nil_of_length_eq_zero hnl) h0
    · have hcells := World.ownsRow.cells ho (g := g) rfl
      have hj := Tryd.strings_Join g 0 cap (xs.map fun l => (⟨l.toArray⟩ : ByteArray)) ⟨sep.toArray⟩ W (fun j y hy => by
        have := hcells j (.string y) (by
          rw [List.getElem?_map] at hy ⊢
          obtain ⟨l, hl, rfl⟩ := Option.map_eq_some_iff.1 hy
          rw [hl]; rfl)
        rwa [Addr.add_lit] at this) (block_lt hc) (by simp; omega) (by simp; omega) (by simpa [List.map_map, Function.comp_def] using Nat.le_trans hl (by omega))
      have e1 : (xs.map fun l => (⟨l.toArray⟩ : ByteArray)).map (fun y => y.data.toList) = xs := by simp [List.map_map, Function.comp_def]
      rw [e1, List.length_map, hnl] at hj
      exact hj.mono fun _ _ ⟨a, b⟩ => ⟨by rw [a]; simp [strV], Ext.of_below b⟩
set_option maxRecDepth 100000 in
theorem text_any (x : Nat → Int) (hU : U64 x) (w : World) (G : Globs w) :
    Calls Tryd.prog 20 #[ck x] w fun e w' => e = .returned (strV (textL x)) ∧ Ext w w' := by
  have hlen := lenK_le x 16
  refine Sx.enter (H := (fun _ => none)) Tryd.func20 rfl Tryd.ntmps20 rfl (fun _ _ e => by cases e) ?_
  refine Sx.seq ?_
  refine Sx.region ?_
  refine Sx.cons ?_
  refine Sx.box (l := ckL x) rfl rfl rfl (fun b1 => ?_)
  refine Sx.cons ?_
  refine Sx.yl (.assign rfl) rfl ?_
  refine Sx.nil ?_
  refine Sx.thenN ?_
  refine Sx.seq ?_
  refine Sx.region ?_
  refine Sx.cons ?_
  refine Sx.yl (.assign rfl) rfl ?_
  refine Sx.nil ?_
  refine Sx.thenN ?_
  refine Sx.seq ?_
  refine Sx.seq ?_
  refine Sx.region ?_
  refine Sx.cons ?_
  refine Sx.yl (.loadW rfl Fx.agg26 (.head _) (ck_length _)) rfl ?_
  refine Sx.cons ?_
  refine Sx.yl (.call Fx.call33 rfl (fun W s => length_any x W)) rfl ?_
  refine Sx.cons ?_
  refine Sx.yl (.move rfl) rfl ?_
  refine Sx.nil ?_
  refine Sx.thenN ?_
  refine Sx.blk ?_
  refine Sx.row0 9 1 ?_
  -- live at the head, not kept: [2]
  refine Sx.loop (X := Nat × Value) (fun z => [(1, .pointer (some ⟨b1, 0, none⟩)), (3, z.2), (6, .int .i64 (lenK x 16)), (7, .int .i64 z.1)]) (fun z => fun _ => none) (fun z => [.row 9 1 z.2 z.1 ((texts x z.1).map strV), .box b1 (ckL x) 26]) (fun z => z.1 ≤ lenK x 16) (fun z => lenK x 16 - z.1) (0, .slice none 0 0) (by simp) ⟨rfl, rfl, rfl, rfl, trivial⟩ (fun W s => s) ?_
  intro z hC
  obtain ⟨k, r⟩ := z
  dsimp only at hC ⊢
  have hx := hU k
  refine Sx.seq ?_
  refine Sx.region ?_
  refine Sx.cons ?_
  refine Sx.yl (.lss rfl rfl) rfl ?_
  refine Sx.nil ?_
  refine Sx.thenN ?_
  refine Sx.seq ?_
  refine Sx.cond rfl (fun h8 => ?_) (fun h8 => ?_)
  · try simp only [decide_eq_true_eq] at h8
    refine Sx.skip ?_
    refine Sx.thenN ?_
    refine Sx.seq ?_
    refine Sx.blk ?_
    refine Sx.seq ?_
    refine Sx.region ?_
    refine Sx.cons ?_
    refine Sx.yl (.move rfl) rfl ?_
    refine Sx.cons ?_
    refine Sx.yl (.assign rfl) rfl ?_
    refine Sx.nil ?_
    refine Sx.thenN ?_
    refine Sx.region ?_
    refine Sx.cons ?_
    refine Sx.yl (.move rfl) rfl ?_
    refine Sx.cons ?_
    refine Sx.yl (.move rfl) rfl ?_
    refine Sx.cons ?_
    refine Sx.yl (.fieldAddr rfl Fx.field26_0) rfl ?_
    refine Sx.cons ?_
    refine Sx.yl (.indexArr Fx.arr24 rfl rfl rfl (by omega) (q := k) (by omega)) rfl ?_
    refine Sx.cons ?_
    first
      | refine Sx.yl (.load rfl Fx.agg23 (.head _) (ck_at x (k := k) (by omega))) rfl ?_
      | refine Sx.yl (.load rfl Fx.agg23 (.tail _ (.head _)) (ck_at x (k := k) (by omega))) rfl ?_
    refine Sx.cons ?_
    refine Sx.yl (.call Fx.call34 rfl (fun W s => fmt_int (x k) (by omega) (by omega) W (G.ext s.ext))) rfl ?_
    refine Sx.cons ?_
    refine Sx.buildSlice (e := 9) (l := [strV (Lib.decDigits (x k).toNat)]) rfl (by kernel_rfl) rfl (fun b16 => ?_)
    refine Sx.cons ?_
    refine Sx.append (news := [strV (Lib.decDigits (x k).toNat)]) Fx.row69 rfl (fun _ => .tail .head) rfl (.box (.head _) (fun j u h => by rw [Nat.zero_add]; exact h)) rfl (by simp [strV, Value.oneCell']) (by simp [maxLen]; omega) (by omega) rfl (fun r2 hr2 => ?_)
    refine Sx.cons ?_
    refine Sx.yl (.assign rfl) rfl ?_
    refine Sx.nil ?_
    refine Sx.blkN ?_
    refine Sx.thenN ?_
    refine Sx.region ?_
    refine Sx.cons ?_
    refine Sx.yl (.add rfl rfl (w64 (by omega) (by omega))) rfl ?_
    refine Sx.cons ?_
    refine Sx.yl (.move rfl) rfl ?_
    refine Sx.nil ?_
    refine Sx.thenN ?_
    exact Sx.again (x := (k, r)) (k + 1, r2) ⟨by dsimp only; omega, by dsimp only; omega⟩ ⟨rfl, rfl, rfl, rfl, trivial⟩ (fun W s => by rw [texts_succ]; exact s.drop)
  · try simp only [decide_eq_false_iff_not] at h8
    refine Sx.exit ?_
    refine Sx.thenE ?_
    refine Sx.thenE ?_
    refine Sx.blkE ?_
    refine Sx.thenN ?_
    refine Sx.seq ?_
    refine Sx.region ?_
    refine Sx.cons ?_
    have hj0 : (Lib.join (texts x k) [44]).length ≤ 16 * 21 := Nat.le_trans (join_len _ (texts_len x hU k)) (by rw [texts_length]; omega)
    refine Sx.yl (.move rfl) rfl ?_
    refine Sx.cons ?_
    refine Sx.yl (.call Fx.call35 rfl (fun W s => join_st (texts x k) [44] s (.head _) (by rw [texts_length]; omega) (by omega))) rfl ?_
    refine Sx.cons ?_
    refine Sx.yl (.addS rfl rfl (by rw [str_size [91], str_size]; simp; omega) (str_app [91] _)) rfl ?_
    refine Sx.cons ?_
    refine Sx.yl (.addS rfl rfl (by rw [str_size, str_size [93]]; simp; omega) (str_app _ [93])) rfl ?_
    refine Sx.cons ?_
    refine Sx.yl (.assign rfl) rfl ?_
    refine Sx.nil ?_
    refine Sx.thenN ?_
    refine Sx.ret ?_
    refine Sx.ret1 (.inl rfl) rfl (.tmp rfl) (fun W s => ⟨?_, s.ext⟩)
    obtain rfl : k = lenK x 16 := by omega
    rfl
end Go.Proofs.YtnmickfdflinpaaDoor
