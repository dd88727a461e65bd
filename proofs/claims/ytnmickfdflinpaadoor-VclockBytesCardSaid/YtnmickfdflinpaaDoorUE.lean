/- Contract of the reference Text; walk of the law Texts. -/
import Derived.Test.YtnmickfdflinpaaDoorFD
namespace Go.Proofs.YtnmickfdflinpaaDoor
open Go.RowKit Go.Par Go.Sx
theorem join_snoc (b : List UInt8) : ∀ a : List (List UInt8), a ≠ [] → Lib.join (a ++ [b]) [44] = Lib.join a [44] ++ [44] ++ b
  | [], h => absurd rfl h
  | [c], _ => by simp [Lib.join, List.intercalate]
  | c :: d :: r, _ => by
    have ih := join_snoc b (d :: r) (by simp)
    have e1 : Lib.join (c :: d :: r ++ [b]) [44] = c ++ [44] ++ Lib.join (d :: r ++ [b]) [44] := by simp [Lib.join, List.intercalate]
    have e2 : Lib.join (c :: d :: r) [44] = c ++ [44] ++ Lib.join (d :: r) [44] := by simp [Lib.join, List.intercalate]
    rw [e1, e2, ih]
    simp
def preT (x : Nat → Int) (k : Nat) : List UInt8 := [91] ++ Lib.join (texts x k) [44]
theorem texts_snoc (x : Nat → Int) (k : Nat) : texts x (k + 1) = texts x k ++ [Lib.decDigits (x k).toNat] := by simp [texts, List.range_succ]
theorem preT_pos (x : Nat → Int) (k : Nat) (h : 0 < k) {dg : List UInt8} (hd : dg = Lib.decDigits (x k).toNat) : preT x (k + 1) = preT x k ++ [44] ++ dg := by
  unfold preT
  rw [texts_snoc, join_snoc _ _ (fun e => by have := congrArg List.length e; rw [texts_length] at this; simp at this; omega), hd]
  simp
theorem preT_zero (x : Nat → Int) (k : Nat) (h : k = 0) {dg : List UInt8} (hd : dg = Lib.decDigits (x k).toNat) : preT x (k + 1) = preT x k ++ dg := by
  subst h
  unfold preT
  rw [texts_snoc, hd]
  simp [texts, Lib.join, List.intercalate]
theorem preT_len (x : Nat → Int) (hU : U64 x) (k : Nat) (h : k ≤ 16) : (preT x k).length ≤ 400 := by
  have := join_len _ (texts_len x hU k)
  rw [texts_length] at this
  unfold preT
  simp
  omega
theorem dec_step {n : Nat} {d r : List UInt8} (h : ¬ n < 10) (e : Lib.decDigits n ++ d = r) : Lib.decDigits (n / 10) ++ (UInt8.ofNat (48 + n % 10) :: d) = r := by
  rw [← e, Go.Plain.digits_more n h]
  simp
theorem dec_end {n : Nat} {d r : List UInt8} (h : n < 10) (e : Lib.decDigits n ++ d = r) : [UInt8.ofNat (48 + n)] ++ d = r := by rw [← e, dec_small h]
set_option maxRecDepth 100000 in
theorem rtext_any (x : Nat → Int) (hU : U64 x) (w : World) :
    Calls Tryd.prog 26 #[ck x] w fun e w' => e = .returned (strV (textL x)) ∧ Ext w w' := by
  have hlen := lenK_le x 16
  refine Sx.enter (H := (fun _ => none)) Tryd.func26 rfl Tryd.ntmps26 rfl (fun _ _ e => by cases e) ?_
  refine Sx.seq ?_
  refine Sx.region ?_
  refine Sx.cons ?_
  refine Sx.box (l := ckL x) rfl rfl rfl (fun b1 => ?_)
  refine Sx.cons ?_
  refine Sx.yl (.assign rfl) rfl ?_
  refine Sx.nil ?_
  refine Sx.thenN ?_
  refine Sx.seq ?_
  refine Sx.region ?_
  refine Sx.cons ?_
  refine Sx.yl (.assign rfl) rfl ?_
  refine Sx.nil ?_
  refine Sx.thenN ?_
  refine Sx.seq ?_
  refine Sx.seq ?_
  refine Sx.region ?_
  refine Sx.cons ?_
  refine Sx.yl (.assign rfl) rfl ?_
  refine Sx.nil ?_
  refine Sx.thenN ?_
  refine Sx.blk ?_
  -- live at the head, not kept: [2]
  refine Sx.loop (X := Nat) (fun i => [(1, .pointer (some ⟨b1, 0, none⟩)), (3, strV (preT x i)), (4, .int .i64 (i : Nat))]) (fun i => fun _ => none) (fun i => [.box b1 (ckL x) 27]) (fun i => i ≤ lenK x 16) (fun i => lenK x 16 - i) 0 (Nat.zero_le _) ⟨rfl, rfl, rfl, trivial⟩ (fun W s => s) ?_
  intro i hC
  have hx := hU i
  have hpl := preT_len x hU i (by omega)
  have hdig := dig_len (x i).toNat (by omega)
  refine Sx.seq ?_
  refine Sx.seq ?_
  refine Sx.region ?_
  refine Sx.cons ?_
  refine Sx.yl (.move rfl) rfl ?_
  refine Sx.cons ?_
  refine Sx.yl (.loadW rfl Fx.agg27 (.head _) (ck_length _)) rfl ?_
  refine Sx.cons ?_
  refine Sx.yl (.call Fx.call40 rfl (fun W s => rlength_any x hU W)) rfl ?_
  refine Sx.cons ?_
  refine Sx.yl (.lss rfl rfl) rfl ?_
  refine Sx.nil ?_
  refine Sx.thenN ?_
  refine Sx.cond rfl (fun h10 => ?_) (fun h10 => ?_)
  · try simp only [decide_eq_true_eq] at h10
    refine Sx.skip ?_
    refine Sx.thenN ?_
    refine Sx.seq ?_
    refine Sx.blk ?_
    refine Sx.seq ?_
    refine Sx.seq ?_
    refine Sx.region ?_
    refine Sx.cons ?_
    refine Sx.yl (.move rfl) rfl ?_
    refine Sx.cons ?_
    refine Sx.yl (.gtr rfl rfl) rfl ?_
    refine Sx.nil ?_
    refine Sx.thenN ?_
    refine Sx.cond rfl (fun h14 => ?_) (fun h14 => ?_)
    · try simp only [decide_eq_true_eq] at h14
      refine Sx.region ?_
      refine Sx.cons ?_
      refine Sx.yl (.move rfl) rfl ?_
      refine Sx.cons ?_
      refine Sx.yl (.addS rfl rfl (by rw [str_size, str_size [44]]; simp; omega) (str_app _ [44])) rfl ?_
      refine Sx.cons ?_
      refine Sx.yl (.assign rfl) rfl ?_
      refine Sx.nil ?_
      refine Sx.thenN ?_
      refine Sx.seq ?_
      refine Sx.region ?_
      refine Sx.cons ?_
      refine Sx.yl (.move rfl) rfl ?_
      refine Sx.cons ?_
      refine Sx.yl (.indexArr Fx.arr27 rfl rfl rfl (by omega) (q := i) (by omega)) rfl ?_
      refine Sx.cons ?_
      refine Sx.yl (.load rfl Fx.agg23 (.head _) (ck_at x (k := i) (by omega))) rfl ?_
      rw [conv_nat (k := .u64) (x i) (by omega)]
      refine Sx.cons ?_
      refine Sx.yl (.assign rfl) rfl ?_
      refine Sx.cons ?_
      refine Sx.yl (.assign rfl) rfl ?_
      refine Sx.nil ?_
      refine Sx.thenN ?_
      refine Sx.seq ?_
      refine Sx.blk ?_
      -- live at the head, not kept: [2]
      refine Sx.loop (X := Nat × List UInt8) (fun z => [(1, .pointer (some ⟨b1, 0, none⟩)), (3, strV (preT x i ++ [44])), (4, .int .i64 (i : Nat)), (5, .int .u64 (z.1 : Nat)), (6, strV z.2)]) (fun z => fun _ => none) (fun z => [.box b1 (ckL x) 27]) (fun z => Lib.decDigits z.1 ++ z.2 = Lib.decDigits (x i).toNat ∧ z.1 < 18446744073709551616) (fun z => z.1) ((x i).toNat, []) ⟨by simp, by show (x i).toNat < _; omega⟩ ⟨rfl, rfl, rfl, rfl, rfl, trivial⟩ (fun W s => s) ?_
      intro z hC
      obtain ⟨n, d⟩ := z
      have hC2 := hC
      dsimp only at hC2 ⊢
      have hdl : d.length ≤ 20 := Nat.le_trans (by rw [← hC2.1]; simp) hdig
      refine Sx.seq ?_
      refine Sx.seq ?_
      refine Sx.region ?_
      refine Sx.cons ?_
      refine Sx.yl (.move rfl) rfl ?_
      refine Sx.cons ?_
      refine Sx.yl (.gtr rfl rfl) rfl ?_
      refine Sx.nil ?_
      refine Sx.thenN ?_
      refine Sx.cond rfl (fun h21 => ?_) (fun h21 => ?_)
      · try simp only [decide_eq_true_eq] at h21
        refine Sx.skip ?_
        refine Sx.thenN ?_
        refine Sx.blk ?_
        refine Sx.seq ?_
        refine Sx.region ?_
        refine Sx.cons ?_
        refine Sx.yl (.move rfl) rfl ?_
        refine Sx.cons ?_
        refine Sx.yl (.rem rfl rfl (by decide) (c := ((n % 10 : Nat) : Int)) rfl) rfl ?_
        refine Sx.cons ?_
        refine Sx.yl (.add rfl rfl (c := ((48 + n % 10 : Nat) : Int)) (by rw [wu64 (by omega) (by omega)]; rfl)) rfl ?_
        refine Sx.cons ?_
        refine Sx.yl (.conv rfl Fx.int23 Fx.int5 (wu8s (v := 48 + n % 10) (by omega))) rfl ?_
        refine Sx.cons ?_
        refine Sx.buildSlice (e := 5) (l := [.int .u8 ((UInt8.ofNat (48 + n % 10)).toNat : Int)]) rfl (by kernel_rfl) rfl (fun b26 => ?_)
        refine Sx.cons ?_
        refine Sx.yl (.bytesStr Fx.bytes62 Fx.str9 rfl (l := [UInt8.ofNat (48 + n % 10)]) rfl (.box (.head _) (fun j u h => by rw [Nat.zero_add]; exact h))) rfl ?_
        refine Sx.cons ?_
        refine Sx.yl (.move rfl) rfl ?_
        refine Sx.cons ?_
        refine Sx.yl (.addS rfl rfl (by rw [str_size, str_size]; simp; omega) (str_app _ _)) rfl ?_
        refine Sx.cons ?_
        refine Sx.yl (.assign rfl) rfl ?_
        refine Sx.nil ?_
        refine Sx.thenN ?_
        refine Sx.region ?_
        refine Sx.cons ?_
        refine Sx.yl (.move rfl) rfl ?_
        refine Sx.cons ?_
        refine Sx.yl (.quo rfl rfl (by decide) (c := ((n / 10 : Nat) : Int)) (wu64 (a := ((n / 10 : Nat) : Int)) (by omega) (by omega))) rfl ?_
        refine Sx.cons ?_
        refine Sx.yl (.assign rfl) rfl ?_
        refine Sx.nil ?_
        refine Sx.blkN ?_
        refine Sx.thenN ?_
        exact Sx.again (x := (n, d)) (n / 10, UInt8.ofNat (48 + n % 10) :: d) ⟨⟨dec_step (by omega) hC2.1, by dsimp only; omega⟩, by dsimp only; omega⟩ ⟨rfl, rfl, rfl, rfl, rfl, trivial⟩ (fun W s => s.drop)
      · try simp only [decide_eq_false_iff_not] at h21
        refine Sx.exit ?_
        refine Sx.thenE ?_
        refine Sx.thenE ?_
        refine Sx.blkE ?_
        refine Sx.thenN ?_
        refine Sx.region ?_
        refine Sx.cons ?_
        refine Sx.yl (.move rfl) rfl ?_
        refine Sx.cons ?_
        refine Sx.yl (.move rfl) rfl ?_
        refine Sx.cons ?_
        refine Sx.yl (.add rfl rfl (c := ((48 + n : Nat) : Int)) (by rw [wu64 (by omega) (by omega)]; rfl)) rfl ?_
        refine Sx.cons ?_
        refine Sx.yl (.conv rfl Fx.int23 Fx.int5 (wu8s (v := 48 + n) (by omega))) rfl ?_
        refine Sx.cons ?_
        refine Sx.buildSlice (e := 5) (l := [.int .u8 ((UInt8.ofNat (48 + n)).toNat : Int)]) rfl (by kernel_rfl) rfl (fun b36 => ?_)
        refine Sx.cons ?_
        refine Sx.yl (.bytesStr Fx.bytes62 Fx.str9 rfl (l := [UInt8.ofNat (48 + n)]) rfl (.box (.head _) (fun j u h => by rw [Nat.zero_add]; exact h))) rfl ?_
        refine Sx.cons ?_
        refine Sx.yl (.move rfl) rfl ?_
        refine Sx.cons ?_
        refine Sx.yl (.addS rfl rfl (by rw [str_size, str_size]; simp; omega) (str_app _ _)) rfl ?_
        refine Sx.cons ?_
        refine Sx.yl (.addS rfl rfl (by rw [str_size, str_size]; simp; omega) (str_app _ _)) rfl ?_
        refine Sx.cons ?_
        refine Sx.yl (.assign rfl) rfl ?_
        refine Sx.nil ?_
        refine Sx.blkN ?_
        refine Sx.thenN ?_
        refine Sx.region ?_
        refine Sx.cons ?_
        refine Sx.yl (.move rfl) rfl ?_
        refine Sx.cons ?_
        refine Sx.yl (.add rfl rfl (w64 (by omega) (by omega))) rfl ?_
        refine Sx.cons ?_
        refine Sx.yl (.assign rfl) rfl ?_
        refine Sx.nil ?_
        refine Sx.thenN ?_
        exact Sx.again (i + 1) ⟨by omega, by omega⟩ ⟨rfl, (by first | (rw [preT_pos x i (by omega) (dec_end (by omega) hC2.1)]; rfl) | (rw [preT_zero x i (by omega) (dec_end (by omega) hC2.1)]; rfl)), rfl, trivial⟩ (fun W s => s.drop)
    · try simp only [decide_eq_false_iff_not] at h14
      refine Sx.skip ?_
      refine Sx.thenN ?_
      refine Sx.seq ?_
      refine Sx.region ?_
      refine Sx.cons ?_
      refine Sx.yl (.move rfl) rfl ?_
      refine Sx.cons ?_
      refine Sx.yl (.indexArr Fx.arr27 rfl rfl rfl (by omega) (q := i) (by omega)) rfl ?_
      refine Sx.cons ?_
      refine Sx.yl (.load rfl Fx.agg23 (.head _) (ck_at x (k := i) (by omega))) rfl ?_
      rw [conv_nat (k := .u64) (x i) (by omega)]
      refine Sx.cons ?_
      refine Sx.yl (.assign rfl) rfl ?_
      refine Sx.cons ?_
      refine Sx.yl (.assign rfl) rfl ?_
      refine Sx.nil ?_
      refine Sx.thenN ?_
      refine Sx.seq ?_
      refine Sx.blk ?_
      -- live at the head, not kept: [2]
      refine Sx.loop (X := Nat × List UInt8) (fun z => [(1, .pointer (some ⟨b1, 0, none⟩)), (3, strV (preT x i)), (4, .int .i64 (i : Nat)), (5, .int .u64 (z.1 : Nat)), (6, strV z.2)]) (fun z => fun _ => none) (fun z => [.box b1 (ckL x) 27]) (fun z => Lib.decDigits z.1 ++ z.2 = Lib.decDigits (x i).toNat ∧ z.1 < 18446744073709551616) (fun z => z.1) ((x i).toNat, []) ⟨by simp, by show (x i).toNat < _; omega⟩ ⟨rfl, rfl, rfl, rfl, rfl, trivial⟩ (fun W s => s) ?_
      intro z hC
      obtain ⟨n, d⟩ := z
      have hC2 := hC
      dsimp only at hC2 ⊢
      have hdl : d.length ≤ 20 := Nat.le_trans (by rw [← hC2.1]; simp) hdig
      refine Sx.seq ?_
      refine Sx.seq ?_
      refine Sx.region ?_
      refine Sx.cons ?_
      refine Sx.yl (.move rfl) rfl ?_
      refine Sx.cons ?_
      refine Sx.yl (.gtr rfl rfl) rfl ?_
      refine Sx.nil ?_
      refine Sx.thenN ?_
      refine Sx.cond rfl (fun h21 => ?_) (fun h21 => ?_)
      · try simp only [decide_eq_true_eq] at h21
        refine Sx.skip ?_
        refine Sx.thenN ?_
        refine Sx.blk ?_
        refine Sx.seq ?_
        refine Sx.region ?_
        refine Sx.cons ?_
        refine Sx.yl (.move rfl) rfl ?_
        refine Sx.cons ?_
        refine Sx.yl (.rem rfl rfl (by decide) (c := ((n % 10 : Nat) : Int)) rfl) rfl ?_
        refine Sx.cons ?_
        refine Sx.yl (.add rfl rfl (c := ((48 + n % 10 : Nat) : Int)) (by rw [wu64 (by omega) (by omega)]; rfl)) rfl ?_
        refine Sx.cons ?_
        refine Sx.yl (.conv rfl Fx.int23 Fx.int5 (wu8s (v := 48 + n % 10) (by omega))) rfl ?_
        refine Sx.cons ?_
        refine Sx.buildSlice (e := 5) (l := [.int .u8 ((UInt8.ofNat (48 + n % 10)).toNat : Int)]) rfl (by kernel_rfl) rfl (fun b26 => ?_)
        refine Sx.cons ?_
        refine Sx.yl (.bytesStr Fx.bytes62 Fx.str9 rfl (l := [UInt8.ofNat (48 + n % 10)]) rfl (.box (.head _) (fun j u h => by rw [Nat.zero_add]; exact h))) rfl ?_
        refine Sx.cons ?_
        refine Sx.yl (.move rfl) rfl ?_
        refine Sx.cons ?_
        refine Sx.yl (.addS rfl rfl (by rw [str_size, str_size]; simp; omega) (str_app _ _)) rfl ?_
        refine Sx.cons ?_
        refine Sx.yl (.assign rfl) rfl ?_
        refine Sx.nil ?_
        refine Sx.thenN ?_
        refine Sx.region ?_
        refine Sx.cons ?_
        refine Sx.yl (.move rfl) rfl ?_
        refine Sx.cons ?_
        refine Sx.yl (.quo rfl rfl (by decide) (c := ((n / 10 : Nat) : Int)) (wu64 (a := ((n / 10 : Nat) : Int)) (by omega) (by omega))) rfl ?_
        refine Sx.cons ?_
        refine Sx.yl (.assign rfl) rfl ?_
        refine Sx.nil ?_
        refine Sx.blkN ?_
        refine Sx.thenN ?_
        exact Sx.again (x := (n, d)) (n / 10, UInt8.ofNat (48 + n % 10) :: d) ⟨⟨dec_step (by omega) hC2.1, by dsimp only; omega⟩, by dsimp only; omega⟩ ⟨rfl, rfl, rfl, rfl, rfl, trivial⟩ (fun W s => s.drop)
      · try simp only [decide_eq_false_iff_not] at h21
        refine Sx.exit ?_
        refine Sx.thenE ?_
        refine Sx.thenE ?_
        refine Sx.blkE ?_
        refine Sx.thenN ?_
        refine Sx.region ?_
        refine Sx.cons ?_
        refine Sx.yl (.move rfl) rfl ?_
        refine Sx.cons ?_
        refine Sx.yl (.move rfl) rfl ?_
        refine Sx.cons ?_
        refine Sx.yl (.add rfl rfl (c := ((48 + n : Nat) : Int)) (by rw [wu64 (by omega) (by omega)]; rfl)) rfl ?_
        refine Sx.cons ?_
        refine Sx.yl (.conv rfl Fx.int23 Fx.int5 (wu8s (v := 48 + n) (by omega))) rfl ?_
        refine Sx.cons ?_
        refine Sx.buildSlice (e := 5) (l := [.int .u8 ((UInt8.ofNat (48 + n)).toNat : Int)]) rfl (by kernel_rfl) rfl (fun b36 => ?_)
        refine Sx.cons ?_
        refine Sx.yl (.bytesStr Fx.bytes62 Fx.str9 rfl (l := [UInt8.ofNat (48 + n)]) rfl (.box (.head _) (fun j u h => by rw [Nat.zero_add]; exact h))) rfl ?_
        refine Sx.cons ?_
        refine Sx.yl (.move rfl) rfl ?_
        refine Sx.cons ?_
        refine Sx.yl (.addS rfl rfl (by rw [str_size, str_size]; simp; omega) (str_app _ _)) rfl ?_
        refine Sx.cons ?_
        refine Sx.yl (.addS rfl rfl (by rw [str_size, str_size]; simp; omega) (str_app _ _)) rfl ?_
        refine Sx.cons ?_
        refine Sx.yl (.assign rfl) rfl ?_
        refine Sx.nil ?_
        refine Sx.blkN ?_
        refine Sx.thenN ?_
        refine Sx.region ?_
        refine Sx.cons ?_
        refine Sx.yl (.move rfl) rfl ?_
        refine Sx.cons ?_
        refine Sx.yl (.add rfl rfl (w64 (by omega) (by omega))) rfl ?_
        refine Sx.cons ?_
        refine Sx.yl (.assign rfl) rfl ?_
        refine Sx.nil ?_
        refine Sx.thenN ?_
        exact Sx.again (i + 1) ⟨by omega, by omega⟩ ⟨rfl, (by first | (rw [preT_pos x i (by omega) (dec_end (by omega) hC2.1)]; rfl) | (rw [preT_zero x i (by omega) (dec_end (by omega) hC2.1)]; rfl)), rfl, trivial⟩ (fun W s => s.drop)
  · try simp only [decide_eq_false_iff_not] at h10
    refine Sx.exit ?_
    refine Sx.thenE ?_
    refine Sx.thenE ?_
    refine Sx.blkE ?_
    refine Sx.thenN ?_
    refine Sx.seq ?_
    refine Sx.region ?_
    refine Sx.cons ?_
    refine Sx.yl (.move rfl) rfl ?_
    refine Sx.cons ?_
    refine Sx.yl (.addS rfl rfl (by rw [str_size, str_size [93]]; simp; omega) (str_app _ [93])) rfl ?_
    refine Sx.cons ?_
    refine Sx.yl (.assign rfl) rfl ?_
    refine Sx.nil ?_
    refine Sx.thenN ?_
    refine Sx.ret ?_
    refine Sx.ret1 (.inl rfl) rfl (.tmp rfl) (fun W s => ⟨?_, s.ext⟩)
    obtain rfl : i = lenK x 16 := by omega
    rfl
theorem lenK_zero {x : Nat → Int} : ∀ (k j : Nat), lenK x k ≤ j → j < k → x j = 0
  | 0, j, _, h => by omega
  | k + 1, j, h1, h2 => by
    unfold lenK at h1
    split at h1
    · rename_i h0
      by_cases e : j = k
      · subst e; exact h0
      · exact lenK_zero k j h1 (by omega)
    · omega
theorem words_join : ∀ (ws : List (List UInt8)), ws ≠ [] → (∀ w ∈ ws, (44 : UInt8) ∉ w) → Lib.splitK [44] 0 (ws.length - 1) (Lib.join ws [44]) = ws
  | [], h, _ => absurd rfl h
  | [a], _, _ => by simp [Lib.join, List.intercalate, Lib.splitK]
  | a :: b :: r, _, h => by
    have ih := words_join (b :: r) (by simp) (fun w hw => h w (by simp at hw ⊢; exact .inr hw))
    have e : Lib.join (a :: b :: r) [44] = a ++ 44 :: Lib.join (b :: r) [44] := by simp [Lib.join, List.intercalate]
    have hi : Lib.index (a ++ 44 :: Lib.join (b :: r) [44]) [44] = a.length := Go.Plain.index_at 44 _ a (h a (by simp))
    rw [e]
    show Lib.splitK [44] 0 ((b :: r).length - 1 + 1) _ = _
    unfold Lib.splitK
    rw [hi]
    have hne : ((a.length : Int) == -1) = false := by simp
    rw [hne]
    simp only [Bool.false_eq_true, if_false, Int.toNat_natCast, Nat.add_zero, List.length_cons, List.length_nil, Nat.zero_add]
    have h0 : a.drop (a.length + 1) = [] := List.drop_eq_nil_of_le (by omega)
    rw [List.take_left' rfl, List.drop_append, h0]
    simp at ih ⊢
    exact ih
theorem join_count : ∀ (ws : List (List UInt8)), (∀ w ∈ ws, (44 : UInt8) ∉ w) → (Lib.join ws [44]).count 44 = ws.length - 1
  | [], _ => by simp [Lib.join]
  | [a], h => by simp [Lib.join, List.intercalate]; exact List.count_eq_zero.2 (h a (by simp))
  | a :: b :: r, h => by
    have ih := join_count (b :: r) (fun w hw => h w (by simp at hw ⊢; exact .inr hw))
    have e : Lib.join (a :: b :: r) [44] = a ++ 44 :: Lib.join (b :: r) [44] := by simp [Lib.join, List.intercalate]
    rw [e, List.count_append, List.count_cons_self, ih, List.count_eq_zero.2 (h a (by simp))]
    simp
theorem texts_no (x : Nat → Int) (k : Nat) : ∀ w ∈ texts x k, (44 : UInt8) ∉ w := by
  intro w hw
  obtain ⟨i, _, rfl⟩ := List.mem_map.1 hw
  intro h
  have := Go.Plain.digits_are _ _ h
  exact absurd this (by decide)
theorem join_pos (ws : List (List UInt8)) (h : ws ≠ []) (hn : ∀ w ∈ ws, w ≠ []) : 0 < (Lib.join ws [44]).length := by
  cases ws with
  | nil => exact absurd rfl h
  | cons a r =>
    have := List.length_pos_iff.2 (hn a (by simp))
    cases r with
    | nil => simp [Lib.join, List.intercalate]; exact this
    | cons b r =>
      have e : Lib.join (a :: b :: r) [44] = a ++ [44] ++ Lib.join (b :: r) [44] := by simp [Lib.join, List.intercalate]
      rw [e]; simp; omega
theorem inner_text (m : List UInt8) : inner ([91] ++ m ++ [93]) = m := by simp [inner]
theorem text_words (x : Nat → Int) (h : 0 < lenK x 16) : fits (textL x) ∧ wordsL (inner (textL x)) = texts x (lenK x 16) := by
  have hle := lenK_le x 16
  have hne : texts x (lenK x 16) ≠ [] := fun e => by have := congrArg List.length e; rw [texts_length] at this; simp at this; omega
  have hc := join_count _ (texts_no x (lenK x 16))
  rw [texts_length] at hc
  refine ⟨⟨?_, ?_⟩, ?_⟩
  · have := join_pos _ hne (fun w hw => by obtain ⟨i, _, rfl⟩ := List.mem_map.1 hw; exact Go.Plain.digits_ne _)
    unfold textL; simp; omega
  · unfold textL
    rw [Lib.count_one, List.count_append, List.count_append, hc]
    simp
    omega
  · unfold textL wordsL
    rw [inner_text, Lib.count_one, hc]
    have := words_join _ hne (texts_no x (lenK x 16))
    rwa [texts_length] at this
theorem val_dig (u : Nat) (h : u < 18446744073709551616) : valW (Lib.decDigits u) = u := valW_ok (Go.Plain.parseUint_digits u h)
theorem text_parseX (x : Nat → Int) (hU : U64 x) : parseX (textL x) = entL x := by
  by_cases h : 0 < lenK x 16
  · obtain ⟨hf, hw⟩ := text_words x h
    unfold parseX
    rw [if_pos hf, hw]
    unfold texts entL
    rw [List.map_map]
    apply List.map_congr_left
    intro i _
    have := hU i
    show valW (Lib.decDigits (x i).toNat) = x i
    rw [val_dig _ (by omega)]
    omega
  · have h0 : lenK x 16 = 0 := by omega
    unfold parseX
    rw [if_neg (fun hf => by
      have := hf.1
      unfold textL texts at this
      rw [h0] at this
      simp [Lib.join] at this)]
    unfold entL
    rw [h0]
    rfl
theorem ent_back (x : Nat → Int) : ∀ j, j < 16 → ofF (entL x) j = x j := by
  intro j hj
  by_cases h : j < lenK x 16
  · exact entL_get x h
  · unfold ofF
    rw [List.getD, List.getElem?_eq_none (by rw [entL_length]; omega)]
    exact (lenK_zero 16 j (by omega) hj).symm
theorem text_good (x : Nat → Int) (hU : U64 x) : good (textL x) := by
  refine ⟨fun hf m hm => ?_, ?_⟩
  · by_cases h : 0 < lenK x 16
    · rw [(text_words x h).2] at hm
      obtain ⟨i, _, rfl⟩ := List.mem_map.1 hm
      have := hU i
      exact ⟨_, Go.Plain.parseUint_digits (x i).toNat (by omega)⟩
    · have h0 : lenK x 16 = 0 := by omega
      have := hf.1
      unfold textL texts at this
      rw [h0] at this
      simp [Lib.join] at this
  · rw [text_parseX x hU]
    exact text_congr (ent_back x)
theorem text_len (x : Nat → Int) (hU : U64 x) : (textL x).length ≤ 400 := by
  have := join_len _ (texts_len x hU (lenK x 16))
  have h2 := lenK_le x 16
  rw [texts_length] at this
  unfold textL; simp; omega
theorem parse_text (x : Nat → Int) (hU : U64 x) (w : World) (G : Globs w) : Calls Tryd.prog 21 #[strV (textL x)] w fun e w' => e = .returned (.tuple #[ck x, .int .i64 0]) ∧ Ext w w' := by
  have h := parse_good (textL x) (Nat.le_trans (text_len x hU) (by decide)) (text_good x hU) w G
  have e : ck (ofF (parseX (textL x))) = ck x := by
    rw [text_parseX x hU, ck_eq, ck_eq, ck_congrL (ent_back x)]
  rwa [e] at h
set_option maxHeartbeats 4000000 in
set_option maxRecDepth 100000 in
theorem texts_law (H : Hp) (v0 : Value) (n0 : Nat) (xs0 : List Int) (h0 : SlAt H v0 n0 (u64L xs0)) (r0 : ∀ a ∈ xs0, 0 ≤ a ∧ a < 18446744073709551616) (w : World) (hA : Agr H w) (G : Globs w) :
    Calls Tryd.prog 9 #[v0] w fun e w' => e = .returned (.bool true) ∧ Ext w w' := by
  have hx := take_rng r0
  refine Sx.enter (H := H) Tryd.func9 rfl Tryd.ntmps9 rfl hA ?_
  refine Sx.seq ?_
  refine Sx.region ?_
  refine Sx.cons ?_
  refine Sx.yl (.assign rfl) rfl ?_
  refine Sx.nil ?_
  refine Sx.thenN ?_
  refine Sx.seq ?_
  refine Sx.region ?_
  refine Sx.cons ?_
  refine Sx.yl (.move rfl) rfl ?_
  refine Sx.cons ?_
  refine Sx.yl (.call Fx.call13 rfl (fun W s => both_any H v0 n0 xs0 h0 W s.agr)) rfl ?_
  refine Sx.cons ?_
  refine Sx.yl (.move rfl) rfl ?_
  refine Sx.cons ?_
  refine Sx.yl (.extract rfl rfl) rfl ?_
  refine Sx.cons ?_
  refine Sx.yl (.extract rfl rfl) rfl ?_
  refine Sx.cons ?_
  refine Sx.yl (.extract rfl rfl) rfl ?_
  refine Sx.cons ?_
  refine Sx.alloc Fx.zero26 rfl (fun b3 => ?_)
  refine Sx.cons ?_
  refine Sx.alloc Fx.zero27 rfl (fun b4 => ?_)
  refine Sx.cons ?_
  first
    | refine Sx.storeW rfl rfl Fx.size26 (ckL_one _) (.head) rfl ?_
    | refine Sx.storeW rfl rfl Fx.size26 (ckL_one _) (.tail (.head)) rfl ?_
  refine Sx.cons ?_
  first
    | refine Sx.storeW rfl rfl Fx.size27 (ckL_one _) (.head) rfl ?_
    | refine Sx.storeW rfl rfl Fx.size27 (ckL_one _) (.tail (.head)) rfl ?_
  refine Sx.cons ?_
  refine Sx.yl (.assign rfl) rfl ?_
  refine Sx.nil ?_
  refine Sx.thenN ?_
  refine Sx.seq ?_
  refine Sx.seq ?_
  refine Sx.par (hd := [_, _, _, _, _, _, _, _, _, _, _, _]) 12 [] (by kernel_rfl) (by kernel_rfl) rfl (fun _ _ _ _ _ h => h) ?_
  refine Sx.rYl rfl (.call Fx.call15 rfl (fun W s => awake_any W (G.ext s.ext))) rfl ?_
  refine Sx.rYl rfl (.not rfl) rfl ?_
  refine Sx.rMove rfl rfl ?_
  refine Sx.rYlG rfl rfl rfl (.move rfl) rfl ?_
  refine Sx.rYlG rfl rfl rfl (.not rfl) rfl ?_
  refine Sx.rYl rfl (.pickF rfl rfl) rfl ?_
  refine Sx.rMove rfl rfl ?_
  first
    | refine Sx.rYlG rfl rfl rfl (.loadW rfl Fx.agg26 (.head _) (ck_length _)) rfl ?_
    | refine Sx.rYlG rfl rfl rfl (.loadW rfl Fx.agg26 (.tail _ (.head _)) (ck_length _)) rfl ?_
  refine Sx.rYlG rfl rfl rfl (.call Fx.call20 rfl (fun W s => text_any (ofF (xs0.take 16)) hx W (G.ext s.ext))) rfl ?_
  first
    | refine Sx.rYlG rfl rfl rfl (.loadW rfl Fx.agg27 (.head _) (ck_length _)) rfl ?_
    | refine Sx.rYlG rfl rfl rfl (.loadW rfl Fx.agg27 (.tail _ (.head _)) (ck_length _)) rfl ?_
  refine Sx.rYlG rfl rfl rfl (.call Fx.call26 rfl (fun W s => rtext_any (ofF (xs0.take 16)) hx W)) rfl ?_
  refine Sx.rYlG rfl rfl rfl (.neqS rfl rfl) rfl ?_
  refine Sx.rFin (tl := [_]) rfl ?_
  refine Sx.cons ?_
  refine Sx.yl (.pickF rfl rfl) rfl ?_
  refine Sx.nil ?_
  refine Sx.thenN ?_
  refine Sx.cond rfl (fun h26 => ?_) (fun h26 => ?_)
  · exact absurd h26 (by simp)
  · try simp only [decide_eq_false_iff_not] at h26
    refine Sx.skip ?_
    refine Sx.thenN ?_
    refine Sx.seq ?_
    refine Sx.region ?_
    refine Sx.cons ?_
    first
      | refine Sx.yl (.loadW rfl Fx.agg26 (.head _) (ck_length _)) rfl ?_
      | refine Sx.yl (.loadW rfl Fx.agg26 (.tail _ (.head _)) (ck_length _)) rfl ?_
    refine Sx.cons ?_
    refine Sx.yl (.call Fx.call20 rfl (fun W s => text_any (ofF (xs0.take 16)) hx W (G.ext s.ext))) rfl ?_
    refine Sx.cons ?_
    refine Sx.yl (.call Fx.call21 rfl (fun W s => parse_text (ofF (xs0.take 16)) hx W (G.ext s.ext))) rfl ?_
    refine Sx.cons ?_
    refine Sx.yl (.move rfl) rfl ?_
    refine Sx.cons ?_
    refine Sx.yl (.extract rfl rfl) rfl ?_
    refine Sx.cons ?_
    refine Sx.yl (.extract rfl rfl) rfl ?_
    refine Sx.cons ?_
    refine Sx.alloc Fx.zero26 rfl (fun b6 => ?_)
    refine Sx.cons ?_
    first
      | refine Sx.storeW rfl rfl Fx.size26 (ckL_one _) (.head) rfl ?_
      | refine Sx.storeW rfl rfl Fx.size26 (ckL_one _) (.tail (.head)) rfl ?_
      | refine Sx.storeW rfl rfl Fx.size26 (ckL_one _) (.tail (.tail (.head))) rfl ?_
    refine Sx.cons ?_
    refine Sx.yl (.assign rfl) rfl ?_
    refine Sx.nil ?_
    refine Sx.thenN ?_
    refine Sx.seq ?_
    refine Sx.region ?_
    refine Sx.cons ?_
    refine Sx.yl (.move rfl) rfl ?_
    refine Sx.cons ?_
    refine Sx.yl (.eql rfl rfl) rfl ?_
    refine Sx.cons ?_
    refine Sx.yl (.move rfl) rfl ?_
    refine Sx.cons ?_
    refine Sx.guardT rfl rfl ?_
    first
      | refine Sx.yl (.loadW rfl Fx.agg26 (.head _) (ck_length _)) rfl ?_
      | refine Sx.yl (.loadW rfl Fx.agg26 (.tail _ (.head _)) (ck_length _)) rfl ?_
      | refine Sx.yl (.loadW rfl Fx.agg26 (.tail _ (.tail _ (.head _))) (ck_length _)) rfl ?_
    refine Sx.cons ?_
    refine Sx.guardT rfl rfl ?_
    first
      | refine Sx.yl (.loadW rfl Fx.agg27 (.head _) (ck_length _)) rfl ?_
      | refine Sx.yl (.loadW rfl Fx.agg27 (.tail _ (.head _)) (ck_length _)) rfl ?_
      | refine Sx.yl (.loadW rfl Fx.agg27 (.tail _ (.tail _ (.head _))) (ck_length _)) rfl ?_
    refine Sx.cons ?_
    refine Sx.guardT rfl rfl ?_
    refine Sx.yl (.call Fx.call24 rfl (fun W s => is_any (ofF (xs0.take 16)) hx W)) rfl ?_
    refine Sx.cons ?_
    refine Sx.yl (.pickT rfl rfl) rfl ?_
    refine Sx.cons ?_
    refine Sx.yl (.assign rfl) rfl ?_
    refine Sx.nil ?_
    refine Sx.thenN ?_
    refine Sx.ret ?_
    refine Sx.ret1 (.inl rfl) rfl (.tmp rfl) (fun W s => ⟨?_, s.ext⟩)
    rfl
end Go.Proofs.YtnmickfdflinpaaDoor
