/- Contracts of FormatUint. -/
import Derived.Test.YtnmickfdflinpaaDoorF6
namespace Go.Proofs.YtnmickfdflinpaaDoor
open Go.RowKit Go.Par Go.Sx
/-- What is told of the package variables. -/
structure Globs (w : World) : Prop where
  tab : Lib.TabIs Tryd.prog w "internal/strconv.uint64pow10" .u64 Lib.pow10Tab
  most : ∃ m : Int, w.cell? ⟨0, 0, none⟩ = some (.int .i64 m)
  errS : ∃ tp p, w.var? Tryd.prog "strconv.ErrSyntax" = some #[.iface tp p]
  errR : ∃ tp p, w.var? Tryd.prog "strconv.ErrRange" = some #[.iface tp p]
  size : 7 < w.heap.size
theorem var_ext {n : String} {g : Nat} {W W' : World} {cs : Array Value} (h : Ext W W') (hg : Tryd.prog.globalNamed n = some g) (hs : g < W.heap.size) (hv : W.var? Tryd.prog n = some cs) : W'.var? Tryd.prog n = some cs := by
  unfold World.var? at hv ⊢
  simp only [hg, Option.bind_some] at hv ⊢
  rw [(Ext.below h).block g hs]
  exact hv
theorem Globs.ext {W W' : World} (G : Globs W) (h : Ext W W') : Globs W' := by
  have hs := G.size
  refine ⟨?_, ?_, ?_, ?_, Nat.lt_of_lt_of_le hs h.size⟩
  · exact var_ext h (g := 1) (by kernel_rfl) (by omega) G.tab
  · obtain ⟨m, hm⟩ := G.most
    exact ⟨m, by rw [h.cells 0 0 (by omega)]; exact hm⟩
  · obtain ⟨tp, p, hv⟩ := G.errS
    exact ⟨tp, p, var_ext h (g := 2) (by kernel_rfl) (by omega) hv⟩
  · obtain ⟨tp, p, hv⟩ := G.errR
    exact ⟨tp, p, var_ext h (g := 3) (by kernel_rfl) (by omega) hv⟩
theorem same_ext {w w' : World} (h : w' = w) : Ext w w' := h ▸ Ext.refl _
def strV (l : List UInt8) : Value := .string ⟨l.toArray⟩
theorem small_any (u : Nat) (h : u < 100) (w : World) : Calls Tryd.prog 55 #[.int .i64 u] w fun e w' => e = .returned (strV (Lib.decDigits u)) ∧ Ext w w' :=
  (Tryd.internal_strconv_small u h w).mono fun _ _ ⟨a, b⟩ => ⟨a, same_ext b⟩
theorem digits_any (u : Nat) (h1 : 1 ≤ u) (h2 : u < 18446744073709551616) (w : World) (G : Globs w) : Calls Tryd.prog 56 #[.int .u64 u] w fun e w' => e = .returned (.int .i64 (Lib.nDigits u)) ∧ Ext w w' :=
  (Tryd.internal_strconv_numDigits u h1 h2 w G.tab).mono fun _ _ ⟨a, b⟩ => ⟨a, same_ext b⟩
theorem digits_le (u : Nat) (h1 : 1 ≤ u) (h2 : u < 18446744073709551616) : Lib.nDigits u ≤ 20 := by
  have := Lib.numDigits_eq u h1 h2
  split at this <;> omega
/-- The row of a numeral, written by formatBase10. -/
theorem base10_st {H : Hp} {w0 W : World} {bs : List Res} {b : Nat} {t' : TypeId} {l : List Value} (u cap : Nat) (h2 : u < 18446744073709551616) (hd : Lib.nDigits u ≤ 20) (hl : 20 ≤ l.length) (hz : ∀ j, j < 20 → l[j]? = some (.int .u8 0))
    (bs' : List Value → List Res) (hm : ∀ l', Upd bs (.box b l t') (.box b l' t') (bs' l')) (s : St H w0 bs W) :
    Calls Tryd.prog 57 #[.slice (some ⟨b, 0, none⟩) (Lib.nDigits u) cap, .int .u64 u] W fun e W' => ∃ l' : List Value, (∀ j v, ((Lib.decDigits u).map byteV)[j]? = some v → l'[0 + j]? = some v) ∧ e = .returned (.tuple #[]) ∧ St H w0 (bs' l') W' := by
  have hH : Sort.Holds (fun (b : UInt8) => Value.int .u8 (b.toNat : Int)) W b 0 (Array.replicate (Lib.nDigits u) 0) := fun j hj => by
    rw [Array.size_replicate] at hj
    have := s.cell (off := j) (hm l).mem (hz j (by omega))
    rw [Nat.zero_add]
    refine ⟨by rw [this.1]; simp [hj], this.2⟩
  have hf := Tryd.internal_strconv_formatBase10 b 0 cap u (Array.replicate (Lib.nDigits u) 0) W hH (by rw [Array.size_replicate]; exact Lib.lt_pow_nDigits u) h2 (by rw [Array.size_replicate]; omega)
  rw [Array.size_replicate] at hf
  refine hf.mono ?_
  rintro e W' ⟨rfl, k, v', dk, rfl, hF⟩
  refine ⟨(Sort.putCells byteV 0 dk l.toArray).toList, ?_, rfl, s.putRow byteV dk k (hm _)⟩
  intro j v hj
  have hj' : j < (Lib.decDigits u).length := by
    have := (List.getElem?_eq_some_iff.1 hj).1
    simpa using this
  have hn : j < Lib.nDigits u := by rw [← Lib.decDigits_length]; exact hj'
  rw [putCells_at byteV 0 dk l j (by rw [hF.size]; exact hn) (by omega), ← hj]
  simp [hj', Lib.row_is_numeral hF j hj']
theorem z97 : ∀ j, j < 20 → (List.replicate 24 (Value.int .u8 0))[j]? = some (Value.int .u8 0) := fun j h => by rw [List.getElem?_replicate, if_pos (by omega)]
set_option maxRecDepth 100000 in
theorem ifmt_any (u : Nat) (hu : u < 18446744073709551616) (w : World) (G : Globs w) :
    Calls Tryd.prog 44 #[.int .u64 u, .int .i64 10] w fun e w' => e = .returned (strV (Lib.decDigits u)) ∧ Ext w w' := by
  refine Sx.enter (H := (fun _ => none)) Tryd.func44 rfl Tryd.ntmps44 rfl (fun _ _ e => by cases e) ?_
  refine Sx.seq ?_
  refine Sx.region ?_
  refine Sx.cons ?_
  refine Sx.yl (.assign rfl) rfl ?_
  refine Sx.nil ?_
  refine Sx.thenN ?_
  refine Sx.seq ?_
  refine Sx.seq ?_
  refine Sx.region ?_
  refine Sx.cons ?_
  refine Sx.yl (.move rfl) rfl ?_
  refine Sx.cons ?_
  refine Sx.yl (.eql rfl rfl) rfl ?_
  refine Sx.nil ?_
  refine Sx.thenN ?_
  refine Sx.cond rfl (fun h10 => ?_) (fun h10 => ?_)
  · try simp only [decide_eq_true_eq] at h10
    refine Sx.seq ?_
    refine Sx.seq ?_
    refine Sx.region ?_
    refine Sx.cons ?_
    refine Sx.yl (.move rfl) rfl ?_
    refine Sx.cons ?_
    refine Sx.yl (.lss rfl rfl) rfl ?_
    refine Sx.nil ?_
    refine Sx.thenN ?_
    refine Sx.cond rfl (fun h12 => ?_) (fun h12 => ?_)
    · try simp only [decide_eq_true_eq] at h12
      refine Sx.seq ?_
      refine Sx.region ?_
      refine Sx.cons ?_
      refine Sx.yl (.move rfl) rfl ?_
      refine Sx.cons ?_
      refine Sx.yl (.conv rfl Fx.int23 Fx.int3 (w64 (by omega) (by omega))) rfl ?_
      refine Sx.cons ?_
      refine Sx.yl (.call Fx.call55 rfl (fun W s => small_any u (by omega) W)) rfl ?_
      refine Sx.cons ?_
      refine Sx.yl (.assign rfl) rfl ?_
      refine Sx.nil ?_
      refine Sx.thenN ?_
      refine Sx.ret ?_
      refine Sx.thenR ?_
      refine Sx.thenR ?_
      exact Sx.ret1 (.inl rfl) rfl (.tmp rfl) (fun W s => ⟨rfl, s.ext⟩)
    · simp only [decide_eq_false_iff_not] at h12
      have hd := digits_le u (by omega) (by omega)
      refine Sx.skip ?_
      refine Sx.thenN ?_
      refine Sx.seq ?_
      refine Sx.region ?_
      refine Sx.cons ?_
      refine Sx.alloc Fx.zero97 rfl (fun b5 => ?_)
      refine Sx.nil ?_
      refine Sx.thenN ?_
      refine Sx.seq ?_
      refine Sx.region ?_
      refine Sx.cons ?_
      refine Sx.yl (.move rfl) rfl ?_
      refine Sx.cons ?_
      refine Sx.yl (.call Fx.call56 rfl (fun W s => digits_any u (by omega) (by omega) W (G.ext s.ext))) rfl ?_
      refine Sx.cons ?_
      refine Sx.yl (.assign rfl) rfl ?_
      refine Sx.nil ?_
      refine Sx.thenN ?_
      refine Sx.seq ?_
      refine Sx.region ?_
      refine Sx.cons ?_
      refine Sx.yl (.move rfl) rfl ?_
      refine Sx.cons ?_
      refine Sx.yl (.cutArrHi Fx.arr97 rfl rfl rfl (by omega)) rfl ?_
      refine Sx.cons ?_
      refine Sx.yl (.move rfl) rfl ?_
      refine Sx.cons ?_
      refine Sx.callS Fx.call57 rfl (fun W s => base10_st u _ (by omega) hd (by decide) z97 (fun l => [.box b5 l 97]) (fun _ => .head) s) rfl (fun l hl => ?_)
      refine Sx.nil ?_
      refine Sx.thenN ?_
      refine Sx.seq ?_
      refine Sx.region ?_
      refine Sx.cons ?_
      refine Sx.yl (.move rfl) rfl ?_
      refine Sx.cons ?_
      refine Sx.yl (.cutArrHi Fx.arr97 rfl rfl rfl (by omega)) rfl ?_
      refine Sx.cons ?_
      refine Sx.yl (.bytesStr Fx.bytes62 Fx.str9 rfl (l := Lib.decDigits u) (Lib.decDigits_length u) (.box (.head _) hl)) rfl ?_
      refine Sx.cons ?_
      refine Sx.yl (.assign rfl) rfl ?_
      refine Sx.nil ?_
      refine Sx.thenN ?_
      refine Sx.ret ?_
      refine Sx.thenR ?_
      exact Sx.ret1 (.inl rfl) rfl (.tmp rfl) (fun W s => ⟨rfl, s.ext⟩)
  · exact absurd h10 (by simp)
set_option maxRecDepth 100000 in
theorem fmt_any (u : Nat) (hu : u < 18446744073709551616) (w : World) (G : Globs w) :
    Calls Tryd.prog 34 #[.int .u64 u, .int .i64 10] w fun e w' => e = .returned (strV (Lib.decDigits u)) ∧ Ext w w' := by
  refine Sx.enter (H := (fun _ => none)) Tryd.func34 rfl Tryd.ntmps34 rfl (fun _ _ e => by cases e) ?_
  refine Sx.seq ?_
  refine Sx.region ?_
  refine Sx.cons ?_
  refine Sx.yl (.assign rfl) rfl ?_
  refine Sx.nil ?_
  refine Sx.thenN ?_
  refine Sx.seq ?_
  refine Sx.region ?_
  refine Sx.cons ?_
  refine Sx.yl (.move rfl) rfl ?_
  refine Sx.cons ?_
  refine Sx.yl (.move rfl) rfl ?_
  refine Sx.cons ?_
  refine Sx.yl (.call Fx.call44 rfl (fun W s => ifmt_any u hu W (G.ext s.ext))) rfl ?_
  refine Sx.cons ?_
  refine Sx.yl (.assign rfl) rfl ?_
  refine Sx.nil ?_
  refine Sx.thenN ?_
  refine Sx.ret ?_
  exact Sx.ret1 (.inl rfl) rfl (.tmp rfl) (fun W s => ⟨rfl, s.ext⟩)
end Go.Proofs.YtnmickfdflinpaaDoor
