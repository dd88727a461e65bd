/- Contracts of Bytes. -/
import Derived.Test.YtnmickfdflinpaaDoorF9
namespace Go.Proofs.YtnmickfdflinpaaDoor
open Go.RowKit Go.Par Go.Sx
/-- A number in groups of seven bits. -/
def encU (v : Nat) : List UInt8 := if v < 128 then [UInt8.ofNat v] else UInt8.ofNat (v % 128 + 128) :: encU (v / 128)
termination_by v
decreasing_by omega
theorem encU_small {v : Nat} (h : v < 128) : encU v = [UInt8.ofNat v] := by rw [encU, if_pos h]
theorem encU_big {v : Nat} (h : ¬ v < 128) : encU v = UInt8.ofNat (v % 128 + 128) :: encU (v / 128) := by rw [encU, if_neg h]
theorem encU_len : ∀ (k v : Nat), v < 128 ^ (k + 1) → (encU v).length ≤ k + 1
  | 0, v, h => by rw [encU_small (by omega)]; simp
  | k + 1, v, h => by
    by_cases h1 : v < 128
    · rw [encU_small h1]; simp
    · rw [encU_big h1]
      have := encU_len k (v / 128) (Nat.div_lt_of_lt_mul (by rw [← Nat.pow_succ']; exact h))
      simp; omega
theorem encU_len10 {v : Nat} (h : v < 18446744073709551616) : (encU v).length ≤ 10 := encU_len 9 v (Nat.lt_of_lt_of_le h (by decide))
theorem wu8 (v : Nat) : IntKind.u8.wrap (v : Int) = ((v % 256 : Nat) : Int) := by
  unfold IntKind.wrap
  simp [IntKind.signed, IntKind.bits]
theorem wu8s {v : Nat} (_ : v < 256) : IntKind.u8.wrap (v : Int) = ((UInt8.ofNat v).toNat : Int) := by
  rw [wu8]; simp
set_option maxRecDepth 100000 in
theorem or128 : ∀ a : Nat, a < 256 → IntKind.u8.wrap (((BitVec.ofInt 8 (a : Int) ||| BitVec.ofInt 8 128).toNat : Nat) : Int) = ((a % 128 + 128 : Nat) : Int) := by decide
theorem or128v (v : Nat) : IntKind.u8.wrap (((BitVec.ofInt 8 ((v % 256 : Nat) : Int) ||| BitVec.ofInt 8 128).toNat : Nat) : Int) = ((UInt8.ofNat (v % 128 + 128)).toNat : Int) := by
  rw [or128 _ (Nat.mod_lt _ (by decide))]
  simp
  omega
abbrev bytesR (r : Value) (l : List UInt8) : Res := .row 5 1 r l.length (l.map byteV)
theorem byteV_one (l : List UInt8) : ∀ u ∈ l.map byteV, u.oneCell' = true := by
  intro u hu
  obtain ⟨b, _, rfl⟩ := List.mem_map.1 hu
  rfl
theorem bytesR_app (r : Value) (l m : List UInt8) : Res.row 5 1 r (l.length + m.length) (l.map byteV ++ m.map byteV) = bytesR r (l ++ m) := by simp [bytesR]
theorem bytesR_one (r : Value) (l : List UInt8) (b : UInt8) : Res.row 5 1 r (l.length + 1) (l.map byteV ++ [Value.int .u8 b.toNat]) = bytesR r (l ++ [b]) := by simp [bytesR, byteV]
set_option maxRecDepth 100000 in
theorem put_st {H : Hp} {w0 W : World} (B : Value → Nat → List Value → List Res) (hB : ∀ r k xs r' k' xs', Upd (B r k xs) (.row 5 1 r k xs) (.row 5 1 r' k' xs') (B r' k' xs')) (r : Value) (l : List UInt8) (v0 : Nat) (hv : v0 < 18446744073709551616) (hl : l.length ≤ 1000000)
    (s : St H w0 (B r l.length (l.map byteV)) W) :
    Calls Tryd.prog 54 #[r, .int .u64 v0] W fun e W' => ∃ r', True ∧ e = .returned r' ∧ St H w0 (B r' (l ++ encU v0).length ((l ++ encU v0).map byteV)) W' := by
  refine Sx.enterS Tryd.func54 rfl Tryd.ntmps54 rfl s ?_
  refine Sx.seq ?_
  refine Sx.region ?_
  refine Sx.cons ?_
  refine Sx.yl (.assign rfl) rfl ?_
  refine Sx.nil ?_
  refine Sx.thenN ?_
  refine Sx.seq ?_
  refine Sx.blk ?_
  -- live at the head, not kept: [4]
  refine Sx.loop (X := Value × List UInt8 × Nat) (fun z => [(0, z.1), (1, .int .u64 (z.2.2 : Nat))]) (fun z => H) (fun z => B z.1 (l ++ z.2.1).length ((l ++ z.2.1).map byteV)) (fun z => z.2.1 ++ encU z.2.2 = encU v0 ∧ z.2.2 < 18446744073709551616) (fun z => z.2.2) (r, [], v0) ⟨rfl, hv⟩ ⟨rfl, rfl, trivial⟩ (fun W s => by simpa using s) ?_
  intro z hC
  obtain ⟨r, dn, v⟩ := z
  dsimp only at hC ⊢
  have hlen : dn.length ≤ 10 := Nat.le_trans (by rw [← hC.1]; simp) (encU_len10 hv)
  have hll : (l ++ dn).length ≤ 1000010 := by rw [List.length_append]; omega
  refine Sx.seq ?_
  refine Sx.seq ?_
  refine Sx.region ?_
  refine Sx.cons ?_
  refine Sx.yl (.move rfl) rfl ?_
  refine Sx.cons ?_
  refine Sx.yl (.geq rfl rfl) rfl ?_
  refine Sx.nil ?_
  refine Sx.thenN ?_
  refine Sx.cond rfl (fun h6 => ?_) (fun h6 => ?_)
  · try simp only [decide_eq_true_eq] at h6
    refine Sx.skip ?_
    refine Sx.thenN ?_
    refine Sx.blk ?_
    refine Sx.seq ?_
    refine Sx.region ?_
    refine Sx.cons ?_
    refine Sx.yl (.move rfl) rfl ?_
    refine Sx.cons ?_
    refine Sx.yl (.move rfl) rfl ?_
    refine Sx.cons ?_
    refine Sx.yl (.conv rfl Fx.int23 Fx.int5 (wu8 v)) rfl ?_
    refine Sx.cons ?_
    refine Sx.yl (.orI rfl rfl (or128v v)) rfl ?_
    refine Sx.cons ?_
    refine Sx.buildSlice (e := 5) (l := [.int .u8 ((UInt8.ofNat (v % 128 + 128)).toNat : Int)]) rfl (by kernel_rfl) rfl (fun b11 => ?_)
    refine Sx.cons ?_
    refine Sx.append (news := [.int .u8 ((UInt8.ofNat (v % 128 + 128)).toNat : Int)]) Fx.row62 rfl (fun _ => .tail (hB _ _ _ _ _ _)) rfl (.box (.head _) (fun j u h => by rw [Nat.zero_add]; exact h)) rfl (by simp [Value.oneCell']) (by simp [maxLen]; omega) (by omega) rfl (fun r2 hr2 => ?_)
    refine Sx.cons ?_
    refine Sx.yl (.assign rfl) rfl ?_
    refine Sx.nil ?_
    refine Sx.thenN ?_
    refine Sx.region ?_
    refine Sx.cons ?_
    refine Sx.yl (.move rfl) rfl ?_
    refine Sx.cons ?_
    refine Sx.yl (.shr rfl rfl (m := 7) rfl (by decide) (c := ((v / 128 : Nat) : Int)) (by rw [show ((2 : Int) ^ 7) = 128 from rfl, Int.fdiv_eq_ediv_of_nonneg _ (by decide)]; rfl)) rfl ?_
    refine Sx.cons ?_
    refine Sx.yl (.assign rfl) rfl ?_
    refine Sx.nil ?_
    refine Sx.blkN ?_
    refine Sx.thenN ?_
    exact Sx.again (x := (r, dn, v)) (r2, dn ++ [UInt8.ofNat (v % 128 + 128)], v / 128) ⟨⟨by dsimp only; rw [← hC.1, encU_big (v := v) (by omega)]; simp, by dsimp only; omega⟩, by dsimp only; omega⟩ ⟨rfl, rfl, trivial⟩ (fun W s => by have h := s.drop; simpa [byteV, Nat.add_assoc] using h)
  · try simp only [decide_eq_false_iff_not] at h6
    refine Sx.exit ?_
    refine Sx.thenE ?_
    refine Sx.thenE ?_
    refine Sx.blkE ?_
    refine Sx.thenN ?_
    refine Sx.seq ?_
    refine Sx.region ?_
    refine Sx.cons ?_
    refine Sx.yl (.move rfl) rfl ?_
    refine Sx.cons ?_
    refine Sx.yl (.move rfl) rfl ?_
    refine Sx.cons ?_
    refine Sx.yl (.conv rfl Fx.int23 Fx.int5 (wu8s (v := v) (by omega))) rfl ?_
    refine Sx.cons ?_
    refine Sx.buildSlice (e := 5) (l := [.int .u8 ((UInt8.ofNat v).toNat : Int)]) rfl (by kernel_rfl) rfl (fun b18 => ?_)
    refine Sx.cons ?_
    refine Sx.append (news := [.int .u8 ((UInt8.ofNat v).toNat : Int)]) Fx.row62 rfl (fun _ => .tail (hB _ _ _ _ _ _)) rfl (.box (.head _) (fun j u h => by rw [Nat.zero_add]; exact h)) rfl (by simp [Value.oneCell']) (by simp [maxLen]; omega) (by omega) rfl (fun r2 hr2 => ?_)
    refine Sx.cons ?_
    refine Sx.yl (.assign rfl) rfl ?_
    refine Sx.nil ?_
    refine Sx.thenN ?_
    refine Sx.ret ?_
    refine Sx.ret1 (.inl rfl) rfl (.tmp rfl) (fun W s => ⟨r2, trivial, rfl, ?_⟩)
    rw [← hC.1, encU_small (v := v) (by omega)]
    have h := s.drop
    simpa [byteV, Nat.add_assoc] using h
set_option maxRecDepth 100000 in
theorem putuint_st {H : Hp} {w0 W : World} {bs : List Res} {b off c : Nat} (l : List UInt8) (v : Nat) (hv : v < 18446744073709551616) (hl : l.length ≤ 1000000) (hs : Src H bs b off (l.map byteV)) (s : St H w0 bs W) :
    Calls Tryd.prog 42 #[.slice (some ⟨b, off, none⟩) l.length c, .int .u64 v] W fun e W' => ∃ r', True ∧ e = .returned r' ∧ St H w0 (bytesR r' (l ++ encU v) :: bs) W' := by
  refine Sx.enterS Tryd.func42 rfl Tryd.ntmps42 rfl s ?_
  refine Sx.seq ?_
  refine Sx.region ?_
  refine Sx.cons ?_
  refine Sx.yl (.assign rfl) rfl ?_
  refine Sx.nil ?_
  refine Sx.thenN ?_
  refine Sx.seq ?_
  refine Sx.region ?_
  refine Sx.cons ?_
  refine Sx.yl (.move rfl) rfl ?_
  refine Sx.cons ?_
  refine Sx.yl (.lenSl Fx.sl62 rfl) rfl ?_
  refine Sx.cons ?_
  refine Sx.yl (.add rfl rfl (c := ((l.length + 10 : Nat) : Int)) (w64 (by omega) (by omega))) rfl ?_
  refine Sx.cons ?_
  refine Sx.make0 Fx.row62 rfl rfl rfl (by simp [maxLen]; omega) (by omega) rfl (fun b9 => ?_)
  refine Sx.cons ?_
  refine Sx.yl (.assign rfl) rfl ?_
  refine Sx.nil ?_
  refine Sx.thenN ?_
  refine Sx.seq ?_
  refine Sx.region ?_
  refine Sx.cons ?_
  refine Sx.yl (.move rfl) rfl ?_
  refine Sx.cons ?_
  refine Sx.yl (.move rfl) rfl ?_
  refine Sx.cons ?_
  refine Sx.append (news := l.map byteV) Fx.row62 rfl (fun _ => .head) rfl (hs.more (fun _ h => .tail _ h)) (by simp) (byteV_one l) (by simp [maxLen]; omega) (by omega) rfl (fun r2 hr2 => ?_)
  refine Sx.reSt (bs' := bytesR r2 l :: bs) (fun W s => by simpa [bytesR] using s) ?_
  refine Sx.cons ?_
  refine Sx.yl (.move rfl) rfl ?_
  refine Sx.cons ?_
  refine Sx.callS Fx.call54 rfl (fun W s => put_st (fun r k xs => .row 5 1 r k xs :: bs) (fun _ _ _ _ _ _ => .head) r2 l v hv (by omega) s) rfl (fun r3 _ => ?_)
  refine Sx.cons ?_
  refine Sx.yl (.assign rfl) rfl ?_
  refine Sx.nil ?_
  refine Sx.thenN ?_
  refine Sx.ret ?_
  exact Sx.ret1 (.inl rfl) rfl (.tmp rfl) (fun W s => ⟨r3, trivial, rfl, s⟩)
def encs (x : Nat → Int) (k : Nat) : List UInt8 := (List.range k).flatMap fun i => encU (x i).toNat
theorem encs_succ (x : Nat → Int) (k : Nat) : encs x (k + 1) = encs x k ++ encU (x k).toNat := by simp [encs, List.range_succ]
theorem encs_len (x : Nat → Int) (hU : U64 x) : ∀ k, (encs x k).length ≤ k * 10
  | 0 => by simp [encs]
  | k + 1 => by
    have h1 := encs_len x hU k
    have h2 := hU k
    have h3 := encU_len10 (v := (x k).toNat) (by omega)
    rw [encs_succ, List.length_append]
    omega
def bytesL (x : Nat → Int) : List UInt8 := UInt8.ofNat (lenK x 16) :: encs x (lenK x 16)
theorem conv_nat {k : IntKind} (i : Int) (h : 0 ≤ i) : (Value.int k i) = .int k (i.toNat : Int) := by rw [Int.toNat_of_nonneg h]
set_option maxRecDepth 100000 in
theorem bytes_nil (x : Nat → Int) (hU : U64 x) (H : Hp) (w : World) (hA : Agr H w) (l : List UInt8) (hl : l = []) :
    Calls Tryd.prog 31 #[ck x, .slice none 0 0] w fun e w' => ∃ v H', SlAt H' v (l ++ bytesL x).length ((l ++ bytesL x).map byteV) ∧ e = .returned v ∧ Grow H w H' w' := by
  have hlen := lenK_le x 16
  have hll : l.length = 0 := by rw [hl]; rfl
  refine Sx.enter (H := H) Tryd.func31 rfl Tryd.ntmps31 rfl hA ?_
  refine Sx.seq ?_
  refine Sx.region ?_
  refine Sx.cons ?_
  refine Sx.box (l := ckL x) rfl rfl rfl (fun b2 => ?_)
  refine Sx.cons ?_
  refine Sx.yl (.assign rfl) rfl ?_
  refine Sx.nil ?_
  refine Sx.thenN ?_
  refine Sx.seq ?_
  refine Sx.region ?_
  refine Sx.cons ?_
  refine Sx.yl (.loadW rfl Fx.agg26 (.head _) (ck_length _)) rfl ?_
  refine Sx.cons ?_
  refine Sx.yl (.call Fx.call33 rfl (fun W s => length_any x W)) rfl ?_
  refine Sx.cons ?_
  refine Sx.yl (.assign rfl) rfl ?_
  refine Sx.nil ?_
  refine Sx.thenN ?_
  refine Sx.seq ?_
  refine Sx.region ?_
  refine Sx.cons ?_
  refine Sx.yl (.move rfl) rfl ?_
  refine Sx.cons ?_
  refine Sx.row0 5 1 ?_
  refine Sx.appendNone Fx.row62 rfl (.head _) rfl rfl ?_
  refine Sx.reSt (bs' := [bytesR (.slice none 0 0) l, .box b2 (ckL x) 26]) (fun W s => by rw [hl]; exact s) ?_
  refine Sx.cons ?_
  refine Sx.yl (.move rfl) rfl ?_
  refine Sx.cons ?_
  refine Sx.yl (.conv rfl Fx.int3 Fx.int5 (wu8s (v := lenK x 16) (by omega))) rfl ?_
  refine Sx.cons ?_
  refine Sx.buildSlice (e := 5) (l := [.int .u8 ((UInt8.ofNat (lenK x 16)).toNat : Int)]) rfl (by kernel_rfl) rfl (fun b14 => ?_)
  refine Sx.cons ?_
  refine Sx.append (news := [.int .u8 ((UInt8.ofNat (lenK x 16)).toNat : Int)]) Fx.row62 rfl (fun _ => .tail .head) rfl (.box (.head _) (fun j u h => by rw [Nat.zero_add]; exact h)) rfl (by simp [Value.oneCell']) (by simp [maxLen]; omega) (by omega) rfl (fun r2 hr2 => ?_)
  refine Sx.reSt (bs' := [bytesR r2 (l ++ [UInt8.ofNat (lenK x 16)]), .box b2 (ckL x) 26]) (fun W s => by rw [← bytesR_one]; exact s.drop) ?_
  refine Sx.cons ?_
  refine Sx.yl (.assign rfl) rfl ?_
  refine Sx.nil ?_
  refine Sx.thenN ?_
  refine Sx.seq ?_
  refine Sx.seq ?_
  refine Sx.region ?_
  refine Sx.cons ?_
  refine Sx.yl (.move rfl) rfl ?_
  refine Sx.cons ?_
  refine Sx.yl (.move rfl) rfl ?_
  refine Sx.nil ?_
  refine Sx.thenN ?_
  refine Sx.blk ?_
  -- live at the head, not kept: [4]
  refine Sx.loop (X := Value × Nat) (fun z => [(2, .pointer (some ⟨b2, 0, none⟩)), (6, z.1), (16, .int .i64 (lenK x 16)), (17, .int .i64 (z.2 : Nat))]) (fun z => H) (fun z => [bytesR z.1 (l ++ [UInt8.ofNat (lenK x 16)] ++ encs x z.2), .box b2 (ckL x) 26]) (fun z => z.2 ≤ lenK x 16) (fun z => lenK x 16 - z.2) (r2, 0) (Nat.zero_le _) ⟨rfl, rfl, rfl, rfl, trivial⟩ (fun W s => by simpa [encs] using s) ?_
  intro z hC
  obtain ⟨r, k⟩ := z
  dsimp only at hC ⊢
  have hx := hU k
  have hel := encs_len x hU k
  refine Sx.seq ?_
  refine Sx.region ?_
  refine Sx.cons ?_
  refine Sx.yl (.lss rfl rfl) rfl ?_
  refine Sx.nil ?_
  refine Sx.thenN ?_
  refine Sx.seq ?_
  refine Sx.cond rfl (fun h18 => ?_) (fun h18 => ?_)
  · try simp only [decide_eq_true_eq] at h18
    refine Sx.skip ?_
    refine Sx.thenN ?_
    refine Sx.seq ?_
    refine Sx.blk ?_
    refine Sx.seq ?_
    refine Sx.region ?_
    refine Sx.cons ?_
    refine Sx.yl (.move rfl) rfl ?_
    refine Sx.cons ?_
    refine Sx.yl (.assign rfl) rfl ?_
    refine Sx.nil ?_
    refine Sx.thenN ?_
    refine Sx.region ?_
    refine Sx.cons ?_
    refine Sx.yl (.move rfl) rfl ?_
    refine Sx.cons ?_
    refine Sx.yl (.move rfl) rfl ?_
    refine Sx.cons ?_
    refine Sx.yl (.fieldAddr rfl Fx.field26_0) rfl ?_
    refine Sx.cons ?_
    refine Sx.yl (.indexArr Fx.arr24 rfl rfl rfl (by omega) (q := k) (by omega)) rfl ?_
    refine Sx.cons ?_
    refine Sx.yl (.load rfl Fx.agg23 (.tail _ (.head _)) (ck_at x (k := k) (by omega))) rfl ?_
    refine Sx.cons ?_
    rw [conv_nat (k := .u64) (x k) (by omega)]
    refine Sx.rowCase (.head _) (by simp; omega) (fun b c hr hc => ?_)
    subst hr
    refine Sx.callS Fx.call42 rfl (fun W s => putuint_st (l ++ [UInt8.ofNat (lenK x 16)] ++ encs x k) (x k).toNat (by omega) (by simp; omega) (.row (.head _) (fun j u h => by rw [Nat.zero_add]; exact h)) s) rfl (fun r3 _ => ?_)
    refine Sx.cons ?_
    refine Sx.yl (.assign rfl) rfl ?_
    refine Sx.nil ?_
    refine Sx.blkN ?_
    refine Sx.thenN ?_
    refine Sx.region ?_
    refine Sx.cons ?_
    refine Sx.yl (.add rfl rfl (w64 (by omega) (by omega))) rfl ?_
    refine Sx.cons ?_
    refine Sx.yl (.move rfl) rfl ?_
    refine Sx.nil ?_
    refine Sx.thenN ?_
    exact Sx.again (x := (.slice none 0 0, k)) (r3, k + 1) ⟨by dsimp only; omega, by dsimp only; omega⟩ ⟨rfl, rfl, rfl, rfl, trivial⟩ (fun W s => by rw [encs_succ, ← List.append_assoc (l ++ [UInt8.ofNat (lenK x 16)])]; exact s.sublist (.cons_cons _ (.cons _ (List.Sublist.refl _))))
  · try simp only [decide_eq_false_iff_not] at h18
    refine Sx.exit ?_
    refine Sx.thenE ?_
    refine Sx.thenE ?_
    refine Sx.blkE ?_
    refine Sx.thenN ?_
    refine Sx.seq ?_
    refine Sx.region ?_
    refine Sx.cons ?_
    refine Sx.yl (.move rfl) rfl ?_
    refine Sx.cons ?_
    refine Sx.yl (.assign rfl) rfl ?_
    refine Sx.nil ?_
    refine Sx.thenN ?_
    refine Sx.ret ?_
    refine Sx.ret1 (.inl rfl) rfl (.tmp rfl) (fun W s => ?_)
    obtain rfl : k = lenK x 16 := by omega
    obtain ⟨H1, h1, h2⟩ := freeze s (.head _)
    rw [List.append_assoc] at h1
    exact ⟨r, H1, h1, rfl, h2⟩
set_option maxRecDepth 100000 in
theorem bytes_mem (x : Nat → Int) (hU : U64 x) (H : Hp) (w : World) (hA : Agr H w) (l : List UInt8) (hl : l.length ≤ 1000) (b off c : Nat) (arr : Array Value) (t : TypeId) (m : Nat × Nat) (hb : H b = some (.cells arr t m)) (ha : ∀ (j : Nat) u, (l.map byteV)[j]? = some u → arr[off + j]? = some u) :
    Calls Tryd.prog 31 #[ck x, .slice (some ⟨b, off, none⟩) l.length c] w fun e w' => ∃ v H', SlAt H' v (l ++ bytesL x).length ((l ++ bytesL x).map byteV) ∧ e = .returned v ∧ Grow H w H' w' := by
  have hlen := lenK_le x 16
  refine Sx.enter (H := H) Tryd.func31 rfl Tryd.ntmps31 rfl hA ?_
  refine Sx.seq ?_
  refine Sx.region ?_
  refine Sx.cons ?_
  refine Sx.box (l := ckL x) rfl rfl rfl (fun b2 => ?_)
  refine Sx.cons ?_
  refine Sx.yl (.assign rfl) rfl ?_
  refine Sx.nil ?_
  refine Sx.thenN ?_
  refine Sx.seq ?_
  refine Sx.region ?_
  refine Sx.cons ?_
  refine Sx.yl (.loadW rfl Fx.agg26 (.head _) (ck_length _)) rfl ?_
  refine Sx.cons ?_
  refine Sx.yl (.call Fx.call33 rfl (fun W s => length_any x W)) rfl ?_
  refine Sx.cons ?_
  refine Sx.yl (.assign rfl) rfl ?_
  refine Sx.nil ?_
  refine Sx.thenN ?_
  refine Sx.seq ?_
  refine Sx.region ?_
  refine Sx.cons ?_
  refine Sx.yl (.move rfl) rfl ?_
  refine Sx.cons ?_
  refine Sx.row0 5 1 ?_
  refine Sx.append (news := l.map byteV) Fx.row62 rfl (fun _ => .head) rfl (.mem hb ha) (by simp) (byteV_one l) (by simp [maxLen]; omega) (by omega) rfl (fun r1 hr1 => ?_)
  refine Sx.reSt (bs' := [bytesR r1 l, .box b2 (ckL x) 26]) (fun W s => by simpa [bytesR] using s) ?_
  refine Sx.cons ?_
  refine Sx.yl (.move rfl) rfl ?_
  refine Sx.cons ?_
  refine Sx.yl (.conv rfl Fx.int3 Fx.int5 (wu8s (v := lenK x 16) (by omega))) rfl ?_
  refine Sx.cons ?_
  refine Sx.buildSlice (e := 5) (l := [.int .u8 ((UInt8.ofNat (lenK x 16)).toNat : Int)]) rfl (by kernel_rfl) rfl (fun b14 => ?_)
  refine Sx.cons ?_
  refine Sx.append (news := [.int .u8 ((UInt8.ofNat (lenK x 16)).toNat : Int)]) Fx.row62 rfl (fun _ => .tail .head) rfl (.box (.head _) (fun j u h => by rw [Nat.zero_add]; exact h)) rfl (by simp [Value.oneCell']) (by simp [maxLen]; omega) (by omega) rfl (fun r2 hr2 => ?_)
  refine Sx.reSt (bs' := [bytesR r2 (l ++ [UInt8.ofNat (lenK x 16)]), .box b2 (ckL x) 26]) (fun W s => by rw [← bytesR_one]; exact s.drop) ?_
  refine Sx.cons ?_
  refine Sx.yl (.assign rfl) rfl ?_
  refine Sx.nil ?_
  refine Sx.thenN ?_
  refine Sx.seq ?_
  refine Sx.seq ?_
  refine Sx.region ?_
  refine Sx.cons ?_
  refine Sx.yl (.move rfl) rfl ?_
  refine Sx.cons ?_
  refine Sx.yl (.move rfl) rfl ?_
  refine Sx.nil ?_
  refine Sx.thenN ?_
  refine Sx.blk ?_
  -- live at the head, not kept: [4]
  refine Sx.loop (X := Value × Nat) (fun z => [(2, .pointer (some ⟨b2, 0, none⟩)), (6, z.1), (16, .int .i64 (lenK x 16)), (17, .int .i64 (z.2 : Nat))]) (fun z => H) (fun z => [bytesR z.1 (l ++ [UInt8.ofNat (lenK x 16)] ++ encs x z.2), .box b2 (ckL x) 26]) (fun z => z.2 ≤ lenK x 16) (fun z => lenK x 16 - z.2) (r2, 0) (Nat.zero_le _) ⟨rfl, rfl, rfl, rfl, trivial⟩ (fun W s => by simpa [encs] using s) ?_
  intro z hC
  obtain ⟨r, k⟩ := z
  dsimp only at hC ⊢
  have hx := hU k
  have hel := encs_len x hU k
  refine Sx.seq ?_
  refine Sx.region ?_
  refine Sx.cons ?_
  refine Sx.yl (.lss rfl rfl) rfl ?_
  refine Sx.nil ?_
  refine Sx.thenN ?_
  refine Sx.seq ?_
  refine Sx.cond rfl (fun h18 => ?_) (fun h18 => ?_)
  · try simp only [decide_eq_true_eq] at h18
    refine Sx.skip ?_
    refine Sx.thenN ?_
    refine Sx.seq ?_
    refine Sx.blk ?_
    refine Sx.seq ?_
    refine Sx.region ?_
    refine Sx.cons ?_
    refine Sx.yl (.move rfl) rfl ?_
    refine Sx.cons ?_
    refine Sx.yl (.assign rfl) rfl ?_
    refine Sx.nil ?_
    refine Sx.thenN ?_
    refine Sx.region ?_
    refine Sx.cons ?_
    refine Sx.yl (.move rfl) rfl ?_
    refine Sx.cons ?_
    refine Sx.yl (.move rfl) rfl ?_
    refine Sx.cons ?_
    refine Sx.yl (.fieldAddr rfl Fx.field26_0) rfl ?_
    refine Sx.cons ?_
    refine Sx.yl (.indexArr Fx.arr24 rfl rfl rfl (by omega) (q := k) (by omega)) rfl ?_
    refine Sx.cons ?_
    refine Sx.yl (.load rfl Fx.agg23 (.tail _ (.head _)) (ck_at x (k := k) (by omega))) rfl ?_
    refine Sx.cons ?_
    rw [conv_nat (k := .u64) (x k) (by omega)]
    refine Sx.rowCase (.head _) (by simp; omega) (fun b c hr hc => ?_)
    subst hr
    refine Sx.callS Fx.call42 rfl (fun W s => putuint_st (l ++ [UInt8.ofNat (lenK x 16)] ++ encs x k) (x k).toNat (by omega) (by simp; omega) (.row (.head _) (fun j u h => by rw [Nat.zero_add]; exact h)) s) rfl (fun r3 _ => ?_)
    refine Sx.cons ?_
    refine Sx.yl (.assign rfl) rfl ?_
    refine Sx.nil ?_
    refine Sx.blkN ?_
    refine Sx.thenN ?_
    refine Sx.region ?_
    refine Sx.cons ?_
    refine Sx.yl (.add rfl rfl (w64 (by omega) (by omega))) rfl ?_
    refine Sx.cons ?_
    refine Sx.yl (.move rfl) rfl ?_
    refine Sx.nil ?_
    refine Sx.thenN ?_
    exact Sx.again (x := (.slice none 0 0, k)) (r3, k + 1) ⟨by dsimp only; omega, by dsimp only; omega⟩ ⟨rfl, rfl, rfl, rfl, trivial⟩ (fun W s => by rw [encs_succ, ← List.append_assoc (l ++ [UInt8.ofNat (lenK x 16)])]; exact s.sublist (.cons_cons _ (.cons _ (List.Sublist.refl _))))
  · try simp only [decide_eq_false_iff_not] at h18
    refine Sx.exit ?_
    refine Sx.thenE ?_
    refine Sx.thenE ?_
    refine Sx.blkE ?_
    refine Sx.thenN ?_
    refine Sx.seq ?_
    refine Sx.region ?_
    refine Sx.cons ?_
    refine Sx.yl (.move rfl) rfl ?_
    refine Sx.cons ?_
    refine Sx.yl (.assign rfl) rfl ?_
    refine Sx.nil ?_
    refine Sx.thenN ?_
    refine Sx.ret ?_
    refine Sx.ret1 (.inl rfl) rfl (.tmp rfl) (fun W s => ?_)
    obtain rfl : k = lenK x 16 := by omega
    obtain ⟨H1, h1, h2⟩ := freeze s (.head _)
    rw [List.append_assoc] at h1
    exact ⟨r, H1, h1, rfl, h2⟩
end Go.Proofs.YtnmickfdflinpaaDoor
