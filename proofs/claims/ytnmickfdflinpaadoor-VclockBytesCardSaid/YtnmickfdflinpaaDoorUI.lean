/- Walk of the law Bytes. -/
import Derived.Test.YtnmickfdflinpaaDoorFH
namespace Go.Proofs.YtnmickfdflinpaaDoor
open Go.RowKit Go.Par Go.Sx
/-- A slice of bytes as it is handed in: no memory, or a place, with the bytes there. -/
def SrcP (H : Hp) (p : Option Addr) (n c : Nat) (l : List UInt8) : Prop :=
  l.length = n ∧ n ≤ c ∧ c ≤ maxLen ∧ ((p = none ∧ n = 0 ∧ c = 0) ∨ ∃ a, p = some a ∧ (l = [] ∨ ∃ b off arr t m, a = (⟨b, off, none⟩ : Addr) ∧ H b = some (.cells arr t m) ∧ ∀ (j : Nat) u, (l.map byteV)[j]? = some u → arr[off + j]? = some u))
set_option maxRecDepth 100000 in
theorem bytes_emp (x : Nat → Int) (hU : U64 x) (H : Hp) (w : World) (hA : Agr H w) (l : List UInt8) (hl : l = []) (A : Addr) (c : Nat) :
    Calls Tryd.prog 31 #[ck x, .slice (some A) 0 c] w fun e w' => ∃ v H', SlAt H' v (l ++ bytesL x).length ((l ++ bytesL x).map byteV) ∧ e = .returned v ∧ Grow H w H' w' := by
  have hlen := lenK_le x 16
  have hll : l.length = 0 := by rw [hl]; rfl
  refine Sx.enter (H := H) Tryd.func31 rfl Tryd.ntmps31 rfl hA ?_
  refine Sx.seq ?_
  refine Sx.region ?_
  refine Sx.cons ?_
  refine Sx.box (l := ckL x) rfl rfl rfl (fun b2 => ?_)
  refine Sx.cons ?_
  refine Sx.yl (.assign rfl) rfl ?_
  refine Sx.nil ?_
  refine Sx.thenN ?_
  refine Sx.seq ?_
  refine Sx.region ?_
  refine Sx.cons ?_
  refine Sx.yl (.loadW rfl Fx.agg26 (.head _) (ck_length _)) rfl ?_
  refine Sx.cons ?_
  refine Sx.yl (.call Fx.call33 rfl (fun W s => length_any x W)) rfl ?_
  refine Sx.cons ?_
  refine Sx.yl (.assign rfl) rfl ?_
  refine Sx.nil ?_
  refine Sx.thenN ?_
  refine Sx.seq ?_
  refine Sx.region ?_
  refine Sx.cons ?_
  refine Sx.yl (.move rfl) rfl ?_
  refine Sx.cons ?_
  refine Sx.row0 5 1 ?_
  refine Sx.appendA (news := []) Fx.row62 rfl (fun _ => .head) rfl (fun _ _ _ _ h => by simp at h) (by simp) (by simp) (by simp [maxLen]) (by omega) rfl (fun r1 hr1 => ?_)
  refine Sx.reSt (bs' := [bytesR r1 l, .box b2 (ckL x) 26]) (fun W s => by rw [hl]; exact s) ?_
  refine Sx.cons ?_
  refine Sx.yl (.move rfl) rfl ?_
  refine Sx.cons ?_
  refine Sx.yl (.conv rfl Fx.int3 Fx.int5 (wu8s (v := lenK x 16) (by omega))) rfl ?_
  refine Sx.cons ?_
  refine Sx.buildSlice (e := 5) (l := [.int .u8 ((UInt8.ofNat (lenK x 16)).toNat : Int)]) rfl (by kernel_rfl) rfl (fun b14 => ?_)
  refine Sx.cons ?_
  refine Sx.append (news := [.int .u8 ((UInt8.ofNat (lenK x 16)).toNat : Int)]) Fx.row62 rfl (fun _ => .tail .head) rfl (.box (.head _) (fun j u h => by rw [Nat.zero_add]; exact h)) rfl (by simp [Value.oneCell']) (by simp [maxLen]; omega) (by omega) rfl (fun r2 hr2 => ?_)
  refine Sx.reSt (bs' := [bytesR r2 (l ++ [UInt8.ofNat (lenK x 16)]), .box b2 (ckL x) 26]) (fun W s => by rw [← bytesR_one]; exact s.drop) ?_
  refine Sx.cons ?_
  refine Sx.yl (.assign rfl) rfl ?_
  refine Sx.nil ?_
  refine Sx.thenN ?_
  refine Sx.seq ?_
  refine Sx.seq ?_
  refine Sx.region ?_
  refine Sx.cons ?_
  refine Sx.yl (.move rfl) rfl ?_
  refine Sx.cons ?_
  refine Sx.yl (.move rfl) rfl ?_
  refine Sx.nil ?_
  refine Sx.thenN ?_
  refine Sx.blk ?_
  -- live at the head, not kept: [4]
  refine Sx.loop (X := Value × Nat) (fun z => [(2, .pointer (some ⟨b2, 0, none⟩)), (6, z.1), (16, .int .i64 (lenK x 16)), (17, .int .i64 (z.2 : Nat))]) (fun z => H) (fun z => [bytesR z.1 (l ++ [UInt8.ofNat (lenK x 16)] ++ encs x z.2), .box b2 (ckL x) 26]) (fun z => z.2 ≤ lenK x 16) (fun z => lenK x 16 - z.2) (r2, 0) (Nat.zero_le _) ⟨rfl, rfl, rfl, rfl, trivial⟩ (fun W s => by simpa [encs] using s) ?_
  intro z hC
  obtain ⟨r, k⟩ := z
  dsimp only at hC ⊢
  have hx := hU k
  have hel := encs_len x hU k
  refine Sx.seq ?_
  refine Sx.region ?_
  refine Sx.cons ?_
  refine Sx.yl (.lss rfl rfl) rfl ?_
  refine Sx.nil ?_
  refine Sx.thenN ?_
  refine Sx.seq ?_
  refine Sx.cond rfl (fun h18 => ?_) (fun h18 => ?_)
  · try simp only [decide_eq_true_eq] at h18
    refine Sx.skip ?_
    refine Sx.thenN ?_
    refine Sx.seq ?_
    refine Sx.blk ?_
    refine Sx.seq ?_
    refine Sx.region ?_
    refine Sx.cons ?_
    refine Sx.yl (.move rfl) rfl ?_
    refine Sx.cons ?_
    refine Sx.yl (.assign rfl) rfl ?_
    refine Sx.nil ?_
    refine Sx.thenN ?_
    refine Sx.region ?_
    refine Sx.cons ?_
    refine Sx.yl (.move rfl) rfl ?_
    refine Sx.cons ?_
    refine Sx.yl (.move rfl) rfl ?_
    refine Sx.cons ?_
    refine Sx.yl (.fieldAddr rfl Fx.field26_0) rfl ?_
    refine Sx.cons ?_
    refine Sx.yl (.indexArr Fx.arr24 rfl rfl rfl (by omega) (q := k) (by omega)) rfl ?_
    refine Sx.cons ?_
    refine Sx.yl (.load rfl Fx.agg23 (.tail _ (.head _)) (ck_at x (k := k) (by omega))) rfl ?_
    refine Sx.cons ?_
    rw [conv_nat (k := .u64) (x k) (by omega)]
    refine Sx.rowCase (.head _) (by simp; omega) (fun b c hr hc => ?_)
    subst hr
    refine Sx.callS Fx.call42 rfl (fun W s => putuint_st (l ++ [UInt8.ofNat (lenK x 16)] ++ encs x k) (x k).toNat (by omega) (by simp; omega) (.row (.head _) (fun j u h => by rw [Nat.zero_add]; exact h)) s) rfl (fun r3 _ => ?_)
    refine Sx.cons ?_
    refine Sx.yl (.assign rfl) rfl ?_
    refine Sx.nil ?_
    refine Sx.blkN ?_
    refine Sx.thenN ?_
    refine Sx.region ?_
    refine Sx.cons ?_
    refine Sx.yl (.add rfl rfl (w64 (by omega) (by omega))) rfl ?_
    refine Sx.cons ?_
    refine Sx.yl (.move rfl) rfl ?_
    refine Sx.nil ?_
    refine Sx.thenN ?_
    exact Sx.again (x := (.slice none 0 0, k)) (r3, k + 1) ⟨by dsimp only; omega, by dsimp only; omega⟩ ⟨rfl, rfl, rfl, rfl, trivial⟩ (fun W s => by rw [encs_succ, ← List.append_assoc (l ++ [UInt8.ofNat (lenK x 16)])]; exact s.sublist (.cons_cons _ (.cons _ (List.Sublist.refl _))))
  · try simp only [decide_eq_false_iff_not] at h18
    refine Sx.exit ?_
    refine Sx.thenE ?_
    refine Sx.thenE ?_
    refine Sx.blkE ?_
    refine Sx.thenN ?_
    refine Sx.seq ?_
    refine Sx.region ?_
    refine Sx.cons ?_
    refine Sx.yl (.move rfl) rfl ?_
    refine Sx.cons ?_
    refine Sx.yl (.assign rfl) rfl ?_
    refine Sx.nil ?_
    refine Sx.thenN ?_
    refine Sx.ret ?_
    refine Sx.ret1 (.inl rfl) rfl (.tmp rfl) (fun W s => ?_)
    obtain rfl : k = lenK x 16 := by omega
    obtain ⟨H1, h1, h2⟩ := freeze s (.head _)
    rw [List.append_assoc] at h1
    exact ⟨r, H1, h1, rfl, h2⟩
set_option maxRecDepth 100000 in
theorem bytes_any (x : Nat → Int) (hU : U64 x) (H : Hp) (w : World) (hA : Agr H w) (p : Option Addr) (n c : Nat) (l : List UInt8) (hn : n ≤ 1000) (hp : SrcP H p n c l) :
    Calls Tryd.prog 31 #[ck x, .slice p n c] w fun e w' => ∃ v H', SlAt H' v (l ++ bytesL x).length ((l ++ bytesL x).map byteV) ∧ e = .returned v ∧ Grow H w H' w' := by
  obtain ⟨h1, h2, h3, ⟨rfl, rfl, rfl⟩ | ⟨a, rfl, hs⟩⟩ := hp
  · exact bytes_nil x hU H w hA l (List.eq_nil_of_length_eq_zero h1)
  · rcases hs with rfl | ⟨b, off, arr, t, m, rfl, hb, ha⟩
    · obtain rfl : n = 0 := by simpa using h1.symm
      exact bytes_emp x hU H w hA [] rfl a c
    · subst h1
      exact bytes_mem x hU H w hA l hn b off c arr t m hb ha
set_option maxRecDepth 100000 in
theorem srcStr {L : Sl} {H : Hp} {w0 : World} {bs : List Res} {d : Option Tmp} {ty : TypeId} {pos : String} {aft : Array Edge} {g : Option (Nat × Bool)} {x : Operand} {p : Option Addr} {n c : Nat} {l : List UInt8} {H0 : Hp} (hp : SrcP H0 p n c l) (up : ∀ b o, H0 b = some o → H b = some o) (hx : ev L x = some (.slice p n c)) :
    Yl Tryd.prog L H w0 bs ⟨d, .convert 62 9 x, ty, pos, aft, g⟩ (strV l) := by
  obtain ⟨h1, h2, h3, ⟨rfl, rfl, rfl⟩ | ⟨a, rfl, hs⟩⟩ := hp
  · rw [List.eq_nil_of_length_eq_zero h1]
    exact .bytesStr0 Fx.bytes62 Fx.str9 hx
  · rcases hs with rfl | ⟨b, off, arr, t, m, rfl, hb, ha⟩
    · obtain rfl : n = 0 := by simpa using h1.symm
      exact .bytesStr0 Fx.bytes62 Fx.str9 hx
    · exact .bytesStr Fx.bytes62 Fx.str9 hx (l := l) h1 (.mem (up _ _ hb) ha)
set_option maxRecDepth 100000 in
theorem appendP {n0 : Nat} {L : Sl} {H : Hp} {w0 : World} {bs : List Res} {Q : Exit → Act → World → Prop} {ops : Array Oper} {K : Act → World → Prop} {ty : TypeId} {pos : String} {aft : Array Edge} {t : Tmp} {x y : Operand} {p : Option Addr} {m c : Nat} {l l0 : List UInt8} {H0 : Hp} {r : Value} {bs' : Value → List Res} (hp : SrcP H0 p m c l) (up : ∀ b o, H0 b = some o → H b = some o) (hx : ev L x = some r) (hm : ∀ r', Upd bs (bytesR r l0) (bytesR r' (l0 ++ l)) (bs' r')) (hy : ev L y = some (.slice p m c)) (h1 : l0.length ≤ 1000) (h2 : m ≤ 1000) (ht : Nat.blt t n0 = true)
    (h : ∀ r', At n0 ((t, r') :: L) H w0 (bs' r') K) : At n0 L H w0 bs (one Tryd.prog ops Q ⟨some t, .call ⟨.builtin .append, #[x, y], #[62, 62]⟩, ty, pos, aft, none⟩ K) := by
  obtain ⟨e1, e2, e3, ⟨rfl, rfl, rfl⟩ | ⟨a, rfl, hs⟩⟩ := hp
  · obtain rfl := List.eq_nil_of_length_eq_zero e1
    have hb : bs' r = bs := (hm r).same (by rw [List.append_nil])
    have h3 := h r
    rw [hb] at h3
    exact Sx.appendNone Fx.row62 hx (hm r).mem hy ht h3
  · refine Sx.appendA (k := l0.length) (xs := l0.map byteV) (news := l.map byteV) (bs' := bs') Fx.row62 hx (fun r' => ?_) hy ?_ (by simp [e1]) (byteV_one l) (by simp [maxLen]; omega) (by omega) ht (fun r' _ => h r')
    · have := hm r'
      rw [← bytesR_app, e1] at this
      exact this
    · intro W s j u hu
      rcases hs with rfl | ⟨b, off, arr, t', m', rfl, hb, ha⟩
      · simp at hu
      · rw [Addr.add_lit]
        exact s.agr.cell (up _ _ hb) (ha j u hu)
theorem row_sl {H : Hp} {w0 W : World} {bs : List Res} {b k c : Nat} {xs : List Value} (s : St H w0 bs W) (hm : Res.row 5 1 (.slice (some ⟨b, 0, none⟩) k c) k xs ∈ bs) : SlAt (fun q => W.heap[q]?) (.slice (some ⟨b, 0, none⟩) k c) k xs := by
  obtain ⟨hl, ⟨h0, _⟩ | ⟨g, cap, cur, e, _, hc, hn, hcm, hcs, htk⟩⟩ := (s.own _ hm).1
  · cases h0
  · injection e with e1 e2 e3
    obtain rfl : b = g := by injection (Option.some.inj e1)
    subst e3
    refine ⟨by simpa using hl, _, _, rfl, hn, hcm, .inr ⟨b, 0, cur, 5, (0, 0), rfl, hc, fun j u hu => ?_⟩⟩
    rw [← htk] at hu
    rw [Nat.zero_add, ← Array.getElem?_toList]
    have hj : j < k * 1 := by
      have := (List.getElem?_eq_some_iff.1 hu).1
      simp at this; omega
    rw [List.getElem?_take_of_lt hj] at hu
    exact hu
theorem read_back (x : Nat → Int) (hU : U64 x) (r : List UInt8) (H : Hp) (v0 : Value) (n : Nat) (hv : SlAt H v0 n ((bytesL x ++ r).map byteV)) (w : World) (hA : Agr H w) :
    Calls Tryd.prog 30 #[v0] w fun e w' => e = .returned (.tuple #[ck x, .int .i64 ((bytesL x).length : Nat), .int .i64 0]) ∧ Ext w w' := by
  have h := read_some (readO_enc x hU r) H v0 n hv w hA
  have e : ck (ofF (entL x)) = ck x := by rw [ck_eq, ck_eq, ck_congrL (ent_back x)]
  rwa [e] at h
theorem bytesL_len (x : Nat → Int) (hU : U64 x) : 0 < (bytesL x).length ∧ (bytesL x).length ≤ 161 := by
  have h1 := encs_len x hU (lenK x 16)
  have h2 := lenK_le x 16
  unfold bytesL
  simp
  omega
set_option maxHeartbeats 4000000 in
set_option maxRecDepth 100000 in
theorem bytes_law (H : Hp) (v0 : Value) (n0 : Nat) (xs0 : List Int) (h0 : SlAt H v0 n0 (u64L xs0)) (r0 : ∀ a ∈ xs0, 0 ≤ a ∧ a < 18446744073709551616) (p1 : Option Addr) (n1 c1 : Nat) (l1 : List UInt8) (hp1 : SrcP H p1 n1 c1 l1) (p2 : Option Addr) (n2 c2 : Nat) (l2 : List UInt8) (hp2 : SrcP H p2 n2 c2 l2) (w : World) (hA : Agr H w) (G : Globs w) :
    Calls Tryd.prog 12 #[v0, .slice p1 n1 c1, .slice p2 n2 c2] w fun e w' => e = .returned (.bool true) ∧ Ext w w' := by
  have hx := take_rng r0
  have hbl := bytesL_len (ofF (xs0.take 16)) hx
  have e1 := hp1.1
  have e2 := hp2.1
  refine Sx.enter (H := H) Tryd.func12 rfl Tryd.ntmps12 rfl hA ?_
  refine Sx.seq ?_
  refine Sx.region ?_
  refine Sx.cons ?_
  refine Sx.yl (.assign rfl) rfl ?_
  refine Sx.nil ?_
  refine Sx.thenN ?_
  refine Sx.seq ?_
  refine Sx.region ?_
  refine Sx.cons ?_
  refine Sx.yl (.move rfl) rfl ?_
  refine Sx.cons ?_
  refine Sx.yl (.call Fx.call13 rfl (fun W s => both_any H v0 n0 xs0 h0 W s.agr)) rfl ?_
  refine Sx.cons ?_
  refine Sx.yl (.move rfl) rfl ?_
  refine Sx.cons ?_
  refine Sx.yl (.extract rfl rfl) rfl ?_
  refine Sx.cons ?_
  refine Sx.yl (.extract rfl rfl) rfl ?_
  refine Sx.cons ?_
  refine Sx.yl (.extract rfl rfl) rfl ?_
  refine Sx.cons ?_
  refine Sx.alloc Fx.zero26 rfl (fun b7 => ?_)
  refine Sx.cons ?_
  refine Sx.alloc Fx.zero27 rfl (fun b8 => ?_)
  refine Sx.cons ?_
  first
    | refine Sx.storeW rfl rfl Fx.size26 (ckL_one _) (.head) rfl ?_
    | refine Sx.storeW rfl rfl Fx.size26 (ckL_one _) (.tail (.head)) rfl ?_
  refine Sx.cons ?_
  first
    | refine Sx.storeW rfl rfl Fx.size27 (ckL_one _) (.head) rfl ?_
    | refine Sx.storeW rfl rfl Fx.size27 (ckL_one _) (.tail (.head)) rfl ?_
  refine Sx.cons ?_
  refine Sx.yl (.assign rfl) rfl ?_
  refine Sx.nil ?_
  refine Sx.thenN ?_
  refine Sx.seq ?_
  refine Sx.seq ?_
  refine Sx.region ?_
  refine Sx.cons ?_
  refine Sx.yl (.call Fx.call15 rfl (fun W s => awake_any W (G.ext s.ext))) rfl ?_
  refine Sx.cons ?_
  refine Sx.yl (.not rfl) rfl ?_
  refine Sx.cons ?_
  refine Sx.yl (.move rfl) rfl ?_
  refine Sx.cons ?_
  refine Sx.guardT rfl rfl ?_
  refine Sx.yl (.move rfl) rfl ?_
  refine Sx.cons ?_
  refine Sx.guardT rfl rfl ?_
  refine Sx.yl (.not rfl) rfl ?_
  refine Sx.cons ?_
  refine Sx.yl (.pickF rfl rfl) rfl ?_
  refine Sx.cons ?_
  refine Sx.yl (.move rfl) rfl ?_
  refine Sx.cons ?_
  refine Sx.guardT rfl rfl ?_
  refine Sx.yl (.move rfl) rfl ?_
  refine Sx.cons ?_
  refine Sx.guardT rfl rfl ?_
  refine Sx.yl (.lenSl Fx.sl62 rfl) rfl ?_
  refine Sx.cons ?_
  refine Sx.guardT rfl rfl ?_
  refine Sx.yl (.gtr rfl rfl) rfl ?_
  refine Sx.cons ?_
  refine Sx.yl (.pickF rfl rfl) rfl ?_
  refine Sx.cons ?_
  refine Sx.yl (.move rfl) rfl ?_
  refine Sx.bool (fun h32 => ?_) (fun h32 => ?_)
  · try simp only [decide_eq_true_eq] at h32
    refine Sx.cons ?_
    refine Sx.guardF rfl rfl rfl rfl ?_
    refine Sx.cons ?_
    refine Sx.guardF rfl rfl rfl rfl ?_
    refine Sx.cons ?_
    refine Sx.guardF rfl rfl rfl rfl ?_
    refine Sx.cons ?_
    refine Sx.yl (.pickT rfl rfl) rfl ?_
    refine Sx.nil ?_
    refine Sx.thenN ?_
    refine Sx.condT rfl ?_
    refine Sx.seq ?_
    refine Sx.region ?_
    refine Sx.cons ?_
    refine Sx.yl (.call Fx.call15 rfl (fun W s => awake_any W (G.ext s.ext))) rfl ?_
    refine Sx.cons ?_
    refine Sx.yl (.move rfl) rfl ?_
    refine Sx.cons ?_
    refine Sx.guardT rfl rfl ?_
    refine Sx.yl (.move rfl) rfl ?_
    refine Sx.cons ?_
    refine Sx.yl (.pickT rfl rfl) rfl ?_
    refine Sx.cons ?_
    refine Sx.yl (.assign rfl) rfl ?_
    refine Sx.nil ?_
    refine Sx.thenN ?_
    refine Sx.ret ?_
    refine Sx.thenR ?_
    refine Sx.ret1 (.inl rfl) rfl (.tmp rfl) (fun W s => ⟨?_, s.ext⟩)
    first | rfl | simp
  · try simp only [decide_eq_false_iff_not] at h32
    refine Sx.cons ?_
    refine Sx.guardT rfl rfl ?_
    refine Sx.yl (.move rfl) rfl ?_
    refine Sx.cons ?_
    refine Sx.guardT rfl rfl ?_
    refine Sx.yl (.lenSl Fx.sl62 rfl) rfl ?_
    refine Sx.cons ?_
    refine Sx.guardT rfl rfl ?_
    refine Sx.yl (.gtr rfl rfl) rfl ?_
    refine Sx.cons ?_
    refine Sx.yl (.pickF rfl rfl) rfl ?_
    refine Sx.nil ?_
    refine Sx.thenN ?_
    refine Sx.cond rfl (fun h36 => ?_) (fun h36 => ?_)
    · try simp only [decide_eq_true_eq] at h36
      refine Sx.seq ?_
      refine Sx.region ?_
      refine Sx.cons ?_
      refine Sx.yl (.call Fx.call15 rfl (fun W s => awake_any W (G.ext s.ext))) rfl ?_
      refine Sx.cons ?_
      refine Sx.yl (.move rfl) rfl ?_
      refine Sx.cons ?_
      refine Sx.guardT rfl rfl ?_
      refine Sx.yl (.move rfl) rfl ?_
      refine Sx.cons ?_
      refine Sx.yl (.pickT rfl rfl) rfl ?_
      refine Sx.cons ?_
      refine Sx.yl (.assign rfl) rfl ?_
      refine Sx.nil ?_
      refine Sx.thenN ?_
      refine Sx.ret ?_
      refine Sx.thenR ?_
      refine Sx.ret1 (.inl rfl) rfl (.tmp rfl) (fun W s => ⟨?_, s.ext⟩)
      first | rfl | simp
    · try simp only [decide_eq_false_iff_not] at h36
      refine Sx.skip ?_
      refine Sx.thenN ?_
      refine Sx.seq ?_
      refine Sx.region ?_
      refine Sx.cons ?_
      first
        | refine Sx.yl (.loadW rfl Fx.agg26 (.head _) (ck_length _)) rfl ?_
        | refine Sx.yl (.loadW rfl Fx.agg26 (.tail _ (.head _)) (ck_length _)) rfl ?_
      refine Sx.cons ?_
      refine Sx.yl (.move rfl) rfl ?_
      refine Sx.cons ?_
      refine Sx.callG Fx.call31 rfl (fun W s => bytes_any (ofF (xs0.take 16)) hx _ W s.agr p1 n1 c1 l1 (by omega) hp1) rfl (fun v H1 hv1 up => ?_)
      obtain ⟨hn4, p4, c4, rfl, hc4, hcm4, hs4⟩ := hv1
      obtain ⟨b4, off4, arr4, t4, m4, rfl, hb4, ha4⟩ := hs4.resolve_left (by simp [bytesL])
      refine Sx.cons ?_
      refine Sx.yl (.assign rfl) rfl ?_
      refine Sx.nil ?_
      refine Sx.thenN ?_
      refine Sx.seq ?_
      refine Sx.seq ?_
      refine Sx.anyRegion 9 #[false, false, false, false, false, false, false, false, false] (by kernel_rfl) rfl rfl ?_
      refine Sx.dagIn (fun ops2 Q2 eo eq => ?_)
      have hend : ∀ (b49 c49 : Nat), Sx.At 77 [(1, .slice p1 n1 c1), (2, .slice p2 n2 c2), (7, .pointer (some ⟨b7, 0, none⟩)), (8, .pointer (some ⟨b8, 0, none⟩)), (9, .bool true), (10, .slice (some ⟨b4, off4, none⟩) (l1 ++ bytesL (ofF (xs0.take 16))).length c4), (44, .slice (some ⟨b4, off4, none⟩) (l1 ++ bytesL (ofF (xs0.take 16))).length c4), (45, strV (l1 ++ bytesL (ofF (xs0.take 16)))), (46, .slice p1 n1 c1), (47, strV l1), (48, .agg (ckL (ofF (xs0.take 16))).toArray), (49, .slice (some ⟨b49, 0, none⟩) (bytesL (ofF (xs0.take 16))).length c49), (50, strV (bytesL (ofF (xs0.take 16)))), (51, strV (l1 ++ bytesL (ofF (xs0.take 16)))), (52, .bool (decide (¬ (⟨(l1 ++ bytesL (ofF (xs0.take 16))).toArray⟩ : ByteArray) = ⟨(l1 ++ bytesL (ofF (xs0.take 16))).toArray⟩)))] H1 w (bytesR (.slice (some ⟨b49, 0, none⟩) (bytesL (ofF (xs0.take 16))).length c49) (bytesL (ofF (xs0.take 16))) :: [.box b8 (ckL (ofF (xs0.take 16))) 27, .box b7 (ckL (ofF (xs0.take 16))) 26]) (Q2 .normal) := by
        intro b49 c49
        subst eq
        refine Sx.thenN ?_
        refine Sx.cond rfl (fun h52 => ?_) (fun h52 => ?_)
        · exact absurd h52 (by simp)
        · try simp only [decide_eq_false_iff_not] at h52
          refine Sx.skip ?_
          refine Sx.thenN ?_
          refine Sx.seq ?_
          refine Sx.region ?_
          refine Sx.cons ?_
          first
            | refine Sx.yl (.loadW rfl Fx.agg27 (.head _) (ck_length _)) rfl ?_
            | refine Sx.yl (.loadW rfl Fx.agg27 (.tail _ (.head _)) (ck_length _)) rfl ?_
            | refine Sx.yl (.loadW rfl Fx.agg27 (.tail _ (.tail _ (.head _))) (ck_length _)) rfl ?_
          refine Sx.cons ?_
          refine Sx.callS Fx.call32 rfl (fun W s => rbytes_st (ofF (xs0.take 16)) hx s) rfl (fun r54 _ => ?_)
          refine Sx.rowCase (.head _) hbl.1 (fun b54 c54 hr54 hc54 => ?_)
          subst hr54
          refine Sx.cons ?_
          refine Sx.yl (.move rfl) rfl ?_
          refine Sx.cons ?_
          refine appendP hp2 up rfl (fun _ => .head) rfl (by omega) (by omega) rfl (fun r56 => ?_)
          refine Sx.rowCase (.head _) (by simp; omega) (fun b56 c56 hr56 hc56 => ?_)
          subst hr56
          refine Sx.cons ?_
          refine Sx.yl (.assign rfl) rfl ?_
          refine Sx.nil ?_
          refine Sx.thenN ?_
          refine Sx.seq ?_
          refine Sx.region ?_
          refine Sx.cons ?_
          refine Sx.yl (.move rfl) rfl ?_
          refine Sx.cons ?_
          refine Sx.yl (.call Fx.call30 rfl (fun W s => read_back (ofF (xs0.take 16)) hx l2 _ _ _ (row_sl s (.head _)) W (fun _ _ h => h))) rfl ?_
          refine Sx.cons ?_
          refine Sx.yl (.move rfl) rfl ?_
          refine Sx.cons ?_
          refine Sx.yl (.extract rfl rfl) rfl ?_
          refine Sx.cons ?_
          refine Sx.yl (.extract rfl rfl) rfl ?_
          refine Sx.cons ?_
          refine Sx.yl (.extract rfl rfl) rfl ?_
          refine Sx.cons ?_
          refine Sx.alloc Fx.zero26 rfl (fun b12 => ?_)
          refine Sx.cons ?_
          first
            | refine Sx.storeW rfl rfl Fx.size26 (ckL_one _) (.head) rfl ?_
            | refine Sx.storeW rfl rfl Fx.size26 (ckL_one _) (.tail (.head)) rfl ?_
            | refine Sx.storeW rfl rfl Fx.size26 (ckL_one _) (.tail (.tail (.head))) rfl ?_
            | refine Sx.storeW rfl rfl Fx.size26 (ckL_one _) (.tail (.tail (.tail (.head)))) rfl ?_
            | refine Sx.storeW rfl rfl Fx.size26 (ckL_one _) (.tail (.tail (.tail (.tail (.head))))) rfl ?_
          refine Sx.cons ?_
          refine Sx.yl (.assign rfl) rfl ?_
          refine Sx.cons ?_
          refine Sx.yl (.assign rfl) rfl ?_
          refine Sx.nil ?_
          refine Sx.thenN ?_
          refine Sx.seq ?_
          refine Sx.region ?_
          refine Sx.cons ?_
          refine Sx.yl (.move rfl) rfl ?_
          refine Sx.cons ?_
          refine Sx.yl (.eql rfl rfl) rfl ?_
          refine Sx.cons ?_
          refine Sx.yl (.move rfl) rfl ?_
          refine Sx.cons ?_
          refine Sx.guardT rfl rfl ?_
          refine Sx.yl (.move rfl) rfl ?_
          refine Sx.cons ?_
          refine Sx.guardT rfl rfl ?_
          first
            | refine Sx.yl (.loadW rfl Fx.agg27 (.head _) (ck_length _)) rfl ?_
            | refine Sx.yl (.loadW rfl Fx.agg27 (.tail _ (.head _)) (ck_length _)) rfl ?_
            | refine Sx.yl (.loadW rfl Fx.agg27 (.tail _ (.tail _ (.head _))) (ck_length _)) rfl ?_
            | refine Sx.yl (.loadW rfl Fx.agg27 (.tail _ (.tail _ (.tail _ (.head _)))) (ck_length _)) rfl ?_
            | refine Sx.yl (.loadW rfl Fx.agg27 (.tail _ (.tail _ (.tail _ (.tail _ (.head _))))) (ck_length _)) rfl ?_
          refine Sx.cons ?_
          refine Sx.guardT rfl rfl ?_
          refine Sx.callS Fx.call32 rfl (fun W s => rbytes_st (ofF (xs0.take 16)) hx s) rfl (fun r68 _ => ?_)
          refine Sx.rowCase (.head _) hbl.1 (fun b68 c68 hr68 hc68 => ?_)
          subst hr68
          refine Sx.cons ?_
          refine Sx.guardT rfl rfl ?_
          refine Sx.yl (.lenSl Fx.sl62 rfl) rfl ?_
          refine Sx.cons ?_
          refine Sx.guardT rfl rfl ?_
          refine Sx.yl (Yl.cast (.eql rfl rfl) (congrArg Value.bool (decide_eq_true rfl))) rfl ?_
          refine Sx.cons ?_
          refine Sx.yl (.pickT rfl rfl) rfl ?_
          refine Sx.cons ?_
          refine Sx.yl (.move rfl) rfl ?_
          refine Sx.cons ?_
          refine Sx.guardT rfl rfl ?_
          first
            | refine Sx.yl (.loadW rfl Fx.agg26 (.head _) (ck_length _)) rfl ?_
            | refine Sx.yl (.loadW rfl Fx.agg26 (.tail _ (.head _)) (ck_length _)) rfl ?_
            | refine Sx.yl (.loadW rfl Fx.agg26 (.tail _ (.tail _ (.head _))) (ck_length _)) rfl ?_
            | refine Sx.yl (.loadW rfl Fx.agg26 (.tail _ (.tail _ (.tail _ (.head _)))) (ck_length _)) rfl ?_
            | refine Sx.yl (.loadW rfl Fx.agg26 (.tail _ (.tail _ (.tail _ (.tail _ (.head _))))) (ck_length _)) rfl ?_
            | refine Sx.yl (.loadW rfl Fx.agg26 (.tail _ (.tail _ (.tail _ (.tail _ (.tail _ (.head _)))))) (ck_length _)) rfl ?_
          refine Sx.cons ?_
          refine Sx.guardT rfl rfl ?_
          first
            | refine Sx.yl (.loadW rfl Fx.agg27 (.head _) (ck_length _)) rfl ?_
            | refine Sx.yl (.loadW rfl Fx.agg27 (.tail _ (.head _)) (ck_length _)) rfl ?_
            | refine Sx.yl (.loadW rfl Fx.agg27 (.tail _ (.tail _ (.head _))) (ck_length _)) rfl ?_
            | refine Sx.yl (.loadW rfl Fx.agg27 (.tail _ (.tail _ (.tail _ (.head _)))) (ck_length _)) rfl ?_
            | refine Sx.yl (.loadW rfl Fx.agg27 (.tail _ (.tail _ (.tail _ (.tail _ (.head _))))) (ck_length _)) rfl ?_
            | refine Sx.yl (.loadW rfl Fx.agg27 (.tail _ (.tail _ (.tail _ (.tail _ (.tail _ (.head _)))))) (ck_length _)) rfl ?_
          refine Sx.cons ?_
          refine Sx.guardT rfl rfl ?_
          refine Sx.yl (.call Fx.call24 rfl (fun W s => is_any (ofF (xs0.take 16)) hx W)) rfl ?_
          refine Sx.cons ?_
          refine Sx.yl (.pickT rfl rfl) rfl ?_
          refine Sx.cons ?_
          refine Sx.yl (.assign rfl) rfl ?_
          refine Sx.nil ?_
          refine Sx.thenN ?_
          refine Sx.ret ?_
          refine Sx.ret1 (.inl rfl) rfl (.tmp rfl) (fun W s => ⟨?_, s.ext⟩)
          first | rfl | simp
      have o0 := Sx.opAt (i := 0) eo rfl
      have o1 := Sx.opAt (i := 1) eo rfl
      have o2 := Sx.opAt (i := 2) eo rfl
      have o3 := Sx.opAt (i := 3) eo rfl
      have o4 := Sx.opAt (i := 4) eo rfl
      have o5 := Sx.opAt (i := 5) eo rfl
      have o6 := Sx.opAt (i := 6) eo rfl
      have o7 := Sx.opAt (i := 7) eo rfl
      have o8 := Sx.opAt (i := 8) eo rfl
      have d111111111 : ∀ (b49 c49 : Nat), Sx.At 77 [(1, .slice p1 n1 c1), (2, .slice p2 n2 c2), (7, .pointer (some ⟨b7, 0, none⟩)), (8, .pointer (some ⟨b8, 0, none⟩)), (9, .bool true), (10, .slice (some ⟨b4, off4, none⟩) (l1 ++ bytesL (ofF (xs0.take 16))).length c4), (44, .slice (some ⟨b4, off4, none⟩) (l1 ++ bytesL (ofF (xs0.take 16))).length c4), (45, strV (l1 ++ bytesL (ofF (xs0.take 16)))), (46, .slice p1 n1 c1), (47, strV l1), (48, .agg (ckL (ofF (xs0.take 16))).toArray), (49, .slice (some ⟨b49, 0, none⟩) (bytesL (ofF (xs0.take 16))).length c49), (50, strV (bytesL (ofF (xs0.take 16)))), (51, strV (l1 ++ bytesL (ofF (xs0.take 16)))), (52, .bool (decide (¬ (⟨(l1 ++ bytesL (ofF (xs0.take 16))).toArray⟩ : ByteArray) = ⟨(l1 ++ bytesL (ofF (xs0.take 16))).toArray⟩)))] H1 w (bytesR (.slice (some ⟨b49, 0, none⟩) (bytesL (ofF (xs0.take 16))).length c49) (bytesL (ofF (xs0.take 16))) :: [.box b8 (ckL (ofF (xs0.take 16))) 27, .box b7 (ckL (ofF (xs0.take 16))) 26]) (wpAny Tryd.prog .any ops2 Q2 0 #[true, true, true, true, true, true, true, true, true]) := by
        intro b49 c49
        exact Sx.anyEnd (Sx.readyAt eo (by kernel_rfl)) (hend b49 c49)
      have d111111110 : ∀ (b49 c49 : Nat), Sx.At 77 [(1, .slice p1 n1 c1), (2, .slice p2 n2 c2), (7, .pointer (some ⟨b7, 0, none⟩)), (8, .pointer (some ⟨b8, 0, none⟩)), (9, .bool true), (10, .slice (some ⟨b4, off4, none⟩) (l1 ++ bytesL (ofF (xs0.take 16))).length c4), (44, .slice (some ⟨b4, off4, none⟩) (l1 ++ bytesL (ofF (xs0.take 16))).length c4), (45, strV (l1 ++ bytesL (ofF (xs0.take 16)))), (46, .slice p1 n1 c1), (47, strV l1), (48, .agg (ckL (ofF (xs0.take 16))).toArray), (49, .slice (some ⟨b49, 0, none⟩) (bytesL (ofF (xs0.take 16))).length c49), (50, strV (bytesL (ofF (xs0.take 16)))), (51, strV (l1 ++ bytesL (ofF (xs0.take 16))))] H1 w (bytesR (.slice (some ⟨b49, 0, none⟩) (bytesL (ofF (xs0.take 16))).length c49) (bytesL (ofF (xs0.take 16))) :: [.box b8 (ckL (ofF (xs0.take 16))) 27, .box b7 (ckL (ofF (xs0.take 16))) 26]) (wpAny Tryd.prog .any ops2 Q2 1 #[true, true, true, true, true, true, true, true, false]) := by
        intro b49 c49
        refine Sx.anyStep 8 [] (Sx.readyAt eo (by kernel_rfl)) ⟨?_, trivial⟩
        ·
          refine Sx.anyOp #[true, true, true, true, true, true, true, true, true] o8 rfl ?_
          refine Sx.yl (.neqS rfl rfl) rfl ?_
          exact Sx.reSl (d111111111 b49 c49) ⟨rfl, rfl, rfl, rfl, rfl, rfl, rfl, rfl, rfl, rfl, rfl, rfl, rfl, rfl, rfl, trivial⟩
      have d111111100 : ∀ (b49 c49 : Nat), Sx.At 77 [(1, .slice p1 n1 c1), (2, .slice p2 n2 c2), (7, .pointer (some ⟨b7, 0, none⟩)), (8, .pointer (some ⟨b8, 0, none⟩)), (9, .bool true), (10, .slice (some ⟨b4, off4, none⟩) (l1 ++ bytesL (ofF (xs0.take 16))).length c4), (44, .slice (some ⟨b4, off4, none⟩) (l1 ++ bytesL (ofF (xs0.take 16))).length c4), (45, strV (l1 ++ bytesL (ofF (xs0.take 16)))), (46, .slice p1 n1 c1), (47, strV l1), (48, .agg (ckL (ofF (xs0.take 16))).toArray), (49, .slice (some ⟨b49, 0, none⟩) (bytesL (ofF (xs0.take 16))).length c49), (50, strV (bytesL (ofF (xs0.take 16))))] H1 w (bytesR (.slice (some ⟨b49, 0, none⟩) (bytesL (ofF (xs0.take 16))).length c49) (bytesL (ofF (xs0.take 16))) :: [.box b8 (ckL (ofF (xs0.take 16))) 27, .box b7 (ckL (ofF (xs0.take 16))) 26]) (wpAny Tryd.prog .any ops2 Q2 2 #[true, true, true, true, true, true, true, false, false]) := by
        intro b49 c49
        refine Sx.anyStep 7 [] (Sx.readyAt eo (by kernel_rfl)) ⟨?_, trivial⟩
        ·
          refine Sx.anyOp #[true, true, true, true, true, true, true, true, false] o7 rfl ?_
          refine Sx.yl (.addS rfl rfl (by rw [str_size, str_size]; omega) (str_app _ _)) rfl ?_
          exact Sx.reSl (d111111110 b49 c49) ⟨rfl, rfl, rfl, rfl, rfl, rfl, rfl, rfl, rfl, rfl, rfl, rfl, rfl, rfl, trivial⟩
      have d101111110 : ∀ (b49 c49 : Nat), Sx.At 77 [(1, .slice p1 n1 c1), (2, .slice p2 n2 c2), (7, .pointer (some ⟨b7, 0, none⟩)), (8, .pointer (some ⟨b8, 0, none⟩)), (9, .bool true), (10, .slice (some ⟨b4, off4, none⟩) (l1 ++ bytesL (ofF (xs0.take 16))).length c4), (44, .slice (some ⟨b4, off4, none⟩) (l1 ++ bytesL (ofF (xs0.take 16))).length c4), (46, .slice p1 n1 c1), (47, strV l1), (48, .agg (ckL (ofF (xs0.take 16))).toArray), (49, .slice (some ⟨b49, 0, none⟩) (bytesL (ofF (xs0.take 16))).length c49), (50, strV (bytesL (ofF (xs0.take 16)))), (51, strV (l1 ++ bytesL (ofF (xs0.take 16))))] H1 w (bytesR (.slice (some ⟨b49, 0, none⟩) (bytesL (ofF (xs0.take 16))).length c49) (bytesL (ofF (xs0.take 16))) :: [.box b8 (ckL (ofF (xs0.take 16))) 27, .box b7 (ckL (ofF (xs0.take 16))) 26]) (wpAny Tryd.prog .any ops2 Q2 2 #[true, false, true, true, true, true, true, true, false]) := by
        intro b49 c49
        refine Sx.anyStep 1 [] (Sx.readyAt eo (by kernel_rfl)) ⟨?_, trivial⟩
        ·
          refine Sx.anyOp #[true, true, true, true, true, true, true, true, false] o1 rfl ?_
          refine Sx.yl (.bytesStr Fx.bytes62 Fx.str9 rfl (l := l1 ++ bytesL (ofF (xs0.take 16))) rfl (.mem hb4 ha4)) rfl ?_
          exact Sx.reSl (d111111110 b49 c49) ⟨rfl, rfl, rfl, rfl, rfl, rfl, rfl, rfl, rfl, rfl, rfl, rfl, rfl, rfl, trivial⟩
      have d111111000 : ∀ (b49 c49 : Nat), Sx.At 77 [(1, .slice p1 n1 c1), (2, .slice p2 n2 c2), (7, .pointer (some ⟨b7, 0, none⟩)), (8, .pointer (some ⟨b8, 0, none⟩)), (9, .bool true), (10, .slice (some ⟨b4, off4, none⟩) (l1 ++ bytesL (ofF (xs0.take 16))).length c4), (44, .slice (some ⟨b4, off4, none⟩) (l1 ++ bytesL (ofF (xs0.take 16))).length c4), (45, strV (l1 ++ bytesL (ofF (xs0.take 16)))), (46, .slice p1 n1 c1), (47, strV l1), (48, .agg (ckL (ofF (xs0.take 16))).toArray), (49, .slice (some ⟨b49, 0, none⟩) (bytesL (ofF (xs0.take 16))).length c49)] H1 w (bytesR (.slice (some ⟨b49, 0, none⟩) (bytesL (ofF (xs0.take 16))).length c49) (bytesL (ofF (xs0.take 16))) :: [.box b8 (ckL (ofF (xs0.take 16))) 27, .box b7 (ckL (ofF (xs0.take 16))) 26]) (wpAny Tryd.prog .any ops2 Q2 3 #[true, true, true, true, true, true, false, false, false]) := by
        intro b49 c49
        refine Sx.anyStep 6 [] (Sx.readyAt eo (by kernel_rfl)) ⟨?_, trivial⟩
        ·
          refine Sx.anyOp #[true, true, true, true, true, true, true, false, false] o6 rfl ?_
          refine Sx.yl (.bytesStr Fx.bytes62 Fx.str9 rfl (l := bytesL (ofF (xs0.take 16))) rfl (.row (.head _) (fun j u h => by rw [Nat.zero_add]; exact h))) rfl ?_
          exact Sx.reSl (d111111100 b49 c49) ⟨rfl, rfl, rfl, rfl, rfl, rfl, rfl, rfl, rfl, rfl, rfl, rfl, rfl, trivial⟩
      have d111011100 : ∀ (b49 c49 : Nat), Sx.At 77 [(1, .slice p1 n1 c1), (2, .slice p2 n2 c2), (7, .pointer (some ⟨b7, 0, none⟩)), (8, .pointer (some ⟨b8, 0, none⟩)), (9, .bool true), (10, .slice (some ⟨b4, off4, none⟩) (l1 ++ bytesL (ofF (xs0.take 16))).length c4), (44, .slice (some ⟨b4, off4, none⟩) (l1 ++ bytesL (ofF (xs0.take 16))).length c4), (45, strV (l1 ++ bytesL (ofF (xs0.take 16)))), (46, .slice p1 n1 c1), (48, .agg (ckL (ofF (xs0.take 16))).toArray), (49, .slice (some ⟨b49, 0, none⟩) (bytesL (ofF (xs0.take 16))).length c49), (50, strV (bytesL (ofF (xs0.take 16))))] H1 w (bytesR (.slice (some ⟨b49, 0, none⟩) (bytesL (ofF (xs0.take 16))).length c49) (bytesL (ofF (xs0.take 16))) :: [.box b8 (ckL (ofF (xs0.take 16))) 27, .box b7 (ckL (ofF (xs0.take 16))) 26]) (wpAny Tryd.prog .any ops2 Q2 3 #[true, true, true, false, true, true, true, false, false]) := by
        intro b49 c49
        refine Sx.anyStep 3 [] (Sx.readyAt eo (by kernel_rfl)) ⟨?_, trivial⟩
        ·
          refine Sx.anyOp #[true, true, true, true, true, true, true, false, false] o3 rfl ?_
          refine Sx.yl (srcStr hp1 up rfl) rfl ?_
          exact Sx.reSl (d111111100 b49 c49) ⟨rfl, rfl, rfl, rfl, rfl, rfl, rfl, rfl, rfl, rfl, rfl, rfl, rfl, trivial⟩
      have d101111100 : ∀ (b49 c49 : Nat), Sx.At 77 [(1, .slice p1 n1 c1), (2, .slice p2 n2 c2), (7, .pointer (some ⟨b7, 0, none⟩)), (8, .pointer (some ⟨b8, 0, none⟩)), (9, .bool true), (10, .slice (some ⟨b4, off4, none⟩) (l1 ++ bytesL (ofF (xs0.take 16))).length c4), (44, .slice (some ⟨b4, off4, none⟩) (l1 ++ bytesL (ofF (xs0.take 16))).length c4), (46, .slice p1 n1 c1), (47, strV l1), (48, .agg (ckL (ofF (xs0.take 16))).toArray), (49, .slice (some ⟨b49, 0, none⟩) (bytesL (ofF (xs0.take 16))).length c49), (50, strV (bytesL (ofF (xs0.take 16))))] H1 w (bytesR (.slice (some ⟨b49, 0, none⟩) (bytesL (ofF (xs0.take 16))).length c49) (bytesL (ofF (xs0.take 16))) :: [.box b8 (ckL (ofF (xs0.take 16))) 27, .box b7 (ckL (ofF (xs0.take 16))) 26]) (wpAny Tryd.prog .any ops2 Q2 3 #[true, false, true, true, true, true, true, false, false]) := by
        intro b49 c49
        refine Sx.anyStep 1 [7] (Sx.readyAt eo (by kernel_rfl)) ⟨?_, ?_, trivial⟩
        ·
          refine Sx.anyOp #[true, true, true, true, true, true, true, false, false] o1 rfl ?_
          refine Sx.yl (.bytesStr Fx.bytes62 Fx.str9 rfl (l := l1 ++ bytesL (ofF (xs0.take 16))) rfl (.mem hb4 ha4)) rfl ?_
          exact Sx.reSl (d111111100 b49 c49) ⟨rfl, rfl, rfl, rfl, rfl, rfl, rfl, rfl, rfl, rfl, rfl, rfl, rfl, trivial⟩
        ·
          refine Sx.anyOp #[true, false, true, true, true, true, true, true, false] o7 rfl ?_
          refine Sx.yl (.addS rfl rfl (by rw [str_size, str_size]; omega) (str_app _ _)) rfl ?_
          exact Sx.reSl (d101111110 b49 c49) ⟨rfl, rfl, rfl, rfl, rfl, rfl, rfl, rfl, rfl, rfl, rfl, rfl, rfl, trivial⟩
      have d001111110 : ∀ (b49 c49 : Nat), Sx.At 77 [(1, .slice p1 n1 c1), (2, .slice p2 n2 c2), (7, .pointer (some ⟨b7, 0, none⟩)), (8, .pointer (some ⟨b8, 0, none⟩)), (9, .bool true), (10, .slice (some ⟨b4, off4, none⟩) (l1 ++ bytesL (ofF (xs0.take 16))).length c4), (46, .slice p1 n1 c1), (47, strV l1), (48, .agg (ckL (ofF (xs0.take 16))).toArray), (49, .slice (some ⟨b49, 0, none⟩) (bytesL (ofF (xs0.take 16))).length c49), (50, strV (bytesL (ofF (xs0.take 16)))), (51, strV (l1 ++ bytesL (ofF (xs0.take 16))))] H1 w (bytesR (.slice (some ⟨b49, 0, none⟩) (bytesL (ofF (xs0.take 16))).length c49) (bytesL (ofF (xs0.take 16))) :: [.box b8 (ckL (ofF (xs0.take 16))) 27, .box b7 (ckL (ofF (xs0.take 16))) 26]) (wpAny Tryd.prog .any ops2 Q2 3 #[false, false, true, true, true, true, true, true, false]) := by
        intro b49 c49
        refine Sx.anyStep 0 [] (Sx.readyAt eo (by kernel_rfl)) ⟨?_, trivial⟩
        ·
          refine Sx.anyOp #[true, false, true, true, true, true, true, true, false] o0 rfl ?_
          refine Sx.yl (.move rfl) rfl ?_
          exact Sx.reSl (d101111110 b49 c49) ⟨rfl, rfl, rfl, rfl, rfl, rfl, rfl, rfl, rfl, rfl, rfl, rfl, rfl, trivial⟩
      have d111110000 : Sx.At 77 [(1, .slice p1 n1 c1), (2, .slice p2 n2 c2), (7, .pointer (some ⟨b7, 0, none⟩)), (8, .pointer (some ⟨b8, 0, none⟩)), (9, .bool true), (10, .slice (some ⟨b4, off4, none⟩) (l1 ++ bytesL (ofF (xs0.take 16))).length c4), (44, .slice (some ⟨b4, off4, none⟩) (l1 ++ bytesL (ofF (xs0.take 16))).length c4), (45, strV (l1 ++ bytesL (ofF (xs0.take 16)))), (46, .slice p1 n1 c1), (47, strV l1), (48, .agg (ckL (ofF (xs0.take 16))).toArray)] H1 w [.box b8 (ckL (ofF (xs0.take 16))) 27, .box b7 (ckL (ofF (xs0.take 16))) 26] (wpAny Tryd.prog .any ops2 Q2 4 #[true, true, true, true, true, false, false, false, false]) := by
        refine Sx.anyStep 5 [] (Sx.readyAt eo (by kernel_rfl)) ⟨?_, trivial⟩
        ·
          refine Sx.anyOp #[true, true, true, true, true, true, false, false, false] o5 rfl ?_
          refine Sx.callS Fx.call32 rfl (fun W s => rbytes_st (ofF (xs0.take 16)) hx s) rfl (fun r49 _ => ?_)
          refine Sx.rowCase (.head _) hbl.1 (fun b49 c49 hr49 hc49 => ?_)
          subst hr49
          exact Sx.reSl (d111111000 b49 c49) ⟨rfl, rfl, rfl, rfl, rfl, rfl, rfl, rfl, rfl, rfl, rfl, rfl, trivial⟩
      have d111011000 : ∀ (b49 c49 : Nat), Sx.At 77 [(1, .slice p1 n1 c1), (2, .slice p2 n2 c2), (7, .pointer (some ⟨b7, 0, none⟩)), (8, .pointer (some ⟨b8, 0, none⟩)), (9, .bool true), (10, .slice (some ⟨b4, off4, none⟩) (l1 ++ bytesL (ofF (xs0.take 16))).length c4), (44, .slice (some ⟨b4, off4, none⟩) (l1 ++ bytesL (ofF (xs0.take 16))).length c4), (45, strV (l1 ++ bytesL (ofF (xs0.take 16)))), (46, .slice p1 n1 c1), (48, .agg (ckL (ofF (xs0.take 16))).toArray), (49, .slice (some ⟨b49, 0, none⟩) (bytesL (ofF (xs0.take 16))).length c49)] H1 w (bytesR (.slice (some ⟨b49, 0, none⟩) (bytesL (ofF (xs0.take 16))).length c49) (bytesL (ofF (xs0.take 16))) :: [.box b8 (ckL (ofF (xs0.take 16))) 27, .box b7 (ckL (ofF (xs0.take 16))) 26]) (wpAny Tryd.prog .any ops2 Q2 4 #[true, true, true, false, true, true, false, false, false]) := by
        intro b49 c49
        refine Sx.anyStep 3 [6] (Sx.readyAt eo (by kernel_rfl)) ⟨?_, ?_, trivial⟩
        ·
          refine Sx.anyOp #[true, true, true, true, true, true, false, false, false] o3 rfl ?_
          refine Sx.yl (srcStr hp1 up rfl) rfl ?_
          exact Sx.reSl (d111111000 b49 c49) ⟨rfl, rfl, rfl, rfl, rfl, rfl, rfl, rfl, rfl, rfl, rfl, rfl, trivial⟩
        ·
          refine Sx.anyOp #[true, true, true, false, true, true, true, false, false] o6 rfl ?_
          refine Sx.yl (.bytesStr Fx.bytes62 Fx.str9 rfl (l := bytesL (ofF (xs0.take 16))) rfl (.row (.head _) (fun j u h => by rw [Nat.zero_add]; exact h))) rfl ?_
          exact Sx.reSl (d111011100 b49 c49) ⟨rfl, rfl, rfl, rfl, rfl, rfl, rfl, rfl, rfl, rfl, rfl, rfl, trivial⟩
      have d110011100 : ∀ (b49 c49 : Nat), Sx.At 77 [(1, .slice p1 n1 c1), (2, .slice p2 n2 c2), (7, .pointer (some ⟨b7, 0, none⟩)), (8, .pointer (some ⟨b8, 0, none⟩)), (9, .bool true), (10, .slice (some ⟨b4, off4, none⟩) (l1 ++ bytesL (ofF (xs0.take 16))).length c4), (44, .slice (some ⟨b4, off4, none⟩) (l1 ++ bytesL (ofF (xs0.take 16))).length c4), (45, strV (l1 ++ bytesL (ofF (xs0.take 16)))), (48, .agg (ckL (ofF (xs0.take 16))).toArray), (49, .slice (some ⟨b49, 0, none⟩) (bytesL (ofF (xs0.take 16))).length c49), (50, strV (bytesL (ofF (xs0.take 16))))] H1 w (bytesR (.slice (some ⟨b49, 0, none⟩) (bytesL (ofF (xs0.take 16))).length c49) (bytesL (ofF (xs0.take 16))) :: [.box b8 (ckL (ofF (xs0.take 16))) 27, .box b7 (ckL (ofF (xs0.take 16))) 26]) (wpAny Tryd.prog .any ops2 Q2 4 #[true, true, false, false, true, true, true, false, false]) := by
        intro b49 c49
        refine Sx.anyStep 2 [] (Sx.readyAt eo (by kernel_rfl)) ⟨?_, trivial⟩
        ·
          refine Sx.anyOp #[true, true, true, false, true, true, true, false, false] o2 rfl ?_
          refine Sx.yl (.move rfl) rfl ?_
          exact Sx.reSl (d111011100 b49 c49) ⟨rfl, rfl, rfl, rfl, rfl, rfl, rfl, rfl, rfl, rfl, rfl, rfl, trivial⟩
      have d101111000 : ∀ (b49 c49 : Nat), Sx.At 77 [(1, .slice p1 n1 c1), (2, .slice p2 n2 c2), (7, .pointer (some ⟨b7, 0, none⟩)), (8, .pointer (some ⟨b8, 0, none⟩)), (9, .bool true), (10, .slice (some ⟨b4, off4, none⟩) (l1 ++ bytesL (ofF (xs0.take 16))).length c4), (44, .slice (some ⟨b4, off4, none⟩) (l1 ++ bytesL (ofF (xs0.take 16))).length c4), (46, .slice p1 n1 c1), (47, strV l1), (48, .agg (ckL (ofF (xs0.take 16))).toArray), (49, .slice (some ⟨b49, 0, none⟩) (bytesL (ofF (xs0.take 16))).length c49)] H1 w (bytesR (.slice (some ⟨b49, 0, none⟩) (bytesL (ofF (xs0.take 16))).length c49) (bytesL (ofF (xs0.take 16))) :: [.box b8 (ckL (ofF (xs0.take 16))) 27, .box b7 (ckL (ofF (xs0.take 16))) 26]) (wpAny Tryd.prog .any ops2 Q2 4 #[true, false, true, true, true, true, false, false, false]) := by
        intro b49 c49
        refine Sx.anyStep 1 [6] (Sx.readyAt eo (by kernel_rfl)) ⟨?_, ?_, trivial⟩
        ·
          refine Sx.anyOp #[true, true, true, true, true, true, false, false, false] o1 rfl ?_
          refine Sx.yl (.bytesStr Fx.bytes62 Fx.str9 rfl (l := l1 ++ bytesL (ofF (xs0.take 16))) rfl (.mem hb4 ha4)) rfl ?_
          exact Sx.reSl (d111111000 b49 c49) ⟨rfl, rfl, rfl, rfl, rfl, rfl, rfl, rfl, rfl, rfl, rfl, rfl, trivial⟩
        ·
          refine Sx.anyOp #[true, false, true, true, true, true, true, false, false] o6 rfl ?_
          refine Sx.yl (.bytesStr Fx.bytes62 Fx.str9 rfl (l := bytesL (ofF (xs0.take 16))) rfl (.row (.head _) (fun j u h => by rw [Nat.zero_add]; exact h))) rfl ?_
          exact Sx.reSl (d101111100 b49 c49) ⟨rfl, rfl, rfl, rfl, rfl, rfl, rfl, rfl, rfl, rfl, rfl, rfl, trivial⟩
      have d101011100 : ∀ (b49 c49 : Nat), Sx.At 77 [(1, .slice p1 n1 c1), (2, .slice p2 n2 c2), (7, .pointer (some ⟨b7, 0, none⟩)), (8, .pointer (some ⟨b8, 0, none⟩)), (9, .bool true), (10, .slice (some ⟨b4, off4, none⟩) (l1 ++ bytesL (ofF (xs0.take 16))).length c4), (44, .slice (some ⟨b4, off4, none⟩) (l1 ++ bytesL (ofF (xs0.take 16))).length c4), (46, .slice p1 n1 c1), (48, .agg (ckL (ofF (xs0.take 16))).toArray), (49, .slice (some ⟨b49, 0, none⟩) (bytesL (ofF (xs0.take 16))).length c49), (50, strV (bytesL (ofF (xs0.take 16))))] H1 w (bytesR (.slice (some ⟨b49, 0, none⟩) (bytesL (ofF (xs0.take 16))).length c49) (bytesL (ofF (xs0.take 16))) :: [.box b8 (ckL (ofF (xs0.take 16))) 27, .box b7 (ckL (ofF (xs0.take 16))) 26]) (wpAny Tryd.prog .any ops2 Q2 4 #[true, false, true, false, true, true, true, false, false]) := by
        intro b49 c49
        refine Sx.anyStep 1 [3] (Sx.readyAt eo (by kernel_rfl)) ⟨?_, ?_, trivial⟩
        ·
          refine Sx.anyOp #[true, true, true, false, true, true, true, false, false] o1 rfl ?_
          refine Sx.yl (.bytesStr Fx.bytes62 Fx.str9 rfl (l := l1 ++ bytesL (ofF (xs0.take 16))) rfl (.mem hb4 ha4)) rfl ?_
          exact Sx.reSl (d111011100 b49 c49) ⟨rfl, rfl, rfl, rfl, rfl, rfl, rfl, rfl, rfl, rfl, rfl, rfl, trivial⟩
        ·
          refine Sx.anyOp #[true, false, true, true, true, true, true, false, false] o3 rfl ?_
          refine Sx.yl (srcStr hp1 up rfl) rfl ?_
          exact Sx.reSl (d101111100 b49 c49) ⟨rfl, rfl, rfl, rfl, rfl, rfl, rfl, rfl, rfl, rfl, rfl, rfl, trivial⟩
      have d001111100 : ∀ (b49 c49 : Nat), Sx.At 77 [(1, .slice p1 n1 c1), (2, .slice p2 n2 c2), (7, .pointer (some ⟨b7, 0, none⟩)), (8, .pointer (some ⟨b8, 0, none⟩)), (9, .bool true), (10, .slice (some ⟨b4, off4, none⟩) (l1 ++ bytesL (ofF (xs0.take 16))).length c4), (46, .slice p1 n1 c1), (47, strV l1), (48, .agg (ckL (ofF (xs0.take 16))).toArray), (49, .slice (some ⟨b49, 0, none⟩) (bytesL (ofF (xs0.take 16))).length c49), (50, strV (bytesL (ofF (xs0.take 16))))] H1 w (bytesR (.slice (some ⟨b49, 0, none⟩) (bytesL (ofF (xs0.take 16))).length c49) (bytesL (ofF (xs0.take 16))) :: [.box b8 (ckL (ofF (xs0.take 16))) 27, .box b7 (ckL (ofF (xs0.take 16))) 26]) (wpAny Tryd.prog .any ops2 Q2 4 #[false, false, true, true, true, true, true, false, false]) := by
        intro b49 c49
        refine Sx.anyStep 0 [7] (Sx.readyAt eo (by kernel_rfl)) ⟨?_, ?_, trivial⟩
        ·
          refine Sx.anyOp #[true, false, true, true, true, true, true, false, false] o0 rfl ?_
          refine Sx.yl (.move rfl) rfl ?_
          exact Sx.reSl (d101111100 b49 c49) ⟨rfl, rfl, rfl, rfl, rfl, rfl, rfl, rfl, rfl, rfl, rfl, rfl, trivial⟩
        ·
          refine Sx.anyOp #[false, false, true, true, true, true, true, true, false] o7 rfl ?_
          refine Sx.yl (.addS rfl rfl (by rw [str_size, str_size]; omega) (str_app _ _)) rfl ?_
          exact Sx.reSl (d001111110 b49 c49) ⟨rfl, rfl, rfl, rfl, rfl, rfl, rfl, rfl, rfl, rfl, rfl, rfl, trivial⟩
      have d111100000 : Sx.At 77 [(1, .slice p1 n1 c1), (2, .slice p2 n2 c2), (7, .pointer (some ⟨b7, 0, none⟩)), (8, .pointer (some ⟨b8, 0, none⟩)), (9, .bool true), (10, .slice (some ⟨b4, off4, none⟩) (l1 ++ bytesL (ofF (xs0.take 16))).length c4), (44, .slice (some ⟨b4, off4, none⟩) (l1 ++ bytesL (ofF (xs0.take 16))).length c4), (45, strV (l1 ++ bytesL (ofF (xs0.take 16)))), (46, .slice p1 n1 c1), (47, strV l1)] H1 w [.box b8 (ckL (ofF (xs0.take 16))) 27, .box b7 (ckL (ofF (xs0.take 16))) 26] (wpAny Tryd.prog .any ops2 Q2 5 #[true, true, true, true, false, false, false, false, false]) := by
        refine Sx.anyStep 4 [] (Sx.readyAt eo (by kernel_rfl)) ⟨?_, trivial⟩
        ·
          refine Sx.anyOp #[true, true, true, true, true, false, false, false, false] o4 rfl ?_
          first
            | refine Sx.yl (.loadW rfl Fx.agg27 (.head _) (ck_length _)) rfl ?_
            | refine Sx.yl (.loadW rfl Fx.agg27 (.tail _ (.head _)) (ck_length _)) rfl ?_
          exact Sx.reSl (d111110000 ) ⟨rfl, rfl, rfl, rfl, rfl, rfl, rfl, rfl, rfl, rfl, rfl, trivial⟩
      have d111010000 : Sx.At 77 [(1, .slice p1 n1 c1), (2, .slice p2 n2 c2), (7, .pointer (some ⟨b7, 0, none⟩)), (8, .pointer (some ⟨b8, 0, none⟩)), (9, .bool true), (10, .slice (some ⟨b4, off4, none⟩) (l1 ++ bytesL (ofF (xs0.take 16))).length c4), (44, .slice (some ⟨b4, off4, none⟩) (l1 ++ bytesL (ofF (xs0.take 16))).length c4), (45, strV (l1 ++ bytesL (ofF (xs0.take 16)))), (46, .slice p1 n1 c1), (48, .agg (ckL (ofF (xs0.take 16))).toArray)] H1 w [.box b8 (ckL (ofF (xs0.take 16))) 27, .box b7 (ckL (ofF (xs0.take 16))) 26] (wpAny Tryd.prog .any ops2 Q2 5 #[true, true, true, false, true, false, false, false, false]) := by
        refine Sx.anyStep 3 [5] (Sx.readyAt eo (by kernel_rfl)) ⟨?_, ?_, trivial⟩
        ·
          refine Sx.anyOp #[true, true, true, true, true, false, false, false, false] o3 rfl ?_
          refine Sx.yl (srcStr hp1 up rfl) rfl ?_
          exact Sx.reSl (d111110000 ) ⟨rfl, rfl, rfl, rfl, rfl, rfl, rfl, rfl, rfl, rfl, rfl, trivial⟩
        ·
          refine Sx.anyOp #[true, true, true, false, true, true, false, false, false] o5 rfl ?_
          refine Sx.callS Fx.call32 rfl (fun W s => rbytes_st (ofF (xs0.take 16)) hx s) rfl (fun r49 _ => ?_)
          refine Sx.rowCase (.head _) hbl.1 (fun b49 c49 hr49 hc49 => ?_)
          subst hr49
          exact Sx.reSl (d111011000 b49 c49) ⟨rfl, rfl, rfl, rfl, rfl, rfl, rfl, rfl, rfl, rfl, rfl, trivial⟩
      have d110011000 : ∀ (b49 c49 : Nat), Sx.At 77 [(1, .slice p1 n1 c1), (2, .slice p2 n2 c2), (7, .pointer (some ⟨b7, 0, none⟩)), (8, .pointer (some ⟨b8, 0, none⟩)), (9, .bool true), (10, .slice (some ⟨b4, off4, none⟩) (l1 ++ bytesL (ofF (xs0.take 16))).length c4), (44, .slice (some ⟨b4, off4, none⟩) (l1 ++ bytesL (ofF (xs0.take 16))).length c4), (45, strV (l1 ++ bytesL (ofF (xs0.take 16)))), (48, .agg (ckL (ofF (xs0.take 16))).toArray), (49, .slice (some ⟨b49, 0, none⟩) (bytesL (ofF (xs0.take 16))).length c49)] H1 w (bytesR (.slice (some ⟨b49, 0, none⟩) (bytesL (ofF (xs0.take 16))).length c49) (bytesL (ofF (xs0.take 16))) :: [.box b8 (ckL (ofF (xs0.take 16))) 27, .box b7 (ckL (ofF (xs0.take 16))) 26]) (wpAny Tryd.prog .any ops2 Q2 5 #[true, true, false, false, true, true, false, false, false]) := by
        intro b49 c49
        refine Sx.anyStep 2 [6] (Sx.readyAt eo (by kernel_rfl)) ⟨?_, ?_, trivial⟩
        ·
          refine Sx.anyOp #[true, true, true, false, true, true, false, false, false] o2 rfl ?_
          refine Sx.yl (.move rfl) rfl ?_
          exact Sx.reSl (d111011000 b49 c49) ⟨rfl, rfl, rfl, rfl, rfl, rfl, rfl, rfl, rfl, rfl, rfl, trivial⟩
        ·
          refine Sx.anyOp #[true, true, false, false, true, true, true, false, false] o6 rfl ?_
          refine Sx.yl (.bytesStr Fx.bytes62 Fx.str9 rfl (l := bytesL (ofF (xs0.take 16))) rfl (.row (.head _) (fun j u h => by rw [Nat.zero_add]; exact h))) rfl ?_
          exact Sx.reSl (d110011100 b49 c49) ⟨rfl, rfl, rfl, rfl, rfl, rfl, rfl, rfl, rfl, rfl, rfl, trivial⟩
      have d101110000 : Sx.At 77 [(1, .slice p1 n1 c1), (2, .slice p2 n2 c2), (7, .pointer (some ⟨b7, 0, none⟩)), (8, .pointer (some ⟨b8, 0, none⟩)), (9, .bool true), (10, .slice (some ⟨b4, off4, none⟩) (l1 ++ bytesL (ofF (xs0.take 16))).length c4), (44, .slice (some ⟨b4, off4, none⟩) (l1 ++ bytesL (ofF (xs0.take 16))).length c4), (46, .slice p1 n1 c1), (47, strV l1), (48, .agg (ckL (ofF (xs0.take 16))).toArray)] H1 w [.box b8 (ckL (ofF (xs0.take 16))) 27, .box b7 (ckL (ofF (xs0.take 16))) 26] (wpAny Tryd.prog .any ops2 Q2 5 #[true, false, true, true, true, false, false, false, false]) := by
        refine Sx.anyStep 1 [5] (Sx.readyAt eo (by kernel_rfl)) ⟨?_, ?_, trivial⟩
        ·
          refine Sx.anyOp #[true, true, true, true, true, false, false, false, false] o1 rfl ?_
          refine Sx.yl (.bytesStr Fx.bytes62 Fx.str9 rfl (l := l1 ++ bytesL (ofF (xs0.take 16))) rfl (.mem hb4 ha4)) rfl ?_
          exact Sx.reSl (d111110000 ) ⟨rfl, rfl, rfl, rfl, rfl, rfl, rfl, rfl, rfl, rfl, rfl, trivial⟩
        ·
          refine Sx.anyOp #[true, false, true, true, true, true, false, false, false] o5 rfl ?_
          refine Sx.callS Fx.call32 rfl (fun W s => rbytes_st (ofF (xs0.take 16)) hx s) rfl (fun r49 _ => ?_)
          refine Sx.rowCase (.head _) hbl.1 (fun b49 c49 hr49 hc49 => ?_)
          subst hr49
          exact Sx.reSl (d101111000 b49 c49) ⟨rfl, rfl, rfl, rfl, rfl, rfl, rfl, rfl, rfl, rfl, rfl, trivial⟩
      have d101011000 : ∀ (b49 c49 : Nat), Sx.At 77 [(1, .slice p1 n1 c1), (2, .slice p2 n2 c2), (7, .pointer (some ⟨b7, 0, none⟩)), (8, .pointer (some ⟨b8, 0, none⟩)), (9, .bool true), (10, .slice (some ⟨b4, off4, none⟩) (l1 ++ bytesL (ofF (xs0.take 16))).length c4), (44, .slice (some ⟨b4, off4, none⟩) (l1 ++ bytesL (ofF (xs0.take 16))).length c4), (46, .slice p1 n1 c1), (48, .agg (ckL (ofF (xs0.take 16))).toArray), (49, .slice (some ⟨b49, 0, none⟩) (bytesL (ofF (xs0.take 16))).length c49)] H1 w (bytesR (.slice (some ⟨b49, 0, none⟩) (bytesL (ofF (xs0.take 16))).length c49) (bytesL (ofF (xs0.take 16))) :: [.box b8 (ckL (ofF (xs0.take 16))) 27, .box b7 (ckL (ofF (xs0.take 16))) 26]) (wpAny Tryd.prog .any ops2 Q2 5 #[true, false, true, false, true, true, false, false, false]) := by
        intro b49 c49
        refine Sx.anyStep 1 [3, 6] (Sx.readyAt eo (by kernel_rfl)) ⟨?_, ?_, ?_, trivial⟩
        ·
          refine Sx.anyOp #[true, true, true, false, true, true, false, false, false] o1 rfl ?_
          refine Sx.yl (.bytesStr Fx.bytes62 Fx.str9 rfl (l := l1 ++ bytesL (ofF (xs0.take 16))) rfl (.mem hb4 ha4)) rfl ?_
          exact Sx.reSl (d111011000 b49 c49) ⟨rfl, rfl, rfl, rfl, rfl, rfl, rfl, rfl, rfl, rfl, rfl, trivial⟩
        ·
          refine Sx.anyOp #[true, false, true, true, true, true, false, false, false] o3 rfl ?_
          refine Sx.yl (srcStr hp1 up rfl) rfl ?_
          exact Sx.reSl (d101111000 b49 c49) ⟨rfl, rfl, rfl, rfl, rfl, rfl, rfl, rfl, rfl, rfl, rfl, trivial⟩
        ·
          refine Sx.anyOp #[true, false, true, false, true, true, true, false, false] o6 rfl ?_
          refine Sx.yl (.bytesStr Fx.bytes62 Fx.str9 rfl (l := bytesL (ofF (xs0.take 16))) rfl (.row (.head _) (fun j u h => by rw [Nat.zero_add]; exact h))) rfl ?_
          exact Sx.reSl (d101011100 b49 c49) ⟨rfl, rfl, rfl, rfl, rfl, rfl, rfl, rfl, rfl, rfl, rfl, trivial⟩
      have d100011100 : ∀ (b49 c49 : Nat), Sx.At 77 [(1, .slice p1 n1 c1), (2, .slice p2 n2 c2), (7, .pointer (some ⟨b7, 0, none⟩)), (8, .pointer (some ⟨b8, 0, none⟩)), (9, .bool true), (10, .slice (some ⟨b4, off4, none⟩) (l1 ++ bytesL (ofF (xs0.take 16))).length c4), (44, .slice (some ⟨b4, off4, none⟩) (l1 ++ bytesL (ofF (xs0.take 16))).length c4), (48, .agg (ckL (ofF (xs0.take 16))).toArray), (49, .slice (some ⟨b49, 0, none⟩) (bytesL (ofF (xs0.take 16))).length c49), (50, strV (bytesL (ofF (xs0.take 16))))] H1 w (bytesR (.slice (some ⟨b49, 0, none⟩) (bytesL (ofF (xs0.take 16))).length c49) (bytesL (ofF (xs0.take 16))) :: [.box b8 (ckL (ofF (xs0.take 16))) 27, .box b7 (ckL (ofF (xs0.take 16))) 26]) (wpAny Tryd.prog .any ops2 Q2 5 #[true, false, false, false, true, true, true, false, false]) := by
        intro b49 c49
        refine Sx.anyStep 1 [2] (Sx.readyAt eo (by kernel_rfl)) ⟨?_, ?_, trivial⟩
        ·
          refine Sx.anyOp #[true, true, false, false, true, true, true, false, false] o1 rfl ?_
          refine Sx.yl (.bytesStr Fx.bytes62 Fx.str9 rfl (l := l1 ++ bytesL (ofF (xs0.take 16))) rfl (.mem hb4 ha4)) rfl ?_
          exact Sx.reSl (d110011100 b49 c49) ⟨rfl, rfl, rfl, rfl, rfl, rfl, rfl, rfl, rfl, rfl, rfl, trivial⟩
        ·
          refine Sx.anyOp #[true, false, true, false, true, true, true, false, false] o2 rfl ?_
          refine Sx.yl (.move rfl) rfl ?_
          exact Sx.reSl (d101011100 b49 c49) ⟨rfl, rfl, rfl, rfl, rfl, rfl, rfl, rfl, rfl, rfl, rfl, trivial⟩
      have d001111000 : ∀ (b49 c49 : Nat), Sx.At 77 [(1, .slice p1 n1 c1), (2, .slice p2 n2 c2), (7, .pointer (some ⟨b7, 0, none⟩)), (8, .pointer (some ⟨b8, 0, none⟩)), (9, .bool true), (10, .slice (some ⟨b4, off4, none⟩) (l1 ++ bytesL (ofF (xs0.take 16))).length c4), (46, .slice p1 n1 c1), (47, strV l1), (48, .agg (ckL (ofF (xs0.take 16))).toArray), (49, .slice (some ⟨b49, 0, none⟩) (bytesL (ofF (xs0.take 16))).length c49)] H1 w (bytesR (.slice (some ⟨b49, 0, none⟩) (bytesL (ofF (xs0.take 16))).length c49) (bytesL (ofF (xs0.take 16))) :: [.box b8 (ckL (ofF (xs0.take 16))) 27, .box b7 (ckL (ofF (xs0.take 16))) 26]) (wpAny Tryd.prog .any ops2 Q2 5 #[false, false, true, true, true, true, false, false, false]) := by
        intro b49 c49
        refine Sx.anyStep 0 [6] (Sx.readyAt eo (by kernel_rfl)) ⟨?_, ?_, trivial⟩
        ·
          refine Sx.anyOp #[true, false, true, true, true, true, false, false, false] o0 rfl ?_
          refine Sx.yl (.move rfl) rfl ?_
          exact Sx.reSl (d101111000 b49 c49) ⟨rfl, rfl, rfl, rfl, rfl, rfl, rfl, rfl, rfl, rfl, rfl, trivial⟩
        ·
          refine Sx.anyOp #[false, false, true, true, true, true, true, false, false] o6 rfl ?_
          refine Sx.yl (.bytesStr Fx.bytes62 Fx.str9 rfl (l := bytesL (ofF (xs0.take 16))) rfl (.row (.head _) (fun j u h => by rw [Nat.zero_add]; exact h))) rfl ?_
          exact Sx.reSl (d001111100 b49 c49) ⟨rfl, rfl, rfl, rfl, rfl, rfl, rfl, rfl, rfl, rfl, rfl, trivial⟩
      have d001011100 : ∀ (b49 c49 : Nat), Sx.At 77 [(1, .slice p1 n1 c1), (2, .slice p2 n2 c2), (7, .pointer (some ⟨b7, 0, none⟩)), (8, .pointer (some ⟨b8, 0, none⟩)), (9, .bool true), (10, .slice (some ⟨b4, off4, none⟩) (l1 ++ bytesL (ofF (xs0.take 16))).length c4), (46, .slice p1 n1 c1), (48, .agg (ckL (ofF (xs0.take 16))).toArray), (49, .slice (some ⟨b49, 0, none⟩) (bytesL (ofF (xs0.take 16))).length c49), (50, strV (bytesL (ofF (xs0.take 16))))] H1 w (bytesR (.slice (some ⟨b49, 0, none⟩) (bytesL (ofF (xs0.take 16))).length c49) (bytesL (ofF (xs0.take 16))) :: [.box b8 (ckL (ofF (xs0.take 16))) 27, .box b7 (ckL (ofF (xs0.take 16))) 26]) (wpAny Tryd.prog .any ops2 Q2 5 #[false, false, true, false, true, true, true, false, false]) := by
        intro b49 c49
        refine Sx.anyStep 0 [3] (Sx.readyAt eo (by kernel_rfl)) ⟨?_, ?_, trivial⟩
        ·
          refine Sx.anyOp #[true, false, true, false, true, true, true, false, false] o0 rfl ?_
          refine Sx.yl (.move rfl) rfl ?_
          exact Sx.reSl (d101011100 b49 c49) ⟨rfl, rfl, rfl, rfl, rfl, rfl, rfl, rfl, rfl, rfl, rfl, trivial⟩
        ·
          refine Sx.anyOp #[false, false, true, true, true, true, true, false, false] o3 rfl ?_
          refine Sx.yl (srcStr hp1 up rfl) rfl ?_
          exact Sx.reSl (d001111100 b49 c49) ⟨rfl, rfl, rfl, rfl, rfl, rfl, rfl, rfl, rfl, rfl, rfl, trivial⟩
      have d111000000 : Sx.At 77 [(1, .slice p1 n1 c1), (2, .slice p2 n2 c2), (7, .pointer (some ⟨b7, 0, none⟩)), (8, .pointer (some ⟨b8, 0, none⟩)), (9, .bool true), (10, .slice (some ⟨b4, off4, none⟩) (l1 ++ bytesL (ofF (xs0.take 16))).length c4), (44, .slice (some ⟨b4, off4, none⟩) (l1 ++ bytesL (ofF (xs0.take 16))).length c4), (45, strV (l1 ++ bytesL (ofF (xs0.take 16)))), (46, .slice p1 n1 c1)] H1 w [.box b8 (ckL (ofF (xs0.take 16))) 27, .box b7 (ckL (ofF (xs0.take 16))) 26] (wpAny Tryd.prog .any ops2 Q2 6 #[true, true, true, false, false, false, false, false, false]) := by
        refine Sx.anyStep 3 [4] (Sx.readyAt eo (by kernel_rfl)) ⟨?_, ?_, trivial⟩
        ·
          refine Sx.anyOp #[true, true, true, true, false, false, false, false, false] o3 rfl ?_
          refine Sx.yl (srcStr hp1 up rfl) rfl ?_
          exact Sx.reSl (d111100000 ) ⟨rfl, rfl, rfl, rfl, rfl, rfl, rfl, rfl, rfl, rfl, trivial⟩
        ·
          refine Sx.anyOp #[true, true, true, false, true, false, false, false, false] o4 rfl ?_
          first
            | refine Sx.yl (.loadW rfl Fx.agg27 (.head _) (ck_length _)) rfl ?_
            | refine Sx.yl (.loadW rfl Fx.agg27 (.tail _ (.head _)) (ck_length _)) rfl ?_
          exact Sx.reSl (d111010000 ) ⟨rfl, rfl, rfl, rfl, rfl, rfl, rfl, rfl, rfl, rfl, trivial⟩
      have d110010000 : Sx.At 77 [(1, .slice p1 n1 c1), (2, .slice p2 n2 c2), (7, .pointer (some ⟨b7, 0, none⟩)), (8, .pointer (some ⟨b8, 0, none⟩)), (9, .bool true), (10, .slice (some ⟨b4, off4, none⟩) (l1 ++ bytesL (ofF (xs0.take 16))).length c4), (44, .slice (some ⟨b4, off4, none⟩) (l1 ++ bytesL (ofF (xs0.take 16))).length c4), (45, strV (l1 ++ bytesL (ofF (xs0.take 16)))), (48, .agg (ckL (ofF (xs0.take 16))).toArray)] H1 w [.box b8 (ckL (ofF (xs0.take 16))) 27, .box b7 (ckL (ofF (xs0.take 16))) 26] (wpAny Tryd.prog .any ops2 Q2 6 #[true, true, false, false, true, false, false, false, false]) := by
        refine Sx.anyStep 2 [5] (Sx.readyAt eo (by kernel_rfl)) ⟨?_, ?_, trivial⟩
        ·
          refine Sx.anyOp #[true, true, true, false, true, false, false, false, false] o2 rfl ?_
          refine Sx.yl (.move rfl) rfl ?_
          exact Sx.reSl (d111010000 ) ⟨rfl, rfl, rfl, rfl, rfl, rfl, rfl, rfl, rfl, rfl, trivial⟩
        ·
          refine Sx.anyOp #[true, true, false, false, true, true, false, false, false] o5 rfl ?_
          refine Sx.callS Fx.call32 rfl (fun W s => rbytes_st (ofF (xs0.take 16)) hx s) rfl (fun r49 _ => ?_)
          refine Sx.rowCase (.head _) hbl.1 (fun b49 c49 hr49 hc49 => ?_)
          subst hr49
          exact Sx.reSl (d110011000 b49 c49) ⟨rfl, rfl, rfl, rfl, rfl, rfl, rfl, rfl, rfl, rfl, trivial⟩
      have d101100000 : Sx.At 77 [(1, .slice p1 n1 c1), (2, .slice p2 n2 c2), (7, .pointer (some ⟨b7, 0, none⟩)), (8, .pointer (some ⟨b8, 0, none⟩)), (9, .bool true), (10, .slice (some ⟨b4, off4, none⟩) (l1 ++ bytesL (ofF (xs0.take 16))).length c4), (44, .slice (some ⟨b4, off4, none⟩) (l1 ++ bytesL (ofF (xs0.take 16))).length c4), (46, .slice p1 n1 c1), (47, strV l1)] H1 w [.box b8 (ckL (ofF (xs0.take 16))) 27, .box b7 (ckL (ofF (xs0.take 16))) 26] (wpAny Tryd.prog .any ops2 Q2 6 #[true, false, true, true, false, false, false, false, false]) := by
        refine Sx.anyStep 1 [4] (Sx.readyAt eo (by kernel_rfl)) ⟨?_, ?_, trivial⟩
        ·
          refine Sx.anyOp #[true, true, true, true, false, false, false, false, false] o1 rfl ?_
          refine Sx.yl (.bytesStr Fx.bytes62 Fx.str9 rfl (l := l1 ++ bytesL (ofF (xs0.take 16))) rfl (.mem hb4 ha4)) rfl ?_
          exact Sx.reSl (d111100000 ) ⟨rfl, rfl, rfl, rfl, rfl, rfl, rfl, rfl, rfl, rfl, trivial⟩
        ·
          refine Sx.anyOp #[true, false, true, true, true, false, false, false, false] o4 rfl ?_
          first
            | refine Sx.yl (.loadW rfl Fx.agg27 (.head _) (ck_length _)) rfl ?_
            | refine Sx.yl (.loadW rfl Fx.agg27 (.tail _ (.head _)) (ck_length _)) rfl ?_
          exact Sx.reSl (d101110000 ) ⟨rfl, rfl, rfl, rfl, rfl, rfl, rfl, rfl, rfl, rfl, trivial⟩
      have d101010000 : Sx.At 77 [(1, .slice p1 n1 c1), (2, .slice p2 n2 c2), (7, .pointer (some ⟨b7, 0, none⟩)), (8, .pointer (some ⟨b8, 0, none⟩)), (9, .bool true), (10, .slice (some ⟨b4, off4, none⟩) (l1 ++ bytesL (ofF (xs0.take 16))).length c4), (44, .slice (some ⟨b4, off4, none⟩) (l1 ++ bytesL (ofF (xs0.take 16))).length c4), (46, .slice p1 n1 c1), (48, .agg (ckL (ofF (xs0.take 16))).toArray)] H1 w [.box b8 (ckL (ofF (xs0.take 16))) 27, .box b7 (ckL (ofF (xs0.take 16))) 26] (wpAny Tryd.prog .any ops2 Q2 6 #[true, false, true, false, true, false, false, false, false]) := by
        refine Sx.anyStep 1 [3, 5] (Sx.readyAt eo (by kernel_rfl)) ⟨?_, ?_, ?_, trivial⟩
        ·
          refine Sx.anyOp #[true, true, true, false, true, false, false, false, false] o1 rfl ?_
          refine Sx.yl (.bytesStr Fx.bytes62 Fx.str9 rfl (l := l1 ++ bytesL (ofF (xs0.take 16))) rfl (.mem hb4 ha4)) rfl ?_
          exact Sx.reSl (d111010000 ) ⟨rfl, rfl, rfl, rfl, rfl, rfl, rfl, rfl, rfl, rfl, trivial⟩
        ·
          refine Sx.anyOp #[true, false, true, true, true, false, false, false, false] o3 rfl ?_
          refine Sx.yl (srcStr hp1 up rfl) rfl ?_
          exact Sx.reSl (d101110000 ) ⟨rfl, rfl, rfl, rfl, rfl, rfl, rfl, rfl, rfl, rfl, trivial⟩
        ·
          refine Sx.anyOp #[true, false, true, false, true, true, false, false, false] o5 rfl ?_
          refine Sx.callS Fx.call32 rfl (fun W s => rbytes_st (ofF (xs0.take 16)) hx s) rfl (fun r49 _ => ?_)
          refine Sx.rowCase (.head _) hbl.1 (fun b49 c49 hr49 hc49 => ?_)
          subst hr49
          exact Sx.reSl (d101011000 b49 c49) ⟨rfl, rfl, rfl, rfl, rfl, rfl, rfl, rfl, rfl, rfl, trivial⟩
      have d100011000 : ∀ (b49 c49 : Nat), Sx.At 77 [(1, .slice p1 n1 c1), (2, .slice p2 n2 c2), (7, .pointer (some ⟨b7, 0, none⟩)), (8, .pointer (some ⟨b8, 0, none⟩)), (9, .bool true), (10, .slice (some ⟨b4, off4, none⟩) (l1 ++ bytesL (ofF (xs0.take 16))).length c4), (44, .slice (some ⟨b4, off4, none⟩) (l1 ++ bytesL (ofF (xs0.take 16))).length c4), (48, .agg (ckL (ofF (xs0.take 16))).toArray), (49, .slice (some ⟨b49, 0, none⟩) (bytesL (ofF (xs0.take 16))).length c49)] H1 w (bytesR (.slice (some ⟨b49, 0, none⟩) (bytesL (ofF (xs0.take 16))).length c49) (bytesL (ofF (xs0.take 16))) :: [.box b8 (ckL (ofF (xs0.take 16))) 27, .box b7 (ckL (ofF (xs0.take 16))) 26]) (wpAny Tryd.prog .any ops2 Q2 6 #[true, false, false, false, true, true, false, false, false]) := by
        intro b49 c49
        refine Sx.anyStep 1 [2, 6] (Sx.readyAt eo (by kernel_rfl)) ⟨?_, ?_, ?_, trivial⟩
        ·
          refine Sx.anyOp #[true, true, false, false, true, true, false, false, false] o1 rfl ?_
          refine Sx.yl (.bytesStr Fx.bytes62 Fx.str9 rfl (l := l1 ++ bytesL (ofF (xs0.take 16))) rfl (.mem hb4 ha4)) rfl ?_
          exact Sx.reSl (d110011000 b49 c49) ⟨rfl, rfl, rfl, rfl, rfl, rfl, rfl, rfl, rfl, rfl, trivial⟩
        ·
          refine Sx.anyOp #[true, false, true, false, true, true, false, false, false] o2 rfl ?_
          refine Sx.yl (.move rfl) rfl ?_
          exact Sx.reSl (d101011000 b49 c49) ⟨rfl, rfl, rfl, rfl, rfl, rfl, rfl, rfl, rfl, rfl, trivial⟩
        ·
          refine Sx.anyOp #[true, false, false, false, true, true, true, false, false] o6 rfl ?_
          refine Sx.yl (.bytesStr Fx.bytes62 Fx.str9 rfl (l := bytesL (ofF (xs0.take 16))) rfl (.row (.head _) (fun j u h => by rw [Nat.zero_add]; exact h))) rfl ?_
          exact Sx.reSl (d100011100 b49 c49) ⟨rfl, rfl, rfl, rfl, rfl, rfl, rfl, rfl, rfl, rfl, trivial⟩
      have d001110000 : Sx.At 77 [(1, .slice p1 n1 c1), (2, .slice p2 n2 c2), (7, .pointer (some ⟨b7, 0, none⟩)), (8, .pointer (some ⟨b8, 0, none⟩)), (9, .bool true), (10, .slice (some ⟨b4, off4, none⟩) (l1 ++ bytesL (ofF (xs0.take 16))).length c4), (46, .slice p1 n1 c1), (47, strV l1), (48, .agg (ckL (ofF (xs0.take 16))).toArray)] H1 w [.box b8 (ckL (ofF (xs0.take 16))) 27, .box b7 (ckL (ofF (xs0.take 16))) 26] (wpAny Tryd.prog .any ops2 Q2 6 #[false, false, true, true, true, false, false, false, false]) := by
        refine Sx.anyStep 0 [5] (Sx.readyAt eo (by kernel_rfl)) ⟨?_, ?_, trivial⟩
        ·
          refine Sx.anyOp #[true, false, true, true, true, false, false, false, false] o0 rfl ?_
          refine Sx.yl (.move rfl) rfl ?_
          exact Sx.reSl (d101110000 ) ⟨rfl, rfl, rfl, rfl, rfl, rfl, rfl, rfl, rfl, rfl, trivial⟩
        ·
          refine Sx.anyOp #[false, false, true, true, true, true, false, false, false] o5 rfl ?_
          refine Sx.callS Fx.call32 rfl (fun W s => rbytes_st (ofF (xs0.take 16)) hx s) rfl (fun r49 _ => ?_)
          refine Sx.rowCase (.head _) hbl.1 (fun b49 c49 hr49 hc49 => ?_)
          subst hr49
          exact Sx.reSl (d001111000 b49 c49) ⟨rfl, rfl, rfl, rfl, rfl, rfl, rfl, rfl, rfl, rfl, trivial⟩
      have d001011000 : ∀ (b49 c49 : Nat), Sx.At 77 [(1, .slice p1 n1 c1), (2, .slice p2 n2 c2), (7, .pointer (some ⟨b7, 0, none⟩)), (8, .pointer (some ⟨b8, 0, none⟩)), (9, .bool true), (10, .slice (some ⟨b4, off4, none⟩) (l1 ++ bytesL (ofF (xs0.take 16))).length c4), (46, .slice p1 n1 c1), (48, .agg (ckL (ofF (xs0.take 16))).toArray), (49, .slice (some ⟨b49, 0, none⟩) (bytesL (ofF (xs0.take 16))).length c49)] H1 w (bytesR (.slice (some ⟨b49, 0, none⟩) (bytesL (ofF (xs0.take 16))).length c49) (bytesL (ofF (xs0.take 16))) :: [.box b8 (ckL (ofF (xs0.take 16))) 27, .box b7 (ckL (ofF (xs0.take 16))) 26]) (wpAny Tryd.prog .any ops2 Q2 6 #[false, false, true, false, true, true, false, false, false]) := by
        intro b49 c49
        refine Sx.anyStep 0 [3, 6] (Sx.readyAt eo (by kernel_rfl)) ⟨?_, ?_, ?_, trivial⟩
        ·
          refine Sx.anyOp #[true, false, true, false, true, true, false, false, false] o0 rfl ?_
          refine Sx.yl (.move rfl) rfl ?_
          exact Sx.reSl (d101011000 b49 c49) ⟨rfl, rfl, rfl, rfl, rfl, rfl, rfl, rfl, rfl, rfl, trivial⟩
        ·
          refine Sx.anyOp #[false, false, true, true, true, true, false, false, false] o3 rfl ?_
          refine Sx.yl (srcStr hp1 up rfl) rfl ?_
          exact Sx.reSl (d001111000 b49 c49) ⟨rfl, rfl, rfl, rfl, rfl, rfl, rfl, rfl, rfl, rfl, trivial⟩
        ·
          refine Sx.anyOp #[false, false, true, false, true, true, true, false, false] o6 rfl ?_
          refine Sx.yl (.bytesStr Fx.bytes62 Fx.str9 rfl (l := bytesL (ofF (xs0.take 16))) rfl (.row (.head _) (fun j u h => by rw [Nat.zero_add]; exact h))) rfl ?_
          exact Sx.reSl (d001011100 b49 c49) ⟨rfl, rfl, rfl, rfl, rfl, rfl, rfl, rfl, rfl, rfl, trivial⟩
      have d000011100 : ∀ (b49 c49 : Nat), Sx.At 77 [(1, .slice p1 n1 c1), (2, .slice p2 n2 c2), (7, .pointer (some ⟨b7, 0, none⟩)), (8, .pointer (some ⟨b8, 0, none⟩)), (9, .bool true), (10, .slice (some ⟨b4, off4, none⟩) (l1 ++ bytesL (ofF (xs0.take 16))).length c4), (48, .agg (ckL (ofF (xs0.take 16))).toArray), (49, .slice (some ⟨b49, 0, none⟩) (bytesL (ofF (xs0.take 16))).length c49), (50, strV (bytesL (ofF (xs0.take 16))))] H1 w (bytesR (.slice (some ⟨b49, 0, none⟩) (bytesL (ofF (xs0.take 16))).length c49) (bytesL (ofF (xs0.take 16))) :: [.box b8 (ckL (ofF (xs0.take 16))) 27, .box b7 (ckL (ofF (xs0.take 16))) 26]) (wpAny Tryd.prog .any ops2 Q2 6 #[false, false, false, false, true, true, true, false, false]) := by
        intro b49 c49
        refine Sx.anyStep 0 [2] (Sx.readyAt eo (by kernel_rfl)) ⟨?_, ?_, trivial⟩
        ·
          refine Sx.anyOp #[true, false, false, false, true, true, true, false, false] o0 rfl ?_
          refine Sx.yl (.move rfl) rfl ?_
          exact Sx.reSl (d100011100 b49 c49) ⟨rfl, rfl, rfl, rfl, rfl, rfl, rfl, rfl, rfl, rfl, trivial⟩
        ·
          refine Sx.anyOp #[false, false, true, false, true, true, true, false, false] o2 rfl ?_
          refine Sx.yl (.move rfl) rfl ?_
          exact Sx.reSl (d001011100 b49 c49) ⟨rfl, rfl, rfl, rfl, rfl, rfl, rfl, rfl, rfl, rfl, trivial⟩
      have d110000000 : Sx.At 77 [(1, .slice p1 n1 c1), (2, .slice p2 n2 c2), (7, .pointer (some ⟨b7, 0, none⟩)), (8, .pointer (some ⟨b8, 0, none⟩)), (9, .bool true), (10, .slice (some ⟨b4, off4, none⟩) (l1 ++ bytesL (ofF (xs0.take 16))).length c4), (44, .slice (some ⟨b4, off4, none⟩) (l1 ++ bytesL (ofF (xs0.take 16))).length c4), (45, strV (l1 ++ bytesL (ofF (xs0.take 16))))] H1 w [.box b8 (ckL (ofF (xs0.take 16))) 27, .box b7 (ckL (ofF (xs0.take 16))) 26] (wpAny Tryd.prog .any ops2 Q2 7 #[true, true, false, false, false, false, false, false, false]) := by
        refine Sx.anyStep 2 [4] (Sx.readyAt eo (by kernel_rfl)) ⟨?_, ?_, trivial⟩
        ·
          refine Sx.anyOp #[true, true, true, false, false, false, false, false, false] o2 rfl ?_
          refine Sx.yl (.move rfl) rfl ?_
          exact Sx.reSl (d111000000 ) ⟨rfl, rfl, rfl, rfl, rfl, rfl, rfl, rfl, rfl, trivial⟩
        ·
          refine Sx.anyOp #[true, true, false, false, true, false, false, false, false] o4 rfl ?_
          first
            | refine Sx.yl (.loadW rfl Fx.agg27 (.head _) (ck_length _)) rfl ?_
            | refine Sx.yl (.loadW rfl Fx.agg27 (.tail _ (.head _)) (ck_length _)) rfl ?_
          exact Sx.reSl (d110010000 ) ⟨rfl, rfl, rfl, rfl, rfl, rfl, rfl, rfl, rfl, trivial⟩
      have d101000000 : Sx.At 77 [(1, .slice p1 n1 c1), (2, .slice p2 n2 c2), (7, .pointer (some ⟨b7, 0, none⟩)), (8, .pointer (some ⟨b8, 0, none⟩)), (9, .bool true), (10, .slice (some ⟨b4, off4, none⟩) (l1 ++ bytesL (ofF (xs0.take 16))).length c4), (44, .slice (some ⟨b4, off4, none⟩) (l1 ++ bytesL (ofF (xs0.take 16))).length c4), (46, .slice p1 n1 c1)] H1 w [.box b8 (ckL (ofF (xs0.take 16))) 27, .box b7 (ckL (ofF (xs0.take 16))) 26] (wpAny Tryd.prog .any ops2 Q2 7 #[true, false, true, false, false, false, false, false, false]) := by
        refine Sx.anyStep 1 [3, 4] (Sx.readyAt eo (by kernel_rfl)) ⟨?_, ?_, ?_, trivial⟩
        ·
          refine Sx.anyOp #[true, true, true, false, false, false, false, false, false] o1 rfl ?_
          refine Sx.yl (.bytesStr Fx.bytes62 Fx.str9 rfl (l := l1 ++ bytesL (ofF (xs0.take 16))) rfl (.mem hb4 ha4)) rfl ?_
          exact Sx.reSl (d111000000 ) ⟨rfl, rfl, rfl, rfl, rfl, rfl, rfl, rfl, rfl, trivial⟩
        ·
          refine Sx.anyOp #[true, false, true, true, false, false, false, false, false] o3 rfl ?_
          refine Sx.yl (srcStr hp1 up rfl) rfl ?_
          exact Sx.reSl (d101100000 ) ⟨rfl, rfl, rfl, rfl, rfl, rfl, rfl, rfl, rfl, trivial⟩
        ·
          refine Sx.anyOp #[true, false, true, false, true, false, false, false, false] o4 rfl ?_
          first
            | refine Sx.yl (.loadW rfl Fx.agg27 (.head _) (ck_length _)) rfl ?_
            | refine Sx.yl (.loadW rfl Fx.agg27 (.tail _ (.head _)) (ck_length _)) rfl ?_
          exact Sx.reSl (d101010000 ) ⟨rfl, rfl, rfl, rfl, rfl, rfl, rfl, rfl, rfl, trivial⟩
      have d100010000 : Sx.At 77 [(1, .slice p1 n1 c1), (2, .slice p2 n2 c2), (7, .pointer (some ⟨b7, 0, none⟩)), (8, .pointer (some ⟨b8, 0, none⟩)), (9, .bool true), (10, .slice (some ⟨b4, off4, none⟩) (l1 ++ bytesL (ofF (xs0.take 16))).length c4), (44, .slice (some ⟨b4, off4, none⟩) (l1 ++ bytesL (ofF (xs0.take 16))).length c4), (48, .agg (ckL (ofF (xs0.take 16))).toArray)] H1 w [.box b8 (ckL (ofF (xs0.take 16))) 27, .box b7 (ckL (ofF (xs0.take 16))) 26] (wpAny Tryd.prog .any ops2 Q2 7 #[true, false, false, false, true, false, false, false, false]) := by
        refine Sx.anyStep 1 [2, 5] (Sx.readyAt eo (by kernel_rfl)) ⟨?_, ?_, ?_, trivial⟩
        ·
          refine Sx.anyOp #[true, true, false, false, true, false, false, false, false] o1 rfl ?_
          refine Sx.yl (.bytesStr Fx.bytes62 Fx.str9 rfl (l := l1 ++ bytesL (ofF (xs0.take 16))) rfl (.mem hb4 ha4)) rfl ?_
          exact Sx.reSl (d110010000 ) ⟨rfl, rfl, rfl, rfl, rfl, rfl, rfl, rfl, rfl, trivial⟩
        ·
          refine Sx.anyOp #[true, false, true, false, true, false, false, false, false] o2 rfl ?_
          refine Sx.yl (.move rfl) rfl ?_
          exact Sx.reSl (d101010000 ) ⟨rfl, rfl, rfl, rfl, rfl, rfl, rfl, rfl, rfl, trivial⟩
        ·
          refine Sx.anyOp #[true, false, false, false, true, true, false, false, false] o5 rfl ?_
          refine Sx.callS Fx.call32 rfl (fun W s => rbytes_st (ofF (xs0.take 16)) hx s) rfl (fun r49 _ => ?_)
          refine Sx.rowCase (.head _) hbl.1 (fun b49 c49 hr49 hc49 => ?_)
          subst hr49
          exact Sx.reSl (d100011000 b49 c49) ⟨rfl, rfl, rfl, rfl, rfl, rfl, rfl, rfl, rfl, trivial⟩
      have d001100000 : Sx.At 77 [(1, .slice p1 n1 c1), (2, .slice p2 n2 c2), (7, .pointer (some ⟨b7, 0, none⟩)), (8, .pointer (some ⟨b8, 0, none⟩)), (9, .bool true), (10, .slice (some ⟨b4, off4, none⟩) (l1 ++ bytesL (ofF (xs0.take 16))).length c4), (46, .slice p1 n1 c1), (47, strV l1)] H1 w [.box b8 (ckL (ofF (xs0.take 16))) 27, .box b7 (ckL (ofF (xs0.take 16))) 26] (wpAny Tryd.prog .any ops2 Q2 7 #[false, false, true, true, false, false, false, false, false]) := by
        refine Sx.anyStep 0 [4] (Sx.readyAt eo (by kernel_rfl)) ⟨?_, ?_, trivial⟩
        ·
          refine Sx.anyOp #[true, false, true, true, false, false, false, false, false] o0 rfl ?_
          refine Sx.yl (.move rfl) rfl ?_
          exact Sx.reSl (d101100000 ) ⟨rfl, rfl, rfl, rfl, rfl, rfl, rfl, rfl, rfl, trivial⟩
        ·
          refine Sx.anyOp #[false, false, true, true, true, false, false, false, false] o4 rfl ?_
          first
            | refine Sx.yl (.loadW rfl Fx.agg27 (.head _) (ck_length _)) rfl ?_
            | refine Sx.yl (.loadW rfl Fx.agg27 (.tail _ (.head _)) (ck_length _)) rfl ?_
          exact Sx.reSl (d001110000 ) ⟨rfl, rfl, rfl, rfl, rfl, rfl, rfl, rfl, rfl, trivial⟩
      have d001010000 : Sx.At 77 [(1, .slice p1 n1 c1), (2, .slice p2 n2 c2), (7, .pointer (some ⟨b7, 0, none⟩)), (8, .pointer (some ⟨b8, 0, none⟩)), (9, .bool true), (10, .slice (some ⟨b4, off4, none⟩) (l1 ++ bytesL (ofF (xs0.take 16))).length c4), (46, .slice p1 n1 c1), (48, .agg (ckL (ofF (xs0.take 16))).toArray)] H1 w [.box b8 (ckL (ofF (xs0.take 16))) 27, .box b7 (ckL (ofF (xs0.take 16))) 26] (wpAny Tryd.prog .any ops2 Q2 7 #[false, false, true, false, true, false, false, false, false]) := by
        refine Sx.anyStep 0 [3, 5] (Sx.readyAt eo (by kernel_rfl)) ⟨?_, ?_, ?_, trivial⟩
        ·
          refine Sx.anyOp #[true, false, true, false, true, false, false, false, false] o0 rfl ?_
          refine Sx.yl (.move rfl) rfl ?_
          exact Sx.reSl (d101010000 ) ⟨rfl, rfl, rfl, rfl, rfl, rfl, rfl, rfl, rfl, trivial⟩
        ·
          refine Sx.anyOp #[false, false, true, true, true, false, false, false, false] o3 rfl ?_
          refine Sx.yl (srcStr hp1 up rfl) rfl ?_
          exact Sx.reSl (d001110000 ) ⟨rfl, rfl, rfl, rfl, rfl, rfl, rfl, rfl, rfl, trivial⟩
        ·
          refine Sx.anyOp #[false, false, true, false, true, true, false, false, false] o5 rfl ?_
          refine Sx.callS Fx.call32 rfl (fun W s => rbytes_st (ofF (xs0.take 16)) hx s) rfl (fun r49 _ => ?_)
          refine Sx.rowCase (.head _) hbl.1 (fun b49 c49 hr49 hc49 => ?_)
          subst hr49
          exact Sx.reSl (d001011000 b49 c49) ⟨rfl, rfl, rfl, rfl, rfl, rfl, rfl, rfl, rfl, trivial⟩
      have d000011000 : ∀ (b49 c49 : Nat), Sx.At 77 [(1, .slice p1 n1 c1), (2, .slice p2 n2 c2), (7, .pointer (some ⟨b7, 0, none⟩)), (8, .pointer (some ⟨b8, 0, none⟩)), (9, .bool true), (10, .slice (some ⟨b4, off4, none⟩) (l1 ++ bytesL (ofF (xs0.take 16))).length c4), (48, .agg (ckL (ofF (xs0.take 16))).toArray), (49, .slice (some ⟨b49, 0, none⟩) (bytesL (ofF (xs0.take 16))).length c49)] H1 w (bytesR (.slice (some ⟨b49, 0, none⟩) (bytesL (ofF (xs0.take 16))).length c49) (bytesL (ofF (xs0.take 16))) :: [.box b8 (ckL (ofF (xs0.take 16))) 27, .box b7 (ckL (ofF (xs0.take 16))) 26]) (wpAny Tryd.prog .any ops2 Q2 7 #[false, false, false, false, true, true, false, false, false]) := by
        intro b49 c49
        refine Sx.anyStep 0 [2, 6] (Sx.readyAt eo (by kernel_rfl)) ⟨?_, ?_, ?_, trivial⟩
        ·
          refine Sx.anyOp #[true, false, false, false, true, true, false, false, false] o0 rfl ?_
          refine Sx.yl (.move rfl) rfl ?_
          exact Sx.reSl (d100011000 b49 c49) ⟨rfl, rfl, rfl, rfl, rfl, rfl, rfl, rfl, rfl, trivial⟩
        ·
          refine Sx.anyOp #[false, false, true, false, true, true, false, false, false] o2 rfl ?_
          refine Sx.yl (.move rfl) rfl ?_
          exact Sx.reSl (d001011000 b49 c49) ⟨rfl, rfl, rfl, rfl, rfl, rfl, rfl, rfl, rfl, trivial⟩
        ·
          refine Sx.anyOp #[false, false, false, false, true, true, true, false, false] o6 rfl ?_
          refine Sx.yl (.bytesStr Fx.bytes62 Fx.str9 rfl (l := bytesL (ofF (xs0.take 16))) rfl (.row (.head _) (fun j u h => by rw [Nat.zero_add]; exact h))) rfl ?_
          exact Sx.reSl (d000011100 b49 c49) ⟨rfl, rfl, rfl, rfl, rfl, rfl, rfl, rfl, rfl, trivial⟩
      have d100000000 : Sx.At 77 [(1, .slice p1 n1 c1), (2, .slice p2 n2 c2), (7, .pointer (some ⟨b7, 0, none⟩)), (8, .pointer (some ⟨b8, 0, none⟩)), (9, .bool true), (10, .slice (some ⟨b4, off4, none⟩) (l1 ++ bytesL (ofF (xs0.take 16))).length c4), (44, .slice (some ⟨b4, off4, none⟩) (l1 ++ bytesL (ofF (xs0.take 16))).length c4)] H1 w [.box b8 (ckL (ofF (xs0.take 16))) 27, .box b7 (ckL (ofF (xs0.take 16))) 26] (wpAny Tryd.prog .any ops2 Q2 8 #[true, false, false, false, false, false, false, false, false]) := by
        refine Sx.anyStep 1 [2, 4] (Sx.readyAt eo (by kernel_rfl)) ⟨?_, ?_, ?_, trivial⟩
        ·
          refine Sx.anyOp #[true, true, false, false, false, false, false, false, false] o1 rfl ?_
          refine Sx.yl (.bytesStr Fx.bytes62 Fx.str9 rfl (l := l1 ++ bytesL (ofF (xs0.take 16))) rfl (.mem hb4 ha4)) rfl ?_
          exact Sx.reSl (d110000000 ) ⟨rfl, rfl, rfl, rfl, rfl, rfl, rfl, rfl, trivial⟩
        ·
          refine Sx.anyOp #[true, false, true, false, false, false, false, false, false] o2 rfl ?_
          refine Sx.yl (.move rfl) rfl ?_
          exact Sx.reSl (d101000000 ) ⟨rfl, rfl, rfl, rfl, rfl, rfl, rfl, rfl, trivial⟩
        ·
          refine Sx.anyOp #[true, false, false, false, true, false, false, false, false] o4 rfl ?_
          first
            | refine Sx.yl (.loadW rfl Fx.agg27 (.head _) (ck_length _)) rfl ?_
            | refine Sx.yl (.loadW rfl Fx.agg27 (.tail _ (.head _)) (ck_length _)) rfl ?_
          exact Sx.reSl (d100010000 ) ⟨rfl, rfl, rfl, rfl, rfl, rfl, rfl, rfl, trivial⟩
      have d001000000 : Sx.At 77 [(1, .slice p1 n1 c1), (2, .slice p2 n2 c2), (7, .pointer (some ⟨b7, 0, none⟩)), (8, .pointer (some ⟨b8, 0, none⟩)), (9, .bool true), (10, .slice (some ⟨b4, off4, none⟩) (l1 ++ bytesL (ofF (xs0.take 16))).length c4), (46, .slice p1 n1 c1)] H1 w [.box b8 (ckL (ofF (xs0.take 16))) 27, .box b7 (ckL (ofF (xs0.take 16))) 26] (wpAny Tryd.prog .any ops2 Q2 8 #[false, false, true, false, false, false, false, false, false]) := by
        refine Sx.anyStep 0 [3, 4] (Sx.readyAt eo (by kernel_rfl)) ⟨?_, ?_, ?_, trivial⟩
        ·
          refine Sx.anyOp #[true, false, true, false, false, false, false, false, false] o0 rfl ?_
          refine Sx.yl (.move rfl) rfl ?_
          exact Sx.reSl (d101000000 ) ⟨rfl, rfl, rfl, rfl, rfl, rfl, rfl, rfl, trivial⟩
        ·
          refine Sx.anyOp #[false, false, true, true, false, false, false, false, false] o3 rfl ?_
          refine Sx.yl (srcStr hp1 up rfl) rfl ?_
          exact Sx.reSl (d001100000 ) ⟨rfl, rfl, rfl, rfl, rfl, rfl, rfl, rfl, trivial⟩
        ·
          refine Sx.anyOp #[false, false, true, false, true, false, false, false, false] o4 rfl ?_
          first
            | refine Sx.yl (.loadW rfl Fx.agg27 (.head _) (ck_length _)) rfl ?_
            | refine Sx.yl (.loadW rfl Fx.agg27 (.tail _ (.head _)) (ck_length _)) rfl ?_
          exact Sx.reSl (d001010000 ) ⟨rfl, rfl, rfl, rfl, rfl, rfl, rfl, rfl, trivial⟩
      have d000010000 : Sx.At 77 [(1, .slice p1 n1 c1), (2, .slice p2 n2 c2), (7, .pointer (some ⟨b7, 0, none⟩)), (8, .pointer (some ⟨b8, 0, none⟩)), (9, .bool true), (10, .slice (some ⟨b4, off4, none⟩) (l1 ++ bytesL (ofF (xs0.take 16))).length c4), (48, .agg (ckL (ofF (xs0.take 16))).toArray)] H1 w [.box b8 (ckL (ofF (xs0.take 16))) 27, .box b7 (ckL (ofF (xs0.take 16))) 26] (wpAny Tryd.prog .any ops2 Q2 8 #[false, false, false, false, true, false, false, false, false]) := by
        refine Sx.anyStep 0 [2, 5] (Sx.readyAt eo (by kernel_rfl)) ⟨?_, ?_, ?_, trivial⟩
        ·
          refine Sx.anyOp #[true, false, false, false, true, false, false, false, false] o0 rfl ?_
          refine Sx.yl (.move rfl) rfl ?_
          exact Sx.reSl (d100010000 ) ⟨rfl, rfl, rfl, rfl, rfl, rfl, rfl, rfl, trivial⟩
        ·
          refine Sx.anyOp #[false, false, true, false, true, false, false, false, false] o2 rfl ?_
          refine Sx.yl (.move rfl) rfl ?_
          exact Sx.reSl (d001010000 ) ⟨rfl, rfl, rfl, rfl, rfl, rfl, rfl, rfl, trivial⟩
        ·
          refine Sx.anyOp #[false, false, false, false, true, true, false, false, false] o5 rfl ?_
          refine Sx.callS Fx.call32 rfl (fun W s => rbytes_st (ofF (xs0.take 16)) hx s) rfl (fun r49 _ => ?_)
          refine Sx.rowCase (.head _) hbl.1 (fun b49 c49 hr49 hc49 => ?_)
          subst hr49
          exact Sx.reSl (d000011000 b49 c49) ⟨rfl, rfl, rfl, rfl, rfl, rfl, rfl, rfl, trivial⟩
      have d000000000 : Sx.At 77 [(1, .slice p1 n1 c1), (2, .slice p2 n2 c2), (7, .pointer (some ⟨b7, 0, none⟩)), (8, .pointer (some ⟨b8, 0, none⟩)), (9, .bool true), (10, .slice (some ⟨b4, off4, none⟩) (l1 ++ bytesL (ofF (xs0.take 16))).length c4)] H1 w [.box b8 (ckL (ofF (xs0.take 16))) 27, .box b7 (ckL (ofF (xs0.take 16))) 26] (wpAny Tryd.prog .any ops2 Q2 9 #[false, false, false, false, false, false, false, false, false]) := by
        refine Sx.anyStep 0 [2, 4] (Sx.readyAt eo (by kernel_rfl)) ⟨?_, ?_, ?_, trivial⟩
        ·
          refine Sx.anyOp #[true, false, false, false, false, false, false, false, false] o0 rfl ?_
          refine Sx.yl (.move rfl) rfl ?_
          exact Sx.reSl (d100000000 ) ⟨rfl, rfl, rfl, rfl, rfl, rfl, rfl, trivial⟩
        ·
          refine Sx.anyOp #[false, false, true, false, false, false, false, false, false] o2 rfl ?_
          refine Sx.yl (.move rfl) rfl ?_
          exact Sx.reSl (d001000000 ) ⟨rfl, rfl, rfl, rfl, rfl, rfl, rfl, trivial⟩
        ·
          refine Sx.anyOp #[false, false, false, false, true, false, false, false, false] o4 rfl ?_
          first
            | refine Sx.yl (.loadW rfl Fx.agg27 (.head _) (ck_length _)) rfl ?_
            | refine Sx.yl (.loadW rfl Fx.agg27 (.tail _ (.head _)) (ck_length _)) rfl ?_
          exact Sx.reSl (d000010000 ) ⟨rfl, rfl, rfl, rfl, rfl, rfl, rfl, trivial⟩
      exact Sx.reSl d000000000 ⟨rfl, rfl, rfl, rfl, rfl, rfl, trivial⟩
end Go.Proofs.YtnmickfdflinpaaDoor
