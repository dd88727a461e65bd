/- Contracts: Of, Entries. -/
import Derived.Test.YtnmickfdflinpaaDoorF4
namespace Go.Proofs.YtnmickfdflinpaaDoor
open Go.RowKit Go.Par Go.Sx
/-- A slice of n one-cell elements, in unchanging memory. -/
def SlAt (H : Hp) (v : Value) (n : Nat) (cs : List Value) : Prop :=
  cs.length = n ∧ ∃ p c, v = .slice p n c ∧ n ≤ c ∧ c ≤ maxLen ∧ (cs = [] ∨ ∃ b off arr t m, p = some (⟨b, off, none⟩ : Addr) ∧ H b = some (.cells arr t m) ∧ ∀ (j : Nat) u, cs[j]? = some u → arr[off + j]? = some u)
theorem SlAt.up {H H' : Hp} {v : Value} {n : Nat} {cs : List Value} (h : SlAt H v n cs) (u : ∀ b o, H b = some o → H' b = some o) : SlAt H' v n cs := by
  obtain ⟨h1, p, c, h2, h3, h4, h5⟩ := h
  refine ⟨h1, p, c, h2, h3, h4, h5.imp id ?_⟩
  rintro ⟨b, off, arr, t, m, e, hb, ha⟩
  exact ⟨b, off, arr, t, m, e, u _ _ hb, ha⟩
theorem freeze {H : Hp} {w0 W : World} {bs : List Res} {e : TypeId} {r : Value} {k : Nat} {xs : List Value} (s : St H w0 bs W) (hm : Res.row e 1 r k xs ∈ bs) : ∃ H', SlAt H' r k xs ∧ Grow H w0 H' W := by
  obtain ⟨h1, h2⟩ := s.own _ hm
  obtain ⟨hl, ⟨rfl, rfl⟩ | ⟨g, cap, cur, rfl, hg, hc, hn, hcm, hcs, htk⟩⟩ := h1
  · refine ⟨H, ⟨by simpa using hl, none, 0, rfl, Nat.le_refl _, Nat.zero_le _, .inl (List.eq_nil_of_length_eq_zero (by simpa using hl))⟩, s.ext, fun _ _ e => e, fun _ e _ => e, s.agr⟩
  · refine ⟨fun q => if q = g then some (.cells cur e (0, 0)) else H q, ⟨by simpa using hl, _, _, rfl, hn, hcm, .inr ⟨g, 0, cur, e, (0, 0), rfl, if_pos rfl, ?_⟩⟩, s.ext, ?_, ?_, ?_⟩
    · intro j u hu
      rw [← htk] at hu
      rw [Nat.zero_add, ← Array.getElem?_toList]
      have hj : j < k * 1 := by
        have := (List.getElem?_eq_some_iff.1 hu).1
        simp at this; omega
      rw [List.getElem?_take_of_lt hj] at hu
      exact hu
    · intro b o hb
      by_cases hbg : b = g
      · subst hbg; rw [h2 b rfl] at hb; cases hb
      · simp only [if_neg hbg]; exact hb
    · intro b hb hlt
      rw [if_neg (by omega)]
      exact hb
    · intro b o hb
      have hb : (if b = g then some (.cells cur e (0, 0)) else H b) = some o := hb
      by_cases hbg : b = g
      · subst hbg; rw [if_pos rfl] at hb; rw [hc, ← Option.some.inj hb]
      · rw [if_neg hbg] at hb; exact s.agr b o hb
def u64L (xs : List Int) : List Value := xs.map (Value.int .u64)
theorem u64L_length (xs : List Int) : (u64L xs).length = xs.length := by simp [u64L]
theorem u64L_one (xs : List Int) : ∀ u ∈ u64L xs, u.oneCell' = true := by
  intro u hu
  obtain ⟨i, _, rfl⟩ := List.mem_map.1 hu
  rfl
def ofF (xs : List Int) : Nat → Int := fun i => xs.getD i 0
theorem ck_congrL {x y : Nat → Int} (h : ∀ i, i < 16 → x i = y i) : ckL x = ckL y := by unfold ckL; rw [ck_congr h]
theorem sets_ck : ∀ (xs : List Int) (k : Nat) (f : Nat → Int), k + xs.length ≤ 16 → setsL (ckL f) k (u64L xs) = ckL (fun i => if k ≤ i ∧ i < k + xs.length then xs.getD (i - k) 0 else f i)
  | [], k, f, _ => by
    show ckL f = _
    exact ck_congrL fun i _ => by simp; intro h1 h2; omega
  | v :: r, k, f, h => by
    show setsL ((ckL f).set k (.int .u64 v)) (k + 1) (u64L r) = _
    rw [ck_set f k v (by simp at h; omega), sets_ck r (k + 1) _ (by simp at h; omega)]
    refine ck_congrL fun i _ => ?_
    simp only [List.length_cons]
    by_cases h1 : i = k
    · subst h1
      rw [if_neg (by omega), if_pos (by omega)]
      simp [upd]
    · by_cases h2 : k + 1 ≤ i ∧ i < k + 1 + r.length
      · rw [if_pos h2, if_pos (by omega), show i - k = (i - (k + 1)) + 1 by omega]
        simp
      · rw [if_neg h2, if_neg (by omega)]
        simp [upd, h1]
theorem sets_of (xs : List Int) (h : xs.length ≤ 16) : setsL (ckL fun _ => 0) 0 (u64L xs) = ckL (ofF xs) := by
  rw [sets_ck xs 0 _ (by omega)]
  refine ck_congrL fun i _ => ?_
  unfold ofF
  by_cases h1 : i < xs.length
  · rw [if_pos (by omega), Nat.sub_zero]
  · rw [if_neg (by omega)]
    simp [List.getD, List.getElem?_eq_none (Nat.le_of_not_lt h1)]
set_option maxRecDepth 100000 in
theorem of_any (H : Hp) (v : Value) (n : Nat) (xs : List Int) (hv : SlAt H v n (u64L xs)) (hl : xs.length ≤ 16) (w : World) (hA : Agr H w) :
    Calls Tryd.prog 27 #[v] w fun e w' => e = .returned (.tuple #[ck (ofF xs), .int .i64 0]) ∧ Ext w w' := by
  obtain ⟨hn, p, c, rfl, hc, hcm, hs⟩ := hv
  rw [u64L_length] at hn
  refine Sx.enter (H := H) Tryd.func27 rfl Tryd.ntmps27 rfl hA ?_
  refine Sx.seq ?_
  refine Sx.region ?_
  refine Sx.cons ?_
  refine Sx.alloc Fx.zero26 rfl (fun b2 => ?_)
  refine Sx.cons ?_
  refine Sx.yl (.assign rfl) rfl ?_
  refine Sx.nil ?_
  refine Sx.thenN ?_
  refine Sx.seq ?_
  refine Sx.seq ?_
  refine Sx.region ?_
  refine Sx.cons ?_
  refine Sx.yl (.move rfl) rfl ?_
  refine Sx.cons ?_
  refine Sx.yl (.lenSl Fx.sl22 rfl) rfl ?_
  refine Sx.cons ?_
  refine Sx.yl (.gtr rfl rfl) rfl ?_
  refine Sx.nil ?_
  refine Sx.thenN ?_
  refine Sx.cond rfl (fun h7 => ?_) (fun h7 => ?_)
  · exact absurd h7 (by simp; omega)
  · try simp only [decide_eq_false_iff_not] at h7
    refine Sx.skip ?_
    refine Sx.thenN ?_
    refine Sx.seq ?_
    refine Sx.region ?_
    refine Sx.cons ?_
    refine Sx.alloc Fx.zero26 rfl (fun b4 => ?_)
    refine Sx.nil ?_
    refine Sx.thenN ?_
    refine Sx.seq ?_
    refine Sx.region ?_
    refine Sx.cons ?_
    refine Sx.yl (.fieldAddr rfl Fx.field26_0) rfl ?_
    refine Sx.cons ?_
    refine Sx.yl (.cutArr Fx.arr24 rfl) rfl ?_
    refine Sx.cons ?_
    refine Sx.yl (.move rfl) rfl ?_
    refine Sx.cons ?_
    first
      | refine Sx.copyBox Fx.sl22 rfl rfl (cs := u64L xs) (.head) (by rw [u64L_length, hn]; exact (Nat.min_eq_left (by omega)).symm) (by rw [u64L_length, ck_length]; omega) (u64L_one xs) (hs.imp id fun ⟨b, o, arr, t, m, e, h1, h2⟩ => ⟨b, o, e, .mem h1 h2⟩) rfl ?_
      | refine Sx.copyBox Fx.sl22 rfl rfl (cs := u64L xs) (.tail (.head)) (by rw [u64L_length, hn]; exact (Nat.min_eq_left (by omega)).symm) (by rw [u64L_length, ck_length]; omega) (u64L_one xs) (hs.imp id fun ⟨b, o, arr, t, m, e, h1, h2⟩ => ⟨b, o, e, .mem h1 h2⟩) rfl ?_
    rw [sets_of xs hl]
    refine Sx.nil ?_
    refine Sx.thenN ?_
    refine Sx.seq ?_
    refine Sx.region ?_
    refine Sx.cons ?_
    first
      | refine Sx.yl (.loadW rfl Fx.agg26 (.head _) (ck_length _)) rfl ?_
      | refine Sx.yl (.loadW rfl Fx.agg26 (.tail _ (.head _)) (ck_length _)) rfl ?_
    refine Sx.cons ?_
    first
      | refine Sx.storeW rfl rfl Fx.size26 (ckL_one _) (.head) rfl ?_
      | refine Sx.storeW rfl rfl Fx.size26 (ckL_one _) (.tail (.head)) rfl ?_
    refine Sx.cons ?_
    refine Sx.yl (.assign rfl) rfl ?_
    refine Sx.nil ?_
    refine Sx.thenN ?_
    refine Sx.ret ?_
    first
      | refine Sx.retN (.inl rfl) rfl (.cons (.cell rfl Fx.agg26 (.head _) (ck_length _)) (.cons (.tmp rfl) .nil)) rfl (fun W s => ⟨rfl, s.ext⟩)
      | refine Sx.retN (.inl rfl) rfl (.cons (.cell rfl Fx.agg26 (.tail _ (.head _)) (ck_length _)) (.cons (.tmp rfl) .nil)) rfl (fun W s => ⟨rfl, s.ext⟩)
set_option maxRecDepth 100000 in
theorem of_big (H : Hp) (p : Option Addr) (n c : Nat) (hl : 16 < n) (w : World) (hA : Agr H w) :
    Calls Tryd.prog 27 #[.slice p n c] w fun e w' => e = .returned (.tuple #[ck (fun _ => 0), .int .i64 1]) ∧ Ext w w' := by
  refine Sx.enter (H := H) Tryd.func27 rfl Tryd.ntmps27 rfl hA ?_
  refine Sx.seq ?_
  refine Sx.region ?_
  refine Sx.cons ?_
  refine Sx.alloc Fx.zero26 rfl (fun b2 => ?_)
  refine Sx.cons ?_
  refine Sx.yl (.assign rfl) rfl ?_
  refine Sx.nil ?_
  refine Sx.thenN ?_
  refine Sx.seq ?_
  refine Sx.seq ?_
  refine Sx.region ?_
  refine Sx.cons ?_
  refine Sx.yl (.move rfl) rfl ?_
  refine Sx.cons ?_
  refine Sx.yl (.lenSl Fx.sl22 rfl) rfl ?_
  refine Sx.cons ?_
  refine Sx.yl (.gtr rfl rfl) rfl ?_
  refine Sx.nil ?_
  refine Sx.thenN ?_
  refine Sx.cond rfl (fun h7 => ?_) (fun h7 => ?_)
  · try simp only [decide_eq_true_eq] at h7
    refine Sx.seq ?_
    refine Sx.region ?_
    refine Sx.cons ?_
    refine Sx.yl (.build rfl Fx.build26) rfl ?_
    refine Sx.cons ?_
    refine Sx.storeW rfl rfl Fx.size26 (ckL_one _) (.head) rfl ?_
    refine Sx.cons ?_
    refine Sx.yl (.assign rfl) rfl ?_
    refine Sx.nil ?_
    refine Sx.thenN ?_
    refine Sx.ret ?_
    refine Sx.thenR ?_
    refine Sx.retN (.inl rfl) rfl (.cons (.cell rfl Fx.agg26 (.head _) (ck_length _)) (.cons (.tmp rfl) .nil)) rfl (fun W s => ⟨rfl, s.ext⟩)
  · exact absurd h7 (by simp; omega)
def preF (xs : List Int) (k : Nat) : Nat → Int := fun i => if i < k then xs.getD i 0 else 0
theorem pre_zero (xs : List Int) : ckL (preF xs 0) = ckL (fun _ => 0) := ck_congrL fun i _ => by simp [preF]
theorem pre_step (xs : List Int) (k : Nat) (h : k < 16) : (ckL (preF xs k)).set k (.int .u64 (xs.getD k 0)) = ckL (preF xs (k + 1)) := by
  rw [ck_set _ _ _ h]
  refine ck_congrL fun i _ => ?_
  unfold upd preF
  by_cases h1 : i = k
  · subst h1; simp
  · by_cases h2 : i < k
    · rw [if_neg h1, if_pos h2, if_pos (by omega)]
    · rw [if_neg h1, if_neg h2, if_neg (by omega)]
theorem pre_all (xs : List Int) {k : Nat} (h : xs.length ≤ k) : ckL (preF xs k) = ckL (ofF xs) := ck_congrL fun i _ => by
  unfold preF ofF
  by_cases h2 : i < k
  · rw [if_pos h2]
  · rw [if_neg h2]; simp [List.getD, List.getElem?_eq_none (show xs.length ≤ i by omega)]
theorem u64L_at (xs : List Int) {k : Nat} (h : k < xs.length) : (u64L xs)[k]? = some (.int .u64 (xs.getD k 0)) := by
  simp [u64L, List.getElem?_map, List.getElem?_eq_getElem h]
set_option maxRecDepth 100000 in
theorem rof_any (H : Hp) (v : Value) (n : Nat) (xs : List Int) (hv : SlAt H v n (u64L xs)) (hl : xs.length ≤ 16) (w : World) (hA : Agr H w) :
    Calls Tryd.prog 28 #[v] w fun e w' => e = .returned (.tuple #[ck (ofF xs), .bool true]) ∧ Ext w w' := by
  obtain ⟨hn, p, c, rfl, hc, hcm, hs⟩ := hv
  rw [u64L_length] at hn
  refine Sx.enter (H := H) Tryd.func28 rfl Tryd.ntmps28 rfl hA ?_
  refine Sx.seq ?_
  refine Sx.region ?_
  refine Sx.cons ?_
  refine Sx.alloc Fx.zero27 rfl (fun b2 => ?_)
  refine Sx.cons ?_
  refine Sx.yl (.assign rfl) rfl ?_
  refine Sx.nil ?_
  refine Sx.thenN ?_
  refine Sx.seq ?_
  refine Sx.region ?_
  refine Sx.cons ?_
  refine Sx.alloc Fx.zero27 rfl (fun b4 => ?_)
  refine Sx.nil ?_
  refine Sx.thenN ?_
  refine Sx.seq ?_
  refine Sx.seq ?_
  refine Sx.region ?_
  refine Sx.cons ?_
  refine Sx.yl (.move rfl) rfl ?_
  refine Sx.cons ?_
  refine Sx.yl (.lenSl Fx.sl22 rfl) rfl ?_
  refine Sx.cons ?_
  refine Sx.yl (.gtr rfl rfl) rfl ?_
  refine Sx.nil ?_
  refine Sx.thenN ?_
  refine Sx.cond rfl (fun h9 => ?_) (fun h9 => ?_)
  · exact absurd h9 (by simp; omega)
  · try simp only [decide_eq_false_iff_not] at h9
    refine Sx.skip ?_
    refine Sx.thenN ?_
    refine Sx.seq ?_
    refine Sx.seq ?_
    refine Sx.region ?_
    refine Sx.cons ?_
    refine Sx.yl (.move rfl) rfl ?_
    refine Sx.cons ?_
    refine Sx.yl (.lenSl Fx.sl22 rfl) rfl ?_
    refine Sx.cons ?_
    refine Sx.yl (.move rfl) rfl ?_
    refine Sx.nil ?_
    refine Sx.thenN ?_
    refine Sx.blk ?_
    -- live at the head, not kept: [3]
    refine Sx.loop (X := Nat) (fun k => [(2, .pointer (some ⟨b2, 0, none⟩)), (4, .pointer (some ⟨b4, 0, none⟩)), (11, .slice p n c), (12, .int .i64 n), (13, .int .i64 k)]) (fun k => H) (fun k => [.box b4 (ckL (preF xs k)) 27, .box b2 (ckL fun _ => 0) 27]) (fun k => k ≤ n) (fun k => n - k) 0 (by omega) ⟨rfl, rfl, rfl, rfl, rfl, trivial⟩ (fun W s => by rw [pre_zero]; exact s) ?_
    intro k hC
    refine Sx.seq ?_
    refine Sx.region ?_
    refine Sx.cons ?_
    refine Sx.yl (.lss rfl rfl) rfl ?_
    refine Sx.nil ?_
    refine Sx.thenN ?_
    refine Sx.seq ?_
    refine Sx.cond rfl (fun h14 => ?_) (fun h14 => ?_)
    · try simp only [decide_eq_true_eq] at h14
      refine Sx.skip ?_
      refine Sx.thenN ?_
      refine Sx.seq ?_
      refine Sx.blk ?_
      refine Sx.seq ?_
      refine Sx.region ?_
      refine Sx.cons ?_
      refine Sx.yl (.move rfl) rfl ?_
      refine Sx.cons ?_
      obtain ⟨b, off, arr, t, m, rfl, hb, ha⟩ := hs.resolve_left (fun e => by have := congrArg List.length e; rw [u64L_length, List.length_nil] at this; omega)
      refine Sx.yl (.indexSl Fx.sl22 rfl rfl rfl (by omega) (q := off + k) (by omega)) rfl ?_
      refine Sx.cons ?_
      refine Sx.yl (.loadH rfl Fx.agg23 hb (ha k _ (u64L_at xs (by omega)))) rfl ?_
      refine Sx.cons ?_
      refine Sx.yl (.assign rfl) rfl ?_
      refine Sx.cons ?_
      refine Sx.yl (.assign rfl) rfl ?_
      refine Sx.nil ?_
      refine Sx.thenN ?_
      refine Sx.region ?_
      refine Sx.cons ?_
      refine Sx.yl (.move rfl) rfl ?_
      refine Sx.cons ?_
      refine Sx.yl (.move rfl) rfl ?_
      refine Sx.cons ?_
      refine Sx.yl (.indexArr Fx.arr27 rfl rfl rfl (by omega) (q := k) (by omega)) rfl ?_
      refine Sx.cons ?_
      first
        | refine Sx.store rfl rfl Fx.size23 rfl (.head) (by rw [ck_length]; omega) (pre_step xs k (by omega)) ?_
        | refine Sx.store rfl rfl Fx.size23 rfl (.tail (.head)) (by rw [ck_length]; omega) (pre_step xs k (by omega)) ?_
      refine Sx.nil ?_
      refine Sx.blkN ?_
      refine Sx.thenN ?_
      refine Sx.region ?_
      refine Sx.cons ?_
      refine Sx.yl (.add rfl rfl (w64 (by omega) (by omega))) rfl ?_
      refine Sx.cons ?_
      refine Sx.yl (.move rfl) rfl ?_
      refine Sx.nil ?_
      refine Sx.thenN ?_
      exact Sx.again (k + 1) ⟨by omega, by omega⟩ ⟨rfl, rfl, rfl, rfl, rfl, trivial⟩ (fun W s => s)
    · try simp only [decide_eq_false_iff_not] at h14
      refine Sx.exit ?_
      refine Sx.thenE ?_
      refine Sx.thenE ?_
      refine Sx.blkE ?_
      refine Sx.thenN ?_
      refine Sx.seq ?_
      refine Sx.region ?_
      refine Sx.cons ?_
      first
        | refine Sx.yl (.loadW rfl Fx.agg27 (.head _) (ck_length _)) rfl ?_
        | refine Sx.yl (.loadW rfl Fx.agg27 (.tail _ (.head _)) (ck_length _)) rfl ?_
      refine Sx.cons ?_
      first
        | refine Sx.storeW rfl rfl Fx.size27 (ckL_one _) (.head) rfl ?_
        | refine Sx.storeW rfl rfl Fx.size27 (ckL_one _) (.tail (.head)) rfl ?_
      refine Sx.cons ?_
      refine Sx.yl (.assign rfl) rfl ?_
      refine Sx.nil ?_
      refine Sx.thenN ?_
      refine Sx.ret ?_
      first
        | refine Sx.retN (.inl rfl) rfl (.cons (.cell rfl Fx.agg27 (.head _) (ck_length _)) (.cons (.tmp rfl) .nil)) rfl (fun W s => ⟨?_, s.ext⟩)
        | refine Sx.retN (.inl rfl) rfl (.cons (.cell rfl Fx.agg27 (.tail _ (.head _)) (ck_length _)) (.cons (.tmp rfl) .nil)) rfl (fun W s => ⟨?_, s.ext⟩)
      try rw [pre_all xs (by omega)]
      try rfl
set_option maxRecDepth 100000 in
theorem rof_big (H : Hp) (p : Option Addr) (n c : Nat) (hl : 16 < n) (w : World) (hA : Agr H w) :
    Calls Tryd.prog 28 #[.slice p n c] w fun e w' => e = .returned (.tuple #[ck (fun _ => 0), .bool false]) ∧ Ext w w' := by
  refine Sx.enter (H := H) Tryd.func28 rfl Tryd.ntmps28 rfl hA ?_
  refine Sx.seq ?_
  refine Sx.region ?_
  refine Sx.cons ?_
  refine Sx.alloc Fx.zero27 rfl (fun b2 => ?_)
  refine Sx.cons ?_
  refine Sx.yl (.assign rfl) rfl ?_
  refine Sx.nil ?_
  refine Sx.thenN ?_
  refine Sx.seq ?_
  refine Sx.region ?_
  refine Sx.cons ?_
  refine Sx.alloc Fx.zero27 rfl (fun b4 => ?_)
  refine Sx.nil ?_
  refine Sx.thenN ?_
  refine Sx.seq ?_
  refine Sx.seq ?_
  refine Sx.region ?_
  refine Sx.cons ?_
  refine Sx.yl (.move rfl) rfl ?_
  refine Sx.cons ?_
  refine Sx.yl (.lenSl Fx.sl22 rfl) rfl ?_
  refine Sx.cons ?_
  refine Sx.yl (.gtr rfl rfl) rfl ?_
  refine Sx.nil ?_
  refine Sx.thenN ?_
  refine Sx.cond rfl (fun h9 => ?_) (fun h9 => ?_)
  · try simp only [decide_eq_true_eq] at h9
    refine Sx.seq ?_
    refine Sx.region ?_
    refine Sx.cons ?_
    first
      | refine Sx.yl (.loadW rfl Fx.agg27 (.head _) (ck_length _)) rfl ?_
      | refine Sx.yl (.loadW rfl Fx.agg27 (.tail _ (.head _)) (ck_length _)) rfl ?_
    refine Sx.cons ?_
    first
      | refine Sx.storeW rfl rfl Fx.size27 (ckL_one _) (.head) rfl ?_
      | refine Sx.storeW rfl rfl Fx.size27 (ckL_one _) (.tail (.head)) rfl ?_
    refine Sx.cons ?_
    refine Sx.yl (.assign rfl) rfl ?_
    refine Sx.nil ?_
    refine Sx.thenN ?_
    refine Sx.ret ?_
    refine Sx.thenR ?_
    first
      | refine Sx.retN (.inl rfl) rfl (.cons (.cell rfl Fx.agg27 (.head _) (ck_length _)) (.cons (.tmp rfl) .nil)) rfl (fun W s => ⟨?_, s.ext⟩)
      | refine Sx.retN (.inl rfl) rfl (.cons (.cell rfl Fx.agg27 (.tail _ (.head _)) (ck_length _)) (.cons (.tmp rfl) .nil)) rfl (fun W s => ⟨?_, s.ext⟩)
    try rw [pre_all xs (by omega)]
    try rfl
  · exact absurd h9 (by simp; omega)
def entL (x : Nat → Int) : List Int := (List.range (lenK x 16)).map x
theorem entL_length (x : Nat → Int) : (entL x).length = lenK x 16 := by simp [entL]
theorem entL_get (x : Nat → Int) {k : Nat} (h : k < lenK x 16) : (entL x).getD k 0 = x k := by simp [entL, List.getD, h]
set_option maxRecDepth 100000 in
theorem entries_any (x : Nat → Int) (H : Hp) (w : World) (hA : Agr H w) :
    Calls Tryd.prog 22 #[ck x] w fun e w' => ∃ v H', SlAt H' v (lenK x 16) (u64L (entL x)) ∧ e = .returned v ∧ Grow H w H' w' := by
  have hlen := lenK_le x 16
  refine Sx.enter (H := H) Tryd.func22 rfl Tryd.ntmps22 rfl hA ?_
  refine Sx.seq ?_
  refine Sx.region ?_
  refine Sx.cons ?_
  refine Sx.box (l := ckL x) rfl rfl rfl (fun b1 => ?_)
  refine Sx.cons ?_
  refine Sx.yl (.assign rfl) rfl ?_
  refine Sx.nil ?_
  refine Sx.thenN ?_
  refine Sx.seq ?_
  refine Sx.region ?_
  refine Sx.cons ?_
  refine Sx.yl (.fieldAddr rfl Fx.field26_0) rfl ?_
  refine Sx.cons ?_
  refine Sx.yl (.loadW rfl Fx.agg26 (.head _) (ck_length _)) rfl ?_
  refine Sx.cons ?_
  refine Sx.yl (.call Fx.call33 rfl (fun W s => length_any x W)) rfl ?_
  refine Sx.cons ?_
  refine Sx.yl (.cutArrHi Fx.arr24 rfl rfl rfl (by omega)) rfl ?_
  refine Sx.cons ?_
  refine Sx.row0 23 1 ?_
  refine Sx.append (news := u64L (entL x)) Fx.row22 rfl (fun _ => .head) rfl (.box (.tail _ (.head _)) ?hsrc) ?hlen (u64L_one _) (by simp [maxLen]; omega) (by omega) rfl (fun r hr => ?_)
  case hsrc => intro j u hu; have hj : j < lenK x 16 := by have := (List.getElem?_eq_some_iff.1 hu).1; rwa [u64L_length, entL_length] at this
               rw [u64L_at _ (by rw [entL_length]; exact hj), entL_get x hj] at hu; rw [← hu]; simpa using ck_at x (k := j) (by omega)
  case hlen => rw [u64L_length, entL_length]; omega
  refine Sx.cons ?_
  refine Sx.yl (.assign rfl) rfl ?_
  refine Sx.nil ?_
  refine Sx.thenN ?_
  refine Sx.ret ?_
  refine Sx.ret1 (.inl rfl) rfl (.tmp rfl) (fun W s => ?_)
  obtain ⟨H1, h1, h2⟩ := freeze s (.head _)
  rw [Nat.zero_add, List.nil_append] at h1
  exact ⟨r, H1, h1, rfl, h2⟩
end Go.Proofs.YtnmickfdflinpaaDoor
