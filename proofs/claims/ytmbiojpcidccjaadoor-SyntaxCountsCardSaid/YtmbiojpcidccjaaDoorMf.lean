/- Texts of the proof, one behind the other. -/
import Derived.Test.YtmbiojpcidccjaaDoorMe
/- Contracts: lines, Join, disk. -/
namespace Go.Proofs.YtmbiojpcidccjaaDoor
open Go.RowKit Go.Par Go.Sx
theorem lineT_len (n : Nat) (l : List Str) : (lineT n l).length = 2 * n + l.flatten.length + 1 := by simp only [lineT, List.length_append, spT_len, List.length_cons, List.length_nil]
set_option maxRecDepth 100000 in
theorem line_w {H : Hp} {w0 W : World} {bs : List Res} {b : Nat} {a : Option Addr} {r : Value} {ind : Nat} {t : Str} {bp : Nat} {parts : List Str} (ha : (a = none ∨ a = some ⟨b, 0, none⟩)) (hp : parts.length ≤ 1000) (hl : t.length + (lineT ind parts).length ≤ 100000000000000) (s : St H w0 (.box b [.pointer a, r, .int .i64 (ind : Nat)] 112 :: .row 5 1 r (t).length ((t).map byteV) :: .box bp (parts.map strV) 9 :: bs) W) :
    Calls Tryd.prog 42 #[.pointer (some ⟨b, 0, none⟩), .slice (some ⟨bp, 0, none⟩) parts.length parts.length] W fun e W' => ∃ r', True ∧ e = .returned (.tuple #[]) ∧ St H w0 (.box b [.pointer (some ⟨b, 0, none⟩), r', .int .i64 (ind : Nat)] 112 :: .row 5 1 r' (t ++ lineT ind parts).length ((t ++ lineT ind parts).map byteV) :: .box bp (parts.map strV) 9 :: bs) W' :=
  line_st s ha hp (by rw [lineT_len] at hl; omega)
theorem join_W (W : World) (b o c : Nat) (xs : List Str) (h : ∀ (j : Nat) x, xs[j]? = some x → W.cell? ⟨b, o + j, none⟩ = some (strV x)) (hb : b < W.heap.size) (hN : xs.length ≤ 140737488355328) (hc : xs.length ≤ c) (hl : (joinT xs).length ≤ 140737488355328) :
    Calls Tryd.prog 82 #[.slice (some ⟨b, o, none⟩) xs.length c, strV [44, 32]] W fun e w' => e = .returned (strV (joinT xs)) ∧ Ext W w' := by
  have e1 : ((xs.map fun l => (⟨l.toArray⟩ : ByteArray)).map (·.data.toList)) = xs := by simp [Function.comp_def]
  have h2 := Tryd.strings_Join b o c (xs.map fun l => (⟨l.toArray⟩ : ByteArray)) ⟨#[44, 32]⟩ W (fun j x e => by
    rw [List.getElem?_map] at e
    cases e2 : xs[j]? with
    | none => rw [e2] at e; cases e
    | some y => rw [e2] at e; cases e; exact h j y e2) hb (by simpa using hN) (by simpa using hc) (by rw [e1]; exact hl)
  rw [e1, List.length_map] at h2
  exact h2.mono fun e w' ⟨a, k⟩ => ⟨a, Ext.of_below k⟩
theorem join_own {H : Hp} {w0 W : World} {bs : List Res} {b : Nat} {T : TypeId} (xs : List Str) {n : Nat} (hn : xs.length = n) (s : St H w0 bs W) (hm : Res.box b (xs.map strV) T ∈ bs) (hN : xs.length ≤ 1000) (hl : (joinT xs).length ≤ 140737488355328) :
    Calls Tryd.prog 82 #[.slice (some ⟨b, 0, none⟩) n n, strV [44, 32]] W fun e w' => e = .returned (strV (joinT xs)) ∧ Ext W w' := by
  subst hn
  exact join_W W b 0 xs.length xs (fun j x e => (s.cell hm (by rw [Nat.zero_add, List.getElem?_map, e]; rfl)).1) ((s.own _ hm).1.lt rfl).2 (by omega) (Nat.le_refl _) hl
theorem join_own1 {H : Hp} {w0 W : World} {bs : List Res} {b : Nat} {T : TypeId} (xs : List Str) {n : Nat} (hn : xs.length = n) (s : St H w0 bs W) (hm : Res.box b (xs.map strV) T ∈ bs) (hN : xs.length ≤ 1000) (hl : (joinT (xs.drop 1)).length ≤ 140737488355328) :
    Calls Tryd.prog 82 #[.slice (some (if n = 1 then ⟨b, 0, none⟩ else ⟨b, 0 + 1 * 1, none⟩)) (n - 1) (n - 1), strV [44, 32]] W fun e w' => e = .returned (strV (joinT (xs.drop 1))) ∧ Ext W w' := by
  subst hn
  have e : (some (if xs.length = 1 then (⟨b, 0, none⟩ : Addr) else ⟨b, 0 + 1 * 1, none⟩)) = some ⟨b, if xs.length = 1 then 0 else 1, none⟩ := by split <;> rfl
  have h := join_W W b (if xs.length = 1 then 0 else 1) (xs.length - 1) (xs.drop 1) (fun j x e => (s.cell hm (by
    rw [List.getElem?_drop] at e
    have h1 : 1 + j < xs.length := (List.getElem?_eq_some_iff.1 e).1
    rw [if_neg (by omega), List.getElem?_map, e]; rfl)).1) ((s.own _ hm).1.lt rfl).2 (by simp; omega) (by simp) hl
  rw [List.length_drop] at h
  rw [e]; exact h
theorem strs_at {es : List Str} {i : Nat} (h : i < es.length) : (es.map strV)[i]? = some (strV (es.getD i [])) := by simp [h]
/-- The contract of body at a list of statements, and of statement. -/
def BodyOf (H : Hp) (x : List Sm) : Prop := ∀ (p : Option Addr) (n c : Nat) (w0 W : World) (bs : List Res) (b : Nat) (a : Option Addr) (r : Value) (ind : Nat) (t : Str), Rep H (.seq 6 (x.map (dSm .u8))) [.slice p n c] → Sm.alls tokS x = true → (a = none ∨ a = some ⟨b, 0, none⟩) → t.length + (Sm.texts (ind + 1) x).length ≤ 10000000000000 → ind ≤ 10000000000000 → St H w0 (.box b [.pointer a, r, .int .i64 (ind : Nat)] 112 :: .row 5 1 r (t).length ((t).map byteV) :: bs) W →
  Calls Tryd.prog 83 #[.pointer (some ⟨b, 0, none⟩), .slice p n c] W fun e W' => ∃ z : Option Addr × Value, (z.1 = none ∨ z.1 = some ⟨b, 0, none⟩) ∧ e = .returned (.tuple #[]) ∧ St H w0 (.box b [.pointer z.1, z.2, .int .i64 (ind : Nat)] 112 :: .row 5 1 z.2 (t ++ Sm.texts (ind + 1) x).length ((t ++ Sm.texts (ind + 1) x).map byteV) :: bs) W'
def StmOf (H : Hp) (x : Sm) : Prop := ∀ (cs : List Value) (w0 W : World) (bs : List Res) (b : Nat) (a : Option Addr) (r : Value) (ind : Nat) (t : Str), Rep H (dSm .u8 x) cs → Sm.all tokS x = true → (a = none ∨ a = some ⟨b, 0, none⟩) → t.length + (Sm.text ind x).length ≤ 10000000000000 → ind ≤ 10000000000001 → St H w0 (.box b [.pointer a, r, .int .i64 (ind : Nat)] 112 :: .row 5 1 r (t).length ((t).map byteV) :: bs) W →
  Calls Tryd.prog 100 #[.pointer (some ⟨b, 0, none⟩), .agg cs.toArray] W fun e W' => ∃ z : Option Addr × Value, (z.1 = none ∨ z.1 = some ⟨b, 0, none⟩) ∧ e = .returned (.tuple #[]) ∧ St H w0 (.box b [.pointer z.1, z.2, .int .i64 (ind : Nat)] 112 :: .row 5 1 z.2 (t ++ Sm.text ind x).length ((t ++ Sm.text ind x).map byteV) :: bs) W'
set_option maxRecDepth 100000 in
theorem disk_any (H : Hp) (el : List Sm) (hel : BodyOf H el) (first : Str) (p : Option Addr) (c : Nat) (w0 W : World) (bs : List Res) (b : Nat) (a : Option Addr) (r : Value) (ind : Nat) (t : Str) (hs : Rep H (.seq 6 (el.map (dSm .u8))) [.slice p el.length c]) (hf : Sm.alls tokS el = true) (ha : (a = none ∨ a = some ⟨b, 0, none⟩)) (hl : t.length + (diskT ind first (decide (el.length = 0)) (Sm.texts (ind + 1) el)).length ≤ 10000000000000) (hi : ind ≤ 10000000000000) (s : St H w0 (.box b [.pointer a, r, .int .i64 (ind : Nat)] 112 :: .row 5 1 r (t).length ((t).map byteV) :: bs) W) :
    Calls Tryd.prog 116 #[.pointer (some ⟨b, 0, none⟩), strV first, .slice p el.length c] W fun e W' => ∃ z : Option Addr × Value, (z.1 = none ∨ z.1 = some ⟨b, 0, none⟩) ∧ e = .returned (.tuple #[]) ∧ St H w0 (.box b [.pointer z.1, z.2, .int .i64 (ind : Nat)] 112 :: .row 5 1 z.2 (t ++ diskT ind first (decide (el.length = 0)) (Sm.texts (ind + 1) el)).length ((t ++ diskT ind first (decide (el.length = 0)) (Sm.texts (ind + 1) el)).map byteV) :: bs) W' := by
  have hcap := hs.cap
  refine Sx.enterS Tryd.func116 rfl Tryd.ntmps116 rfl s ?_
  refine .sq <| .sq <| .rg <| .m rfl rfl <| .yv (.lenSl Fx.sl60 rfl) rfl <| .yv (.eql rfl rfl) rfl <| .nl <| .tN <| .cd rfl (fun h8 => ?_) (fun h8 => ?_)
  · try simp only [decide_eq_true_eq] at h8
    have q : el.length = 0 := by omega
    rw [diskT, if_pos (by simpa using q)] at hl
    refine .sq <| .rg <| .m rfl rfl <| .m rfl rfl <| .bl rfl (Fx.bsl56_2 _ _) rfl fun b11 => .cs (X := Value) Fx.call42 rfl (fun W s => line_w (parts := [first, [59]]) ha (Nat.le_of_ble_eq_true rfl) (by (try simp only [List.length_append]); omega) (s.pickT (hd := [_, _, _]) (tl := bs) (hd' := [_, _, _]) [1, 2, 0] rfl rfl)) rfl fun r12 _ => .nl <|
      .tN <| .rt <| .tR <| ?_
    exact Sx.retN (.inl rfl) rfl .nil rfl fun W s => ⟨(_, _), (.inr rfl), rfl, by have s2 := (s.pickT (hd := [_, _, _]) (tl := bs) (hd' := [_, _]) [0, 1] rfl rfl); (first | rw [diskT, if_pos (by simpa using q)] | rw [diskT, if_neg (by simpa using q)]); (try simp only [List.append_assoc] at s2 ⊢); (try simp only [List.cons_append] at s2 ⊢); (try simp only [List.nil_append] at s2 ⊢); (try simp only [List.append_nil] at s2 ⊢); exact s2⟩
  · try simp only [decide_eq_false_iff_not] at h8
    have q : ¬ el.length = 0 := by omega
    rw [diskT, if_neg (by simpa using q)] at hl
    simp only [List.length_append] at hl
    have hq := lineT_len ind [[125]]
    refine .sk <| .tN <| .sq <| .rg <| .m rfl rfl <| .m rfl rfl <| .bl rfl (Fx.bsl56_2 _ _) rfl fun b15 => .cs (X := Value) Fx.call42 rfl (fun W s => line_w (parts := [first, [32, 101, 108, 115, 101, 32, 123]]) ha (Nat.le_of_ble_eq_true rfl) (by (try simp only [List.length_append]); omega) (s.pickT (hd := [_, _, _]) (tl := bs) (hd' := [_, _, _]) [1, 2, 0] rfl rfl)) rfl fun r16 _ => .nl <|
      .tN <| .sq <| .rg <| .m rfl rfl <| .m rfl rfl <| .cs (X := Option Addr × Value) Fx.call83 rfl (fun W s => hel _ _ _ _ _ _ _ _ _ _ _ hs hf (.inr rfl) (by (try simp only [List.length_append]); omega) (by omega) (s.pickT (hd := [_, _, _]) (tl := bs) (hd' := [_, _]) [0, 1] rfl rfl)) rfl fun z19 hz19 => .nl <|
      .tN <| .rg <| .m rfl rfl <| .bl rfl (Fx.bsl56_1 _) rfl fun b21 => .cs (X := Value) Fx.call42 rfl (fun W s => line_w (parts := [[125]]) hz19 (Nat.le_of_ble_eq_true rfl) (by (try simp only [List.length_append]); omega) (s.pickT (hd := [_, _, _]) (tl := bs) (hd' := [_, _, _]) [1, 2, 0] rfl rfl)) rfl fun r22 _ => .nl <|
      ?_
    exact Sx.retN (.inr rfl) rfl .nil rfl fun W s => ⟨(_, _), (.inr rfl), rfl, by have s2 := (s.pickT (hd := [_, _, _]) (tl := bs) (hd' := [_, _]) [0, 1] rfl rfl); (first | rw [diskT, if_pos (by simpa using q)] | rw [diskT, if_neg (by simpa using q)]); (try simp only [List.append_assoc] at s2 ⊢); (try simp only [List.cons_append] at s2 ⊢); (try simp only [List.nil_append] at s2 ⊢); (try simp only [List.append_nil] at s2 ⊢); exact s2⟩
end Go.Proofs.YtmbiojpcidccjaaDoor
/- Contracts: statement. -/
namespace Go.Proofs.YtmbiojpcidccjaaDoor
open Go.RowKit Go.Par Go.Sx
theorem set_fill {A : List Str} {n k : Nat} (hn : A.length = n) (hk : k < n) (v : Value) (hv : v = strV A[k]) : ((A.take k).map strV ++ List.replicate (n - k) (strV [])).set k v = (A.take (k + 1)).map strV ++ List.replicate (n - (k + 1)) (strV []) := by
  have e1 : ((A.take k).map strV).length = k := by rw [List.length_map, List.length_take]; omega
  rw [List.set_append_right _ _ (by rw [e1]; exact Nat.le_refl _), e1, Nat.sub_self]
  obtain ⟨m, hm⟩ : ∃ m, n - k = m + 1 := ⟨n - k - 1, by omega⟩
  rw [hm, List.replicate_succ, List.set_cons_zero, take_snoc (by omega), List.map_append, show n - (k + 1) = m by omega, hv]
  simp
theorem fill_all (A : List Str) (n : Nat) (hn : A.length = n) : (A.take n).map strV ++ List.replicate (n - n) (strV []) = A.map strV := by
  rw [← hn, List.take_length, Nat.sub_self, List.replicate_zero, List.append_nil]
theorem diskT_len (n : Nat) (first : Str) (q : Bool) (E : Str) : first.length ≤ (diskT n first q E).length ∧ 2 * n ≤ (diskT n first q E).length := by
  unfold diskT
  have h1 := lineT_len n [first, [59]]
  have h2 := lineT_len n [first, [32, 101, 108, 115, 101, 32, 123]]
  simp only [List.flatten_cons, List.length_append] at h1 h2
  split <;> (try simp only [List.length_append]) <;> omega
theorem frm_len {kd : UInt8} {nm hd : Str} {ex : List Ex} {th el : List Sm} (h : frmS (.mk kd nm hd ex th el) = true) : okKd kd = true ∧ (formOf kd).lo ≤ ex.length ∧ ex.length ≤ (formOf kd).hi ∧ Ex.alls frmE ex = true := by
  simp only [frmS, Bool.and_eq_true, decide_eq_true_eq] at h
  exact ⟨h.1.1.1.1.1.1.1, h.1.1.1.1.1.1.2, h.1.1.1.1.1.2, h.2⟩
theorem form_hi (kd : UInt8) : (formOf kd).hi ≤ 5 := by
  unfold formOf
  split
  · rename_i h
    simp only [okKd, Bool.and_eq_true, decide_eq_true_eq] at h
    have key : ∀ i ∈ List.range 11, (forms.getD i ⟨false, false, 0, 0, false, false⟩).hi ≤ 5 := by decide
    exact key _ (List.mem_range.2 (by omega))
  · simp
set_option maxRecDepth 100000 in
theorem statement_any (H : Hp) (G : Gl H) (g : Gt H) (x : Sm) (hth : BodyOf H x.th) (hel : BodyOf H x.el) : StmOf H x := by
  obtain ⟨kd, nm, hd, ex, th, el⟩ := x
  intro cs w0 W bs b a r ind t h hf ha hl hi s
  simp only [Sm.th, Sm.el] at hth hel
  obtain ⟨p, c, p1, c1, p2, c2, rfl, hs, hs1, hs2, hn1, hn2⟩ := sm_open h
  rw [sall_mk, Bool.and_eq_true, Bool.and_eq_true] at hf
  obtain ⟨⟨hf1, hf2⟩, hf3⟩ := hf
  rw [tokS, Bool.and_eq_true] at hf1
  obtain ⟨hfr0, hok2⟩ := hf1
  have hfr := frm_len hfr0
  have hhi := form_hi kd
  obtain ⟨hokd, _, _, hfx⟩ := id hfr
  have hx5 : ex.length ≤ 5 := by omega
  have hcap := hs.cap
  have hcap1 := hs1.cap
  have hcap2 := hs2.cap
  rw [stext_mk] at hl
  refine Sx.enterS Tryd.func100 rfl Tryd.ntmps100 rfl s ?_
  refine .sq <| .rg <| .bx rfl rfl rfl fun b3 => .nl <| .tN <| .sq <| .rg <| .yv (.fieldAddr rfl Fx.field73_3) rfl <| .yv (.load rfl Fx.agg29 (.head _) rfl) rfl <|
    .yv (.lenSl Fx.sl29 rfl) rfl <| .mk Fx.row56 Fx.zero9 rfl rfl rfl rfl (by omega) (by omega) rfl fun b10 => .a rfl rfl <| .nl <| .tN <| .sq <| .sq <| .rg <| .yv (.fieldAddr rfl Fx.field73_3) rfl <|
    .yv (.load rfl Fx.agg29 (.tail _ <| .head _) rfl) rfl <| .yv (.lenSl Fx.sl29 rfl) rfl <| .m rfl rfl <| .nl <| .tN <| .bk <| .lp (X := Nat) [(0, _), (3, _), (4, _), (12, _), (13, _)] ⟨rfl, rfl, rfl, rfl, rfl, trivial⟩ (_ :: _ :: _ :: bs) (fun k => [(14, .int .i64 (k : Nat))]) (fun k => H) (fun k => [.box b10 (((ex.map Ex.text).take k).map strV ++ List.replicate (ex.length - k) (strV [])) 9]) (fun k => k ≤ ex.length) (fun k => ex.length - k) 0 (fun _ s => s) ⟨rfl, trivial⟩ (by omega) fun k hC => ?_
  refine .sq <| .rg <| .yv (.lss rfl rfl) rfl <| .nl <| .tN <| .sq <| .cd rfl (fun h15 => ?_) (fun h15 => ?_)
  · try simp only [decide_eq_true_eq] at h15
    have hk : k < ex.length := by omega
    obtain ⟨bE, oE, cE, hpE, rE, lE, mE⟩ := hs.elem (map_at hk)
    cases hpE
    have hd1 := lall_at hk hok2
    simp only [decide_eq_true_eq] at hd1
    have hf1 := lalls_at hk hfx
    exact .sk <| .tN <| .sq <| .bk <| .sq <| .rg <| .m rfl rfl <| .yv (.indexSl Fx.sl29 rfl rfl rfl (by omega) (q := oE + k * 4) rfl) rfl <| .yv (.loadMW rfl Fx.agg31 mE lE) rfl <|
      .al Fx.zero31 rfl fun b6 => .a rfl rfl <| .sV .head rfl rfl Fx.size31 lE rE.one rfl <| .nl <| .tN <| .rg <| .m rfl rfl <| .m rfl rfl <| .yv (.loadW rfl Fx.agg31 (.head _) lE) rfl <|
      .yv (.call Fx.call35 rfl (fun W s => text_any H G g _ cE W rE hf1 hd1 s.agr)) rfl <| .yv (.indexSl Fx.sl56 rfl rfl rfl (by omega) (q := k) (by omega)) rfl <| .st (.tail <|
      .head) rfl rfl Fx.size9 rfl (by simp; omega) (set_fill (by simp) hk _ (by simp)) <| .nl <| .bN <| .tN <| .rg <| .yv (.add rfl rfl (w64 (by omega) (by omega))) rfl <|
      .m rfl rfl <| .nl <| .tN <| .ag (k + 1) ⟨rfl, trivial⟩ ⟨rfl, rfl, rfl, rfl, rfl, trivial⟩ (fun _ s => s.drop) (by omega) (by omega)
  · try simp only [decide_eq_false_iff_not] at h15
    obtain rfl : k = ex.length := by omega
    rw [fill_all (ex.map Ex.text) ex.length (by simp)]
    refine .ex <| .tE <| .tE <| .bE <| .tN <| .sq <| .rg <| .yv (.fieldAddr rfl Fx.field73_0) rfl <| .yv (.load rfl Fx.agg70 (.tail _ <| .head _) rfl) rfl <| .nl <|
      .tN <| .bk <| .sq <| .rg <| .yv (.eql rfl rfl) rfl <| .a rfl rfl <| .nl <| .tN <| .cd rfl (fun h27 => ?_) (fun h27 => ?_)
    · try simp only [decide_eq_true_eq] at h27
      have e1 : kd = 1 := UInt8.toNat_inj.1 (by show kd.toNat = 1; omega)
      have hlo : 1 ≤ ex.length := by have h5 := hfr.2.1; rw [e1] at h5; exact Nat.le_trans (by decide) h5
      rw [stT, if_pos e1] at hl
      try simp only [List.length_append] at hl
      refine .fl (trip := [(_, _, _), (_, _, _), (_, _, _), (_, _, _), (_, _, _), (_, _, _), (_, _, _)]) 7 [(0, 0), (1, 0), (2, 0), (3, 0), (4, 0), (5, 0), (6, 1)] (by kernel_rfl) (by kernel_rfl) rfl <|
        .m rfl rfl <| .yv (.fieldAddr rfl Fx.field73_1) rfl <| .yv (.load rfl Fx.agg9 (.tail _ <| .head _) rfl) rfl <| .m rfl rfl <| .yv (.indexSl Fx.sl56 rfl rfl (i := 0) rfl (by omega) (q := 0) rfl) rfl <|
        .yv (.load (v := strV ((ex.map Ex.text).getD 0 [])) rfl Fx.agg9 (.head _) (strs_at (by rw [List.length_map]; omega))) rfl <| .bl rfl (Fx.bsl56_4 _ _ _ _) rfl fun b35 => .fn (tl := [_]) rfl <|
        .cs (X := Value) Fx.call42 rfl (fun W s => line_w (parts := [nm, [32, 61, 32], (ex.map Ex.text).getD 0 [], [59]]) ha (Nat.le_of_ble_eq_true rfl) (by (try simp only [List.length_append]); omega) (s.pickT (hd := [_, _, _, _, _]) (tl := bs) (hd' := [_, _, _, _, _]) [3, 4, 0, 1, 2] rfl rfl)) rfl fun r36 _ => .nl <|
        .bN <| ?_
      exact Sx.retN (.inr rfl) rfl .nil rfl fun W s => ⟨(_, _), (.inr rfl), rfl, by have s2 := (s.pickT (hd := [_, _, _, _, _]) (tl := bs) (hd' := [_, _]) [0, 1] rfl rfl); (first | rw [stext_mk, stT, if_pos e1] | rw [stext_mk, stT, if_neg n1, if_pos e2] | rw [stext_mk, stT, if_neg n1, if_neg n2, if_pos e3] | rw [stext_mk, stT, if_neg n1, if_neg n2, if_neg n3, if_pos e4, if_neg (by simpa using q)] | rw [stext_mk, stT, if_neg n1, if_neg n2, if_neg n3, if_pos e4, if_pos (by simpa using q)] | rw [stext_mk, stT, if_neg n1, if_neg n2, if_neg n3, if_neg n4, if_pos e5] | rw [stext_mk, stT, if_neg n1, if_neg n2, if_neg n3, if_neg n4, if_neg n5, if_pos e6] | rw [stext_mk, stT, if_neg n1, if_neg n2, if_neg n3, if_neg n4, if_neg n5, if_neg n6, if_pos e7] | rw [stext_mk, stT, if_neg n1, if_neg n2, if_neg n3, if_neg n4, if_neg n5, if_neg n6, if_neg n7, if_pos e8] | rw [stext_mk, stT, if_neg n1, if_neg n2, if_neg n3, if_neg n4, if_neg n5, if_neg n6, if_neg n7, if_neg n8, if_pos e9] | rw [stext_mk, stT, if_neg n1, if_neg n2, if_neg n3, if_neg n4, if_neg n5, if_neg n6, if_neg n7, if_neg n8, if_neg n9, if_pos e10]); (try simp only [List.append_assoc] at s2 ⊢); (try simp only [List.cons_append] at s2 ⊢); (try simp only [List.nil_append] at s2 ⊢); (try simp only [List.append_nil] at s2 ⊢); exact s2⟩
    · try simp only [decide_eq_false_iff_not] at h27
      have n1 : ¬ kd = 1 := fun e => h27 (by rw [e]; rfl)
      refine .sq <| .rg <| .yv (.eql rfl rfl) rfl <| .a rfl rfl <| .nl <| .tN <| .cd rfl (fun h37 => ?_) (fun h37 => ?_)
      · try simp only [decide_eq_true_eq] at h37
        have e2 : kd = 2 := UInt8.toNat_inj.1 (by show kd.toNat = 2; omega)
        have hlo : 2 ≤ ex.length := by have h5 := hfr.2.1; rw [e2] at h5; exact Nat.le_trans (by decide) h5
        rw [stT, if_neg n1, if_pos e2] at hl
        try simp only [List.length_append] at hl
        refine .fl (trip := [(_, _, _), (_, _, _), (_, _, _), (_, _, _), (_, _, _), (_, _, _), (_, _, _), (_, _, _), (_, _, _), (_, _, _)]) 10 [(0, 0), (1, 0), (2, 0), (3, 0), (4, 0), (5, 0), (6, 0), (7, 0), (8, 0), (9, 1)] (by kernel_rfl) (by kernel_rfl) rfl <|
          .m rfl rfl <| .yv (.fieldAddr rfl Fx.field73_1) rfl <| .yv (.load rfl Fx.agg9 (.tail _ <| .head _) rfl) rfl <| .m rfl rfl <| .yv (.indexSl Fx.sl56 rfl rfl (i := 0) rfl (by omega) (q := 0) rfl) rfl <|
          .yv (.load (v := strV ((ex.map Ex.text).getD 0 [])) rfl Fx.agg9 (.head _) (strs_at (by rw [List.length_map]; omega))) rfl <| .m rfl rfl <| .yv (.indexSl Fx.sl56 rfl rfl (i := 1) rfl (by omega) (q := 1) rfl) rfl <|
          .yv (.load (v := strV ((ex.map Ex.text).getD 1 [])) rfl Fx.agg9 (.head _) (strs_at (by rw [List.length_map]; omega))) rfl <| .bl rfl (Fx.bsl56_6 _ _ _ _ _ _) rfl fun b48 => .fn (tl := [_]) rfl <|
          .cs (X := Value) Fx.call42 rfl (fun W s => line_w (parts := [nm, [91], (ex.map Ex.text).getD 0 [], [93, 32, 61, 32], (ex.map Ex.text).getD 1 [], [59]]) ha (Nat.le_of_ble_eq_true rfl) (by (try simp only [List.length_append]); omega) (s.pickT (hd := [_, _, _, _, _]) (tl := bs) (hd' := [_, _, _, _, _]) [3, 4, 0, 1, 2] rfl rfl)) rfl fun r49 _ => .nl <|
          .bN <| ?_
        exact Sx.retN (.inr rfl) rfl .nil rfl fun W s => ⟨(_, _), (.inr rfl), rfl, by have s2 := (s.pickT (hd := [_, _, _, _, _]) (tl := bs) (hd' := [_, _]) [0, 1] rfl rfl); (first | rw [stext_mk, stT, if_pos e1] | rw [stext_mk, stT, if_neg n1, if_pos e2] | rw [stext_mk, stT, if_neg n1, if_neg n2, if_pos e3] | rw [stext_mk, stT, if_neg n1, if_neg n2, if_neg n3, if_pos e4, if_neg (by simpa using q)] | rw [stext_mk, stT, if_neg n1, if_neg n2, if_neg n3, if_pos e4, if_pos (by simpa using q)] | rw [stext_mk, stT, if_neg n1, if_neg n2, if_neg n3, if_neg n4, if_pos e5] | rw [stext_mk, stT, if_neg n1, if_neg n2, if_neg n3, if_neg n4, if_neg n5, if_pos e6] | rw [stext_mk, stT, if_neg n1, if_neg n2, if_neg n3, if_neg n4, if_neg n5, if_neg n6, if_pos e7] | rw [stext_mk, stT, if_neg n1, if_neg n2, if_neg n3, if_neg n4, if_neg n5, if_neg n6, if_neg n7, if_pos e8] | rw [stext_mk, stT, if_neg n1, if_neg n2, if_neg n3, if_neg n4, if_neg n5, if_neg n6, if_neg n7, if_neg n8, if_pos e9] | rw [stext_mk, stT, if_neg n1, if_neg n2, if_neg n3, if_neg n4, if_neg n5, if_neg n6, if_neg n7, if_neg n8, if_neg n9, if_pos e10]); (try simp only [List.append_assoc] at s2 ⊢); (try simp only [List.cons_append] at s2 ⊢); (try simp only [List.nil_append] at s2 ⊢); (try simp only [List.append_nil] at s2 ⊢); exact s2⟩
      · try simp only [decide_eq_false_iff_not] at h37
        have n2 : ¬ kd = 2 := fun e => h37 (by rw [e]; rfl)
        refine .sq <| .rg <| .yv (.eql rfl rfl) rfl <| .a rfl rfl <| .nl <| .tN <| .cd rfl (fun h50 => ?_) (fun h50 => ?_)
        · try simp only [decide_eq_true_eq] at h50
          have e3 : kd = 3 := UInt8.toNat_inj.1 (by show kd.toNat = 3; omega)
          have hlo : 1 ≤ ex.length := by have h5 := hfr.2.1; rw [e3] at h5; exact Nat.le_trans (by decide) h5
          rw [stT, if_neg n1, if_neg n2, if_pos e3] at hl
          try simp only [List.length_append] at hl
          refine .fl (trip := [(_, _, _), (_, _, _), (_, _, _), (_, _, _), (_, _, _), (_, _, _), (_, _, _)]) 7 [(0, 0), (1, 0), (2, 0), (3, 0), (4, 0), (5, 0), (6, 1)] (by kernel_rfl) (by kernel_rfl) rfl <|
            .m rfl rfl <| .yv (.fieldAddr rfl Fx.field73_1) rfl <| .yv (.load rfl Fx.agg9 (.tail _ <| .head _) rfl) rfl <| .m rfl rfl <| .yv (.indexSl Fx.sl56 rfl rfl (i := 0) rfl (by omega) (q := 0) rfl) rfl <|
            .yv (.load (v := strV ((ex.map Ex.text).getD 0 [])) rfl Fx.agg9 (.head _) (strs_at (by rw [List.length_map]; omega))) rfl <| .bl rfl (Fx.bsl56_5 _ _ _ _ _) rfl fun b58 => .fn (tl := [_]) rfl <|
            .cs (X := Value) Fx.call42 rfl (fun W s => line_w (parts := [[100, 101, 108, 101, 116, 101, 32], nm, [91], (ex.map Ex.text).getD 0 [], [93, 59]]) ha (Nat.le_of_ble_eq_true rfl) (by (try simp only [List.length_append]); omega) (s.pickT (hd := [_, _, _, _, _]) (tl := bs) (hd' := [_, _, _, _, _]) [3, 4, 0, 1, 2] rfl rfl)) rfl fun r59 _ => .nl <|
            .bN <| ?_
          exact Sx.retN (.inr rfl) rfl .nil rfl fun W s => ⟨(_, _), (.inr rfl), rfl, by have s2 := (s.pickT (hd := [_, _, _, _, _]) (tl := bs) (hd' := [_, _]) [0, 1] rfl rfl); (first | rw [stext_mk, stT, if_pos e1] | rw [stext_mk, stT, if_neg n1, if_pos e2] | rw [stext_mk, stT, if_neg n1, if_neg n2, if_pos e3] | rw [stext_mk, stT, if_neg n1, if_neg n2, if_neg n3, if_pos e4, if_neg (by simpa using q)] | rw [stext_mk, stT, if_neg n1, if_neg n2, if_neg n3, if_pos e4, if_pos (by simpa using q)] | rw [stext_mk, stT, if_neg n1, if_neg n2, if_neg n3, if_neg n4, if_pos e5] | rw [stext_mk, stT, if_neg n1, if_neg n2, if_neg n3, if_neg n4, if_neg n5, if_pos e6] | rw [stext_mk, stT, if_neg n1, if_neg n2, if_neg n3, if_neg n4, if_neg n5, if_neg n6, if_pos e7] | rw [stext_mk, stT, if_neg n1, if_neg n2, if_neg n3, if_neg n4, if_neg n5, if_neg n6, if_neg n7, if_pos e8] | rw [stext_mk, stT, if_neg n1, if_neg n2, if_neg n3, if_neg n4, if_neg n5, if_neg n6, if_neg n7, if_neg n8, if_pos e9] | rw [stext_mk, stT, if_neg n1, if_neg n2, if_neg n3, if_neg n4, if_neg n5, if_neg n6, if_neg n7, if_neg n8, if_neg n9, if_pos e10]); (try simp only [List.append_assoc] at s2 ⊢); (try simp only [List.cons_append] at s2 ⊢); (try simp only [List.nil_append] at s2 ⊢); (try simp only [List.append_nil] at s2 ⊢); exact s2⟩
        · try simp only [decide_eq_false_iff_not] at h50
          have n3 : ¬ kd = 3 := fun e => h50 (by rw [e]; rfl)
          refine .sq <| .rg <| .yv (.eql rfl rfl) rfl <| .a rfl rfl <| .nl <| .tN <| .cd rfl (fun h60 => ?_) (fun h60 => ?_)
          · try simp only [decide_eq_true_eq] at h60
            have e4 : kd = 4 := UInt8.toNat_inj.1 (by show kd.toNat = 4; omega)
            have hlo : 1 ≤ ex.length := by have h5 := hfr.2.1; rw [e4] at h5; exact Nat.le_trans (by decide) h5
            rw [stT, if_neg n1, if_neg n2, if_neg n3, if_pos e4] at hl
            try simp only [List.length_append] at hl
            have hq := lineT_len ind [[125]]
            refine .sq <| .rg <| .m rfl rfl <| .m rfl rfl <| .yv (.indexSl Fx.sl56 rfl rfl (i := 0) rfl (by omega) (q := 0) rfl) rfl <| .yv (.load (v := strV ((ex.map Ex.text).getD 0 [])) rfl Fx.agg9 (.head _) (strs_at (by rw [List.length_map]; omega))) rfl <|
              .bl rfl (Fx.bsl56_3 _ _ _) rfl fun b66 => .cs (X := Value) Fx.call42 rfl (fun W s => line_w (parts := [[105, 102, 32], (ex.map Ex.text).getD 0 [], [32, 123]]) ha (Nat.le_of_ble_eq_true rfl) (by (try simp only [List.length_append]); omega) (s.pickT (hd := [_, _, _, _, _]) (tl := bs) (hd' := [_, _, _, _, _]) [3, 4, 0, 1, 2] rfl rfl)) rfl fun r67 _ => .nl <|
              .tN <| .sq <| .rg <| .m rfl rfl <| .yv (.fieldAddr rfl Fx.field73_4) rfl <| .yv (.load rfl Fx.agg60 (.tail _ <| .tail _ <| .tail _ <| .tail _ <| .head _) rfl) rfl <|
              .cs (X := Option Addr × Value) Fx.call83 rfl (fun W s => hth _ _ _ _ _ _ _ _ _ _ _ hs1 hf2 (.inr rfl) (by (try simp only [List.length_append]); omega) (by omega) (s.pickT (hd := [_, _, _, _, _]) (tl := bs) (hd' := [_, _, _, _]) [0, 1, 3, 4] rfl rfl)) rfl fun z71 hz71 => .nl <|
              .tN <| .sq <| .sq <| .rg <| .yv (.fieldAddr rfl Fx.field73_5) rfl <| .yv (.load rfl Fx.agg60 (.tail _ <| .tail _ <| .tail _ <| .head _) rfl) rfl <| .yv (.lenSl Fx.sl60 rfl) rfl <|
              .yv (.gtr rfl rfl) rfl <| .nl <| .tN <| .cd rfl (fun h75 => ?_) (fun h75 => ?_)
            · try simp only [decide_eq_true_eq] at h75
              have q : ¬ el.length = 0 := by omega
              rw [if_neg (by simpa using q)] at hl
              simp only [List.length_append] at hl
              refine .sq <| .rg <| .m rfl rfl <| .bl rfl (Fx.bsl56_1 _) rfl fun b77 => .cs (X := Value) Fx.call42 rfl (fun W s => line_w (parts := [[125, 32, 101, 108, 115, 101, 32, 123]]) hz71 (Nat.le_of_ble_eq_true rfl) (by (try simp only [List.length_append]); omega) (s.pickT (hd := [_, _, _, _, _]) (tl := bs) (hd' := [_, _, _, _, _]) [1, 2, 0, 3, 4] rfl rfl)) rfl fun r78 _ => .nl <|
                .tN <| .rg <| .m rfl rfl <| .yv (.fieldAddr rfl Fx.field73_5) rfl <| .yv (.load rfl Fx.agg60 (.tail _ <| .tail _ <| .tail _ <| .tail _ <| .head _) rfl) rfl <|
                .cs (X := Option Addr × Value) Fx.call83 rfl (fun W s => hel _ _ _ _ _ _ _ _ _ _ _ hs2 hf3 (.inr rfl) (by (try simp only [List.length_append]); omega) (by omega) (s.pickT (hd := [_, _, _, _, _]) (tl := bs) (hd' := [_, _, _, _]) [0, 1, 3, 4] rfl rfl)) rfl fun z82 hz82 => .nl <|
                .tN <| .rg <| .m rfl rfl <| .bl rfl (Fx.bsl56_1 _) rfl fun b84 => .cs (X := Value) Fx.call42 rfl (fun W s => line_w (parts := [[125]]) hz82 (Nat.le_of_ble_eq_true rfl) (by (try simp only [List.length_append]); omega) (s.pickT (hd := [_, _, _, _, _]) (tl := bs) (hd' := [_, _, _, _, _]) [1, 2, 0, 3, 4] rfl rfl)) rfl fun r85 _ => .nl <|
                .bN <| ?_
              exact Sx.retN (.inr rfl) rfl .nil rfl fun W s => ⟨(_, _), (.inr rfl), rfl, by have s2 := (s.pickT (hd := [_, _, _, _, _]) (tl := bs) (hd' := [_, _]) [0, 1] rfl rfl); (first | rw [stext_mk, stT, if_pos e1] | rw [stext_mk, stT, if_neg n1, if_pos e2] | rw [stext_mk, stT, if_neg n1, if_neg n2, if_pos e3] | rw [stext_mk, stT, if_neg n1, if_neg n2, if_neg n3, if_pos e4, if_neg (by simpa using q)] | rw [stext_mk, stT, if_neg n1, if_neg n2, if_neg n3, if_pos e4, if_pos (by simpa using q)] | rw [stext_mk, stT, if_neg n1, if_neg n2, if_neg n3, if_neg n4, if_pos e5] | rw [stext_mk, stT, if_neg n1, if_neg n2, if_neg n3, if_neg n4, if_neg n5, if_pos e6] | rw [stext_mk, stT, if_neg n1, if_neg n2, if_neg n3, if_neg n4, if_neg n5, if_neg n6, if_pos e7] | rw [stext_mk, stT, if_neg n1, if_neg n2, if_neg n3, if_neg n4, if_neg n5, if_neg n6, if_neg n7, if_pos e8] | rw [stext_mk, stT, if_neg n1, if_neg n2, if_neg n3, if_neg n4, if_neg n5, if_neg n6, if_neg n7, if_neg n8, if_pos e9] | rw [stext_mk, stT, if_neg n1, if_neg n2, if_neg n3, if_neg n4, if_neg n5, if_neg n6, if_neg n7, if_neg n8, if_neg n9, if_pos e10]); (try simp only [List.append_assoc] at s2 ⊢); (try simp only [List.cons_append] at s2 ⊢); (try simp only [List.nil_append] at s2 ⊢); (try simp only [List.append_nil] at s2 ⊢); exact s2⟩
            · try simp only [decide_eq_false_iff_not] at h75
              have q : el.length = 0 := by omega
              rw [if_pos (by simpa using q)] at hl
              refine .sk <| .tN <| .rg <| .m rfl rfl <| .bl rfl (Fx.bsl56_1 _) rfl fun b84 => .cs (X := Value) Fx.call42 rfl (fun W s => line_w (parts := [[125]]) hz71 (Nat.le_of_ble_eq_true rfl) (by (try simp only [List.length_append]); omega) (s.pickT (hd := [_, _, _, _, _]) (tl := bs) (hd' := [_, _, _, _, _]) [1, 2, 0, 3, 4] rfl rfl)) rfl fun r85 _ => .nl <|
                .bN <| ?_
              exact Sx.retN (.inr rfl) rfl .nil rfl fun W s => ⟨(_, _), (.inr rfl), rfl, by have s2 := (s.pickT (hd := [_, _, _, _, _]) (tl := bs) (hd' := [_, _]) [0, 1] rfl rfl); (first | rw [stext_mk, stT, if_pos e1] | rw [stext_mk, stT, if_neg n1, if_pos e2] | rw [stext_mk, stT, if_neg n1, if_neg n2, if_pos e3] | rw [stext_mk, stT, if_neg n1, if_neg n2, if_neg n3, if_pos e4, if_neg (by simpa using q)] | rw [stext_mk, stT, if_neg n1, if_neg n2, if_neg n3, if_pos e4, if_pos (by simpa using q)] | rw [stext_mk, stT, if_neg n1, if_neg n2, if_neg n3, if_neg n4, if_pos e5] | rw [stext_mk, stT, if_neg n1, if_neg n2, if_neg n3, if_neg n4, if_neg n5, if_pos e6] | rw [stext_mk, stT, if_neg n1, if_neg n2, if_neg n3, if_neg n4, if_neg n5, if_neg n6, if_pos e7] | rw [stext_mk, stT, if_neg n1, if_neg n2, if_neg n3, if_neg n4, if_neg n5, if_neg n6, if_neg n7, if_pos e8] | rw [stext_mk, stT, if_neg n1, if_neg n2, if_neg n3, if_neg n4, if_neg n5, if_neg n6, if_neg n7, if_neg n8, if_pos e9] | rw [stext_mk, stT, if_neg n1, if_neg n2, if_neg n3, if_neg n4, if_neg n5, if_neg n6, if_neg n7, if_neg n8, if_neg n9, if_pos e10]); (try simp only [List.append_assoc] at s2 ⊢); (try simp only [List.cons_append] at s2 ⊢); (try simp only [List.nil_append] at s2 ⊢); (try simp only [List.append_nil] at s2 ⊢); exact s2⟩
          · try simp only [decide_eq_false_iff_not] at h60
            have n4 : ¬ kd = 4 := fun e => h60 (by rw [e]; rfl)
            refine .sq <| .rg <| .yv (.eql rfl rfl) rfl <| .a rfl rfl <| .nl <| .tN <| .cd rfl (fun h86 => ?_) (fun h86 => ?_)
            · try simp only [decide_eq_true_eq] at h86
              have e5 : kd = 5 := UInt8.toNat_inj.1 (by show kd.toNat = 5; omega)
              have hlo : 1 ≤ ex.length := by have h5 := hfr.2.1; rw [e5] at h5; exact Nat.le_trans (by decide) h5
              rw [stT, if_neg n1, if_neg n2, if_neg n3, if_neg n4, if_pos e5] at hl
              try simp only [List.length_append] at hl
              have hq := lineT_len ind [[125]]
              refine .sq <| .rg <| .m rfl rfl <| .m rfl rfl <| .yv (.indexSl Fx.sl56 rfl rfl (i := 0) rfl (by omega) (q := 0) rfl) rfl <| .yv (.load (v := strV ((ex.map Ex.text).getD 0 [])) rfl Fx.agg9 (.head _) (strs_at (by rw [List.length_map]; omega))) rfl <|
                .bl rfl (Fx.bsl56_3 _ _ _) rfl fun b92 => .cs (X := Value) Fx.call42 rfl (fun W s => line_w (parts := [[119, 104, 105, 108, 101, 32], (ex.map Ex.text).getD 0 [], [32, 123]]) ha (Nat.le_of_ble_eq_true rfl) (by (try simp only [List.length_append]); omega) (s.pickT (hd := [_, _, _, _, _]) (tl := bs) (hd' := [_, _, _, _, _]) [3, 4, 0, 1, 2] rfl rfl)) rfl fun r93 _ => .nl <|
                .tN <| .sq <| .rg <| .m rfl rfl <| .yv (.fieldAddr rfl Fx.field73_4) rfl <| .yv (.load rfl Fx.agg60 (.tail _ <| .tail _ <| .tail _ <| .tail _ <| .head _) rfl) rfl <|
                .cs (X := Option Addr × Value) Fx.call83 rfl (fun W s => hth _ _ _ _ _ _ _ _ _ _ _ hs1 hf2 (.inr rfl) (by (try simp only [List.length_append]); omega) (by omega) (s.pickT (hd := [_, _, _, _, _]) (tl := bs) (hd' := [_, _, _, _]) [0, 1, 3, 4] rfl rfl)) rfl fun z97 hz97 => .nl <|
                .tN <| .rg <| .m rfl rfl <| .bl rfl (Fx.bsl56_1 _) rfl fun b99 => .cs (X := Value) Fx.call42 rfl (fun W s => line_w (parts := [[125]]) hz97 (Nat.le_of_ble_eq_true rfl) (by (try simp only [List.length_append]); omega) (s.pickT (hd := [_, _, _, _, _]) (tl := bs) (hd' := [_, _, _, _, _]) [1, 2, 0, 3, 4] rfl rfl)) rfl fun r100 _ => .nl <|
                .bN <| ?_
              exact Sx.retN (.inr rfl) rfl .nil rfl fun W s => ⟨(_, _), (.inr rfl), rfl, by have s2 := (s.pickT (hd := [_, _, _, _, _]) (tl := bs) (hd' := [_, _]) [0, 1] rfl rfl); (first | rw [stext_mk, stT, if_pos e1] | rw [stext_mk, stT, if_neg n1, if_pos e2] | rw [stext_mk, stT, if_neg n1, if_neg n2, if_pos e3] | rw [stext_mk, stT, if_neg n1, if_neg n2, if_neg n3, if_pos e4, if_neg (by simpa using q)] | rw [stext_mk, stT, if_neg n1, if_neg n2, if_neg n3, if_pos e4, if_pos (by simpa using q)] | rw [stext_mk, stT, if_neg n1, if_neg n2, if_neg n3, if_neg n4, if_pos e5] | rw [stext_mk, stT, if_neg n1, if_neg n2, if_neg n3, if_neg n4, if_neg n5, if_pos e6] | rw [stext_mk, stT, if_neg n1, if_neg n2, if_neg n3, if_neg n4, if_neg n5, if_neg n6, if_pos e7] | rw [stext_mk, stT, if_neg n1, if_neg n2, if_neg n3, if_neg n4, if_neg n5, if_neg n6, if_neg n7, if_pos e8] | rw [stext_mk, stT, if_neg n1, if_neg n2, if_neg n3, if_neg n4, if_neg n5, if_neg n6, if_neg n7, if_neg n8, if_pos e9] | rw [stext_mk, stT, if_neg n1, if_neg n2, if_neg n3, if_neg n4, if_neg n5, if_neg n6, if_neg n7, if_neg n8, if_neg n9, if_pos e10]); (try simp only [List.append_assoc] at s2 ⊢); (try simp only [List.cons_append] at s2 ⊢); (try simp only [List.nil_append] at s2 ⊢); (try simp only [List.append_nil] at s2 ⊢); exact s2⟩
            · try simp only [decide_eq_false_iff_not] at h86
              have n5 : ¬ kd = 5 := fun e => h86 (by rw [e]; rfl)
              refine .sq <| .rg <| .yv (.eql rfl rfl) rfl <| .a rfl rfl <| .nl <| .tN <| .cd rfl (fun h101 => ?_) (fun h101 => ?_)
              · try simp only [decide_eq_true_eq] at h101
                have e6 : kd = 6 := UInt8.toNat_inj.1 (by show kd.toNat = 6; omega)
                have hlo : 0 ≤ ex.length := by have h5 := hfr.2.1; rw [e6] at h5; exact Nat.le_trans (by decide) h5
                rw [stT, if_neg n1, if_neg n2, if_neg n3, if_neg n4, if_neg n5, if_pos e6] at hl
                try simp only [List.length_append] at hl
                have hq := lineT_len ind [[115, 101, 110, 100, 32], nm, [46], hd, [40], joinT (ex.map Ex.text), [41, 59]]
                simp only [List.flatten_cons, List.length_append] at hq
                refine .fl (trip := [(_, _, _), (_, _, _), (_, _, _), (_, _, _), (_, _, _), (_, _, _), (_, _, _), (_, _, _)]) 8 [(0, 0), (1, 0), (2, 0), (3, 0), (4, 0), (5, 0), (6, 0), (7, 1)] (by kernel_rfl) (by kernel_rfl) rfl <|
                  .m rfl rfl <| .yv (.fieldAddr rfl Fx.field73_1) rfl <| .yv (.load rfl Fx.agg9 (.tail _ <| .head _) rfl) rfl <| .yv (.fieldAddr rfl Fx.field73_2) rfl <| .yv (.load rfl Fx.agg9 (.tail _ <|
                  .head _) rfl) rfl <| .m rfl rfl <| .yv (.call Fx.call82 rfl (fun W s => join_own (ex.map Ex.text) (by simp) s (.head _) (by simp; omega) (by omega))) rfl <| .bl rfl (Fx.bsl56_7 _ _ _ _ _ _ _) rfl fun b110 => .fn (tl := [_]) rfl <|
                  .cs (X := Value) Fx.call42 rfl (fun W s => line_w (parts := [[115, 101, 110, 100, 32], nm, [46], hd, [40], joinT (ex.map Ex.text), [41, 59]]) ha (Nat.le_of_ble_eq_true rfl) (by (try simp only [List.length_append]); omega) (s.pickT (hd := [_, _, _, _, _]) (tl := bs) (hd' := [_, _, _, _, _]) [3, 4, 0, 1, 2] rfl rfl)) rfl fun r111 _ => .nl <|
                  .bN <| ?_
                exact Sx.retN (.inr rfl) rfl .nil rfl fun W s => ⟨(_, _), (.inr rfl), rfl, by have s2 := (s.pickT (hd := [_, _, _, _, _]) (tl := bs) (hd' := [_, _]) [0, 1] rfl rfl); (first | rw [stext_mk, stT, if_pos e1] | rw [stext_mk, stT, if_neg n1, if_pos e2] | rw [stext_mk, stT, if_neg n1, if_neg n2, if_pos e3] | rw [stext_mk, stT, if_neg n1, if_neg n2, if_neg n3, if_pos e4, if_neg (by simpa using q)] | rw [stext_mk, stT, if_neg n1, if_neg n2, if_neg n3, if_pos e4, if_pos (by simpa using q)] | rw [stext_mk, stT, if_neg n1, if_neg n2, if_neg n3, if_neg n4, if_pos e5] | rw [stext_mk, stT, if_neg n1, if_neg n2, if_neg n3, if_neg n4, if_neg n5, if_pos e6] | rw [stext_mk, stT, if_neg n1, if_neg n2, if_neg n3, if_neg n4, if_neg n5, if_neg n6, if_pos e7] | rw [stext_mk, stT, if_neg n1, if_neg n2, if_neg n3, if_neg n4, if_neg n5, if_neg n6, if_neg n7, if_pos e8] | rw [stext_mk, stT, if_neg n1, if_neg n2, if_neg n3, if_neg n4, if_neg n5, if_neg n6, if_neg n7, if_neg n8, if_pos e9] | rw [stext_mk, stT, if_neg n1, if_neg n2, if_neg n3, if_neg n4, if_neg n5, if_neg n6, if_neg n7, if_neg n8, if_neg n9, if_pos e10]); (try simp only [List.append_assoc] at s2 ⊢); (try simp only [List.cons_append] at s2 ⊢); (try simp only [List.nil_append] at s2 ⊢); (try simp only [List.append_nil] at s2 ⊢); exact s2⟩
              · try simp only [decide_eq_false_iff_not] at h101
                have n6 : ¬ kd = 6 := fun e => h101 (by rw [e]; rfl)
                refine .sq <| .rg <| .yv (.eql rfl rfl) rfl <| .a rfl rfl <| .nl <| .tN <| .cd rfl (fun h112 => ?_) (fun h112 => ?_)
                · try simp only [decide_eq_true_eq] at h112
                  have e7 : kd = 7 := UInt8.toNat_inj.1 (by show kd.toNat = 7; omega)
                  have hlo : 1 ≤ ex.length := by have h5 := hfr.2.1; rw [e7] at h5; exact Nat.le_trans (by decide) h5
                  rw [stT, if_neg n1, if_neg n2, if_neg n3, if_neg n4, if_neg n5, if_neg n6, if_pos e7] at hl
                  try simp only [List.length_append] at hl
                  have hq := lineT_len ind [[97, 102, 116, 101, 114, 32], (ex.map Ex.text).getD 0 [], [32, 100, 111, 32], hd, [40], joinT ((ex.map Ex.text).drop 1), [41, 59]]
                  simp only [List.flatten_cons, List.length_append] at hq
                  refine .fl (trip := [(_, _, _), (_, _, _), (_, _, _), (_, _, _), (_, _, _), (_, _, _), (_, _, _), (_, _, _), (_, _, _), (_, _, _)]) 10 [(0, 0), (1, 0), (2, 0), (3, 0), (4, 0), (5, 0), (6, 0), (7, 0), (8, 0), (9, 1)] (by kernel_rfl) (by kernel_rfl) rfl <|
                    .m rfl rfl <| .m rfl rfl <| .yv (.indexSl Fx.sl56 rfl rfl (i := 0) rfl (by omega) (q := 0) rfl) rfl <| .yv (.load (v := strV ((ex.map Ex.text).getD 0 [])) rfl Fx.agg9 (.head _) (strs_at (by rw [List.length_map]; omega))) rfl <|
                    .yv (.fieldAddr rfl Fx.field73_2) rfl <| .yv (.load rfl Fx.agg9 (.tail _ <| .head _) rfl) rfl <| .m rfl rfl <| .yv (.cutLo Fx.sl56 rfl rfl (lo := 1) rfl (by omega) (Nat.le_refl _)) rfl <|
                    .yv (.call Fx.call82 rfl (fun W s => join_own1 (ex.map Ex.text) (by simp) s (.head _) (by simp; omega) (by omega))) rfl <| .bl rfl (Fx.bsl56_7 _ _ _ _ _ _ _) rfl fun b123 => .fn (tl := [_]) rfl <|
                    .cs (X := Value) Fx.call42 rfl (fun W s => line_w (parts := [[97, 102, 116, 101, 114, 32], (ex.map Ex.text).getD 0 [], [32, 100, 111, 32], hd, [40], joinT ((ex.map Ex.text).drop 1), [41, 59]]) ha (Nat.le_of_ble_eq_true rfl) (by (try simp only [List.length_append]); omega) (s.pickT (hd := [_, _, _, _, _]) (tl := bs) (hd' := [_, _, _, _, _]) [3, 4, 0, 1, 2] rfl rfl)) rfl fun r124 _ => .nl <|
                    .bN <| ?_
                  exact Sx.retN (.inr rfl) rfl .nil rfl fun W s => ⟨(_, _), (.inr rfl), rfl, by have s2 := (s.pickT (hd := [_, _, _, _, _]) (tl := bs) (hd' := [_, _]) [0, 1] rfl rfl); (first | rw [stext_mk, stT, if_pos e1] | rw [stext_mk, stT, if_neg n1, if_pos e2] | rw [stext_mk, stT, if_neg n1, if_neg n2, if_pos e3] | rw [stext_mk, stT, if_neg n1, if_neg n2, if_neg n3, if_pos e4, if_neg (by simpa using q)] | rw [stext_mk, stT, if_neg n1, if_neg n2, if_neg n3, if_pos e4, if_pos (by simpa using q)] | rw [stext_mk, stT, if_neg n1, if_neg n2, if_neg n3, if_neg n4, if_pos e5] | rw [stext_mk, stT, if_neg n1, if_neg n2, if_neg n3, if_neg n4, if_neg n5, if_pos e6] | rw [stext_mk, stT, if_neg n1, if_neg n2, if_neg n3, if_neg n4, if_neg n5, if_neg n6, if_pos e7] | rw [stext_mk, stT, if_neg n1, if_neg n2, if_neg n3, if_neg n4, if_neg n5, if_neg n6, if_neg n7, if_pos e8] | rw [stext_mk, stT, if_neg n1, if_neg n2, if_neg n3, if_neg n4, if_neg n5, if_neg n6, if_neg n7, if_neg n8, if_pos e9] | rw [stext_mk, stT, if_neg n1, if_neg n2, if_neg n3, if_neg n4, if_neg n5, if_neg n6, if_neg n7, if_neg n8, if_neg n9, if_pos e10]); (try simp only [List.append_assoc] at s2 ⊢); (try simp only [List.cons_append] at s2 ⊢); (try simp only [List.nil_append] at s2 ⊢); (try simp only [List.append_nil] at s2 ⊢); exact s2⟩
                · try simp only [decide_eq_false_iff_not] at h112
                  have n7 : ¬ kd = 7 := fun e => h112 (by rw [e]; rfl)
                  refine .sq <| .rg <| .yv (.eql rfl rfl) rfl <| .a rfl rfl <| .nl <| .tN <| .cd rfl (fun h125 => ?_) (fun h125 => ?_)
                  · try simp only [decide_eq_true_eq] at h125
                    have e8 : kd = 8 := UInt8.toNat_inj.1 (by show kd.toNat = 8; omega)
                    have hlo : 2 ≤ ex.length := by have h5 := hfr.2.1; rw [e8] at h5; exact Nat.le_trans (by decide) h5
                    rw [stT, if_neg n1, if_neg n2, if_neg n3, if_neg n4, if_neg n5, if_neg n6, if_neg n7, if_pos e8] at hl
                    try simp only [List.length_append] at hl
                    have hq := diskT_len ind ([115, 116, 111, 114, 101, 32] ++ (ex.map Ex.text).getD 0 [] ++ [32, 61, 32] ++ (ex.map Ex.text).getD 1 []) (decide (el.length = 0)) (Sm.texts (ind + 1) el)
                    simp only [List.length_append] at hq
                    refine .fl (trip := [(_, _, _), (_, _, _), (_, _, _), (_, _, _), (_, _, _), (_, _, _), (_, _, _), (_, _, _), (_, _, _), (_, _, _), (_, _, _), (_, _, _)]) 12 [(0, 0), (1, 0), (2, 0), (3, 0), (4, 0), (5, 0), (6, 0), (7, 0), (8, 0), (9, 0), (10, 0), (11, 0)] (by kernel_rfl) (by kernel_rfl) rfl <|
                      .m rfl rfl <| .m rfl rfl <| .yv (.indexSl Fx.sl56 rfl rfl (i := 0) rfl (by omega) (q := 0) rfl) rfl <| .yv (.load (v := strV ((ex.map Ex.text).getD 0 [])) rfl Fx.agg9 (.head _) (strs_at (by rw [List.length_map]; omega))) rfl <|
                      .yv (.app rfl rfl (by (try simp only [List.length_append]); (try simp only [List.length_cons, List.length_nil]); (try simp only [List.length_cons, List.length_nil] at hq); omega)) rfl <|
                      .yv (.app rfl rfl (by (try simp only [List.length_append]); (try simp only [List.length_cons, List.length_nil]); (try simp only [List.length_cons, List.length_nil] at hq); omega)) rfl <|
                      .m rfl rfl <| .yv (.indexSl Fx.sl56 rfl rfl (i := 1) rfl (by omega) (q := 1) rfl) rfl <| .yv (.load (v := strV ((ex.map Ex.text).getD 1 [])) rfl Fx.agg9 (.head _) (strs_at (by rw [List.length_map]; omega))) rfl <|
                      .yv (.app rfl rfl (by (try simp only [List.length_append]); (try simp only [List.length_cons, List.length_nil]); (try simp only [List.length_cons, List.length_nil] at hq); omega)) rfl <|
                      .yv (.fieldAddr rfl Fx.field73_5) rfl <| .yv (.load rfl Fx.agg60 (.tail _ <| .head _) rfl) rfl <| .fn (tl := [_]) rfl <| .cs (X := Option Addr × Value) Fx.call116 rfl (fun W s => disk_any H el hel _ _ _ _ _ _ _ _ _ _ _ hs2 hf3 ha (by (try simp only [List.length_append]); omega) (by omega) (s.pickT (hd := [_, _, _, _]) (tl := bs) (hd' := [_, _, _, _]) [2, 3, 0, 1] rfl rfl)) rfl fun z139 hz139 => .nl <|
                      .bN <| ?_
                    exact Sx.retN (.inr rfl) rfl .nil rfl fun W s => ⟨(_, _), hz139, rfl, by have s2 := (s.pickT (hd := [_, _, _, _]) (tl := bs) (hd' := [_, _]) [0, 1] rfl rfl); (first | rw [stext_mk, stT, if_pos e1] | rw [stext_mk, stT, if_neg n1, if_pos e2] | rw [stext_mk, stT, if_neg n1, if_neg n2, if_pos e3] | rw [stext_mk, stT, if_neg n1, if_neg n2, if_neg n3, if_pos e4, if_neg (by simpa using q)] | rw [stext_mk, stT, if_neg n1, if_neg n2, if_neg n3, if_pos e4, if_pos (by simpa using q)] | rw [stext_mk, stT, if_neg n1, if_neg n2, if_neg n3, if_neg n4, if_pos e5] | rw [stext_mk, stT, if_neg n1, if_neg n2, if_neg n3, if_neg n4, if_neg n5, if_pos e6] | rw [stext_mk, stT, if_neg n1, if_neg n2, if_neg n3, if_neg n4, if_neg n5, if_neg n6, if_pos e7] | rw [stext_mk, stT, if_neg n1, if_neg n2, if_neg n3, if_neg n4, if_neg n5, if_neg n6, if_neg n7, if_pos e8] | rw [stext_mk, stT, if_neg n1, if_neg n2, if_neg n3, if_neg n4, if_neg n5, if_neg n6, if_neg n7, if_neg n8, if_pos e9] | rw [stext_mk, stT, if_neg n1, if_neg n2, if_neg n3, if_neg n4, if_neg n5, if_neg n6, if_neg n7, if_neg n8, if_neg n9, if_pos e10]); (try simp only [List.append_assoc] at s2 ⊢); (try simp only [List.cons_append] at s2 ⊢); (try simp only [List.nil_append] at s2 ⊢); (try simp only [List.append_nil] at s2 ⊢); exact s2⟩
                  · try simp only [decide_eq_false_iff_not] at h125
                    have n8 : ¬ kd = 8 := fun e => h125 (by rw [e]; rfl)
                    refine .sq <| .rg <| .yv (.eql rfl rfl) rfl <| .a rfl rfl <| .nl <| .tN <| .cd rfl (fun h140 => ?_) (fun h140 => ?_)
                    · try simp only [decide_eq_true_eq] at h140
                      have e9 : kd = 9 := UInt8.toNat_inj.1 (by show kd.toNat = 9; omega)
                      have hlo : 1 ≤ ex.length := by have h5 := hfr.2.1; rw [e9] at h5; exact Nat.le_trans (by decide) h5
                      rw [stT, if_neg n1, if_neg n2, if_neg n3, if_neg n4, if_neg n5, if_neg n6, if_neg n7, if_neg n8, if_pos e9] at hl
                      try simp only [List.length_append] at hl
                      have hq := diskT_len ind ([102, 101, 116, 99, 104, 32] ++ nm ++ [32, 61, 32] ++ (ex.map Ex.text).getD 0 []) (decide (el.length = 0)) (Sm.texts (ind + 1) el)
                      simp only [List.length_append] at hq
                      refine .fl (trip := [(_, _, _), (_, _, _), (_, _, _), (_, _, _), (_, _, _), (_, _, _), (_, _, _), (_, _, _), (_, _, _), (_, _, _), (_, _, _)]) 11 [(0, 0), (1, 0), (2, 0), (3, 0), (4, 0), (5, 0), (6, 0), (7, 0), (8, 0), (9, 0), (10, 0)] (by kernel_rfl) (by kernel_rfl) rfl <|
                        .m rfl rfl <| .yv (.fieldAddr rfl Fx.field73_1) rfl <| .yv (.load rfl Fx.agg9 (.tail _ <| .head _) rfl) rfl <| .yv (.app rfl rfl (by (try simp only [List.length_append]); (try simp only [List.length_cons, List.length_nil]); (try simp only [List.length_cons, List.length_nil] at hq); omega)) rfl <|
                        .yv (.app rfl rfl (by (try simp only [List.length_append]); (try simp only [List.length_cons, List.length_nil]); (try simp only [List.length_cons, List.length_nil] at hq); omega)) rfl <|
                        .m rfl rfl <| .yv (.indexSl Fx.sl56 rfl rfl (i := 0) rfl (by omega) (q := 0) rfl) rfl <| .yv (.load (v := strV ((ex.map Ex.text).getD 0 [])) rfl Fx.agg9 (.head _) (strs_at (by rw [List.length_map]; omega))) rfl <|
                        .yv (.app rfl rfl (by (try simp only [List.length_append]); (try simp only [List.length_cons, List.length_nil]); (try simp only [List.length_cons, List.length_nil] at hq); omega)) rfl <|
                        .yv (.fieldAddr rfl Fx.field73_5) rfl <| .yv (.load rfl Fx.agg60 (.tail _ <| .head _) rfl) rfl <| .fn (tl := [_]) rfl <| .cs (X := Option Addr × Value) Fx.call116 rfl (fun W s => disk_any H el hel _ _ _ _ _ _ _ _ _ _ _ hs2 hf3 ha (by (try simp only [List.length_append]); omega) (by omega) (s.pickT (hd := [_, _, _, _]) (tl := bs) (hd' := [_, _, _, _]) [2, 3, 0, 1] rfl rfl)) rfl fun z153 hz153 => .nl <|
                        .bN <| ?_
                      exact Sx.retN (.inr rfl) rfl .nil rfl fun W s => ⟨(_, _), hz153, rfl, by have s2 := (s.pickT (hd := [_, _, _, _]) (tl := bs) (hd' := [_, _]) [0, 1] rfl rfl); (first | rw [stext_mk, stT, if_pos e1] | rw [stext_mk, stT, if_neg n1, if_pos e2] | rw [stext_mk, stT, if_neg n1, if_neg n2, if_pos e3] | rw [stext_mk, stT, if_neg n1, if_neg n2, if_neg n3, if_pos e4, if_neg (by simpa using q)] | rw [stext_mk, stT, if_neg n1, if_neg n2, if_neg n3, if_pos e4, if_pos (by simpa using q)] | rw [stext_mk, stT, if_neg n1, if_neg n2, if_neg n3, if_neg n4, if_pos e5] | rw [stext_mk, stT, if_neg n1, if_neg n2, if_neg n3, if_neg n4, if_neg n5, if_pos e6] | rw [stext_mk, stT, if_neg n1, if_neg n2, if_neg n3, if_neg n4, if_neg n5, if_neg n6, if_pos e7] | rw [stext_mk, stT, if_neg n1, if_neg n2, if_neg n3, if_neg n4, if_neg n5, if_neg n6, if_neg n7, if_pos e8] | rw [stext_mk, stT, if_neg n1, if_neg n2, if_neg n3, if_neg n4, if_neg n5, if_neg n6, if_neg n7, if_neg n8, if_pos e9] | rw [stext_mk, stT, if_neg n1, if_neg n2, if_neg n3, if_neg n4, if_neg n5, if_neg n6, if_neg n7, if_neg n8, if_neg n9, if_pos e10]); (try simp only [List.append_assoc] at s2 ⊢); (try simp only [List.cons_append] at s2 ⊢); (try simp only [List.nil_append] at s2 ⊢); (try simp only [List.append_nil] at s2 ⊢); exact s2⟩
                    · try simp only [decide_eq_false_iff_not] at h140
                      have n9 : ¬ kd = 9 := fun e => h140 (by rw [e]; rfl)
                      refine .sq <| .rg <| .yv (.eql rfl rfl) rfl <| .a rfl rfl <| .nl <| .tN <| .cd rfl (fun h154 => ?_) (fun h154 => ?_)
                      · try simp only [decide_eq_true_eq] at h154
                        have e10 : kd = 10 := UInt8.toNat_inj.1 (by show kd.toNat = 10; omega)
                        have hlo : 0 ≤ ex.length := by have h5 := hfr.2.1; rw [e10] at h5; exact Nat.le_trans (by decide) h5
                        rw [stT, if_neg n1, if_neg n2, if_neg n3, if_neg n4, if_neg n5, if_neg n6, if_neg n7, if_neg n8, if_neg n9, if_pos e10] at hl
                        try simp only [List.length_append] at hl
                        refine .rg <| .m rfl rfl <| .bl rfl (Fx.bsl56_1 _) rfl fun b157 => .cs (X := Value) Fx.call42 rfl (fun W s => line_w (parts := [[115, 116, 111, 112, 59]]) ha (Nat.le_of_ble_eq_true rfl) (by (try simp only [List.length_append]); omega) (s.pickT (hd := [_, _, _, _, _]) (tl := bs) (hd' := [_, _, _, _, _]) [3, 4, 0, 1, 2] rfl rfl)) rfl fun r158 _ => .nl <|
                          .bN <| ?_
                        exact Sx.retN (.inr rfl) rfl .nil rfl fun W s => ⟨(_, _), (.inr rfl), rfl, by have s2 := (s.pickT (hd := [_, _, _, _, _]) (tl := bs) (hd' := [_, _]) [0, 1] rfl rfl); (first | rw [stext_mk, stT, if_pos e1] | rw [stext_mk, stT, if_neg n1, if_pos e2] | rw [stext_mk, stT, if_neg n1, if_neg n2, if_pos e3] | rw [stext_mk, stT, if_neg n1, if_neg n2, if_neg n3, if_pos e4, if_neg (by simpa using q)] | rw [stext_mk, stT, if_neg n1, if_neg n2, if_neg n3, if_pos e4, if_pos (by simpa using q)] | rw [stext_mk, stT, if_neg n1, if_neg n2, if_neg n3, if_neg n4, if_pos e5] | rw [stext_mk, stT, if_neg n1, if_neg n2, if_neg n3, if_neg n4, if_neg n5, if_pos e6] | rw [stext_mk, stT, if_neg n1, if_neg n2, if_neg n3, if_neg n4, if_neg n5, if_neg n6, if_pos e7] | rw [stext_mk, stT, if_neg n1, if_neg n2, if_neg n3, if_neg n4, if_neg n5, if_neg n6, if_neg n7, if_pos e8] | rw [stext_mk, stT, if_neg n1, if_neg n2, if_neg n3, if_neg n4, if_neg n5, if_neg n6, if_neg n7, if_neg n8, if_pos e9] | rw [stext_mk, stT, if_neg n1, if_neg n2, if_neg n3, if_neg n4, if_neg n5, if_neg n6, if_neg n7, if_neg n8, if_neg n9, if_pos e10]); (try simp only [List.append_assoc] at s2 ⊢); (try simp only [List.cons_append] at s2 ⊢); (try simp only [List.nil_append] at s2 ⊢); (try simp only [List.append_nil] at s2 ⊢); exact s2⟩
                      · try simp only [decide_eq_false_iff_not] at h154
                        simp only [okKd, Bool.and_eq_true, decide_eq_true_eq] at hokd
                        exact absurd (by omega : False) id
end Go.Proofs.YtmbiojpcidccjaaDoor
/- Contracts: body. -/
namespace Go.Proofs.YtmbiojpcidccjaaDoor
open Go.RowKit Go.Par Go.Sx
set_option maxRecDepth 100000 in
theorem body_any (H : Hp) (G : Gl H) (g : Gt H) : ∀ x : List Sm, BodyOf H x := by
  refine Sm.lists fun l ih => ?_
  intro p n c w0 W bs b a r ind t hs hf ha hl hi s
  obtain rfl : n = l.length := by have := hs.len.1; simpa using this
  have hcap := hs.cap
  refine Sx.enterS Tryd.func83 rfl Tryd.ntmps83 rfl s ?_
  refine .sq <| .rg <| .m rfl rfl <| .yv (.nilCheck rfl) rfl <| .yv (.fieldAddr rfl Fx.field112_1) rfl <| .yv (.load rfl Fx.agg3 (.head _) rfl) rfl <| .yv (.add rfl rfl (c := ((ind + 1 : Nat) : Int)) ((w64 (by omega) (by omega)).trans (by omega))) rfl <|
    .yv (.nilCheck rfl) rfl <| .yv (.fieldAddr rfl Fx.field112_1) rfl <| .st .head rfl rfl Fx.size3 rfl (Nat.le_of_ble_eq_true rfl) rfl <| .nl <| .tN <| .sq <| .sq <|
    .rg <| .m rfl rfl <| .yv (.lenSl Fx.sl60 rfl) rfl <| .m rfl rfl <| .nl <| .tN <| .bk <| .lp (X := Nat × Option Addr × Value) [(0, _), (13, _), (14, _)] ⟨rfl, rfl, rfl, trivial⟩ (bs) (fun z => [(15, .int .i64 (z.1 : Nat))]) (fun z => H) (fun z => [.box b [.pointer z.2.1, z.2.2, .int .i64 (ind + 1 : Nat)] 112, .row 5 1 z.2.2 (t ++ Sm.texts (ind + 1) (l.take z.1)).length ((t ++ Sm.texts (ind + 1) (l.take z.1)).map byteV)]) (fun z => z.1 ≤ l.length ∧ (z.2.1 = none ∨ z.2.1 = some ⟨b, 0, none⟩)) (fun z => l.length - z.1) (0, a, r) (fun _ s => by simpa [Sm.texts] using s) ⟨rfl, trivial⟩ ⟨by simp, ha⟩ fun z hC => ?_
  obtain ⟨k, a, r⟩ := z
  dsimp only at hC ⊢
  obtain ⟨hk0, ha⟩ := hC
  refine .sq <| .rg <| .yv (.lss rfl rfl) rfl <| .nl <| .tN <| .sq <| .cd rfl (fun h16 => ?_) (fun h16 => ?_)
  · try simp only [decide_eq_true_eq] at h16
    have hk : k < l.length := by omega
    obtain ⟨bE, oE, cE, hpE, rE, lE, mE⟩ := hs.elem (map_at hk)
    cases hpE
    have hf1 := salls_at hk hf
    have hle := stexts_take (ind + 1) l (k + 1)
    rw [stexts_succ hk, List.length_append] at hle
    have hi2 := ih _ (List.getElem_mem hk)
    exact .sk <| .tN <| .sq <| .bk <| .sq <| .rg <| .yv (.indexSl Fx.sl60 rfl rfl rfl (by omega) (q := oE + k * 6) rfl) rfl <| .yv (.loadMW rfl Fx.agg73 mE lE) rfl <|
      .al Fx.zero73 rfl fun b5 => .sV .head rfl rfl Fx.size73 lE rE.one rfl <| .nl <| .tN <| .rg <| .m rfl rfl <| .yv (.loadW rfl Fx.agg73 (.head _) lE) rfl <| .cs (X := Option Addr × Value) Fx.call100 rfl (fun W s => statement_any H G g _ hi2.1 hi2.2 _ _ _ _ _ _ _ _ _ rE hf1 ha (by (try simp only [List.length_append]); omega) (by omega) (s.pickT (hd := [_, _, _]) (tl := bs) (hd' := [_, _]) [1, 2] rfl rfl)) rfl fun z21 hz21 => .nl <|
      .bN <| .tN <| .rg <| .yv (.add rfl rfl (w64 (by omega) (by omega))) rfl <| .m rfl rfl <| .nl <| .tN <| .ag (x := (k, a, r)) (k + 1, z21.1, z21.2) ⟨rfl, trivial⟩ ⟨rfl, rfl, rfl, trivial⟩ (fun _ s => by have s2 := s; dsimp only; rw [stexts_succ hk]; (try simp only [List.append_assoc] at s2 ⊢); (try simp only [List.cons_append] at s2 ⊢); (try simp only [List.nil_append] at s2 ⊢); (try simp only [List.append_nil] at s2 ⊢); exact s2) ⟨by dsimp only; omega, hz21⟩ (by dsimp only; omega)
  · try simp only [decide_eq_false_iff_not] at h16
    obtain rfl : k = l.length := by omega
    rw [List.take_length]
    refine .ex <| .tE <| .tE <| .bE <| .tN <| .rg <| .m rfl rfl <| .yv (.nilCheck rfl) rfl <| .yv (.fieldAddr rfl Fx.field112_1) rfl <| .yv (.load rfl Fx.agg3 (.head _) rfl) rfl <|
      .yv (.sub rfl rfl (c := ((ind : Nat) : Int)) ((w64 (by omega) (by omega)).trans (by omega))) rfl <| .yv (.nilCheck rfl) rfl <| .yv (.fieldAddr rfl Fx.field112_1) rfl <|
      .st .head rfl rfl Fx.size3 rfl (Nat.le_of_ble_eq_true rfl) rfl <| .nl <| ?_
    exact Sx.retN (.inr rfl) rfl .nil rfl fun W s => ⟨(_, _), ha, rfl, by have s2 := (s.pickT (hd := [_, _]) (tl := bs) (hd' := [_, _]) [0, 1] rfl rfl); (skip); (try simp only [List.append_assoc] at s2 ⊢); (try simp only [List.cons_append] at s2 ⊢); (try simp only [List.nil_append] at s2 ⊢); (try simp only [List.append_nil] at s2 ⊢); exact s2⟩
end Go.Proofs.YtmbiojpcidccjaaDoor
/- Contracts: handlers. -/
namespace Go.Proofs.YtmbiojpcidccjaaDoor
open Go.RowKit Go.Par Go.Sx
theorem all_imp {q r : Sm → Bool} (h : ∀ s, q s = true → r s = true) : ∀ l, Sm.alls q l = true → Sm.alls r l = true := by
  refine Sm.lists fun l ih => ?_
  induction l with
  | nil => intro _; rfl
  | cons s t iht =>
    intro hl
    obtain ⟨kd, nm, hd, ex, th, el⟩ := s
    have h0 := ih _ (.head _)
    simp only [Sm.th, Sm.el] at h0
    simp only [Sm.alls, sall_mk, Bool.and_eq_true] at hl ⊢
    exact ⟨⟨⟨h _ hl.1.1.1, h0.1 hl.1.1.2⟩, h0.2 hl.1.2⟩, iht (fun x hx => ih x (.tail _ hx)) hl.2⟩
theorem salls_and {q r : Sm → Bool} : ∀ l, Sm.alls q l = true → Sm.alls r l = true → Sm.alls (fun s => q s && r s) l = true := by
  refine Sm.lists fun l ih => ?_
  induction l with
  | nil => intro _ _; rfl
  | cons s t iht =>
    intro hl hr
    obtain ⟨kd, nm, hd, ex, th, el⟩ := s
    have h0 := ih _ (.head _)
    simp only [Sm.th, Sm.el] at h0
    simp only [Sm.alls, sall_mk, Bool.and_eq_true] at hl hr ⊢
    exact ⟨⟨⟨⟨hl.1.1.1, hr.1.1.1⟩, h0.1 hl.1.1.2 hr.1.1.2⟩, h0.2 hl.1.2 hr.1.2⟩, iht (fun x hx => ih x (.tail _ hx)) hl.2 hr.2⟩
def tokH (h : Hd) : Bool := decide (h.ps.length ≤ 1000) && Sm.alls tokS h.body
theorem tok_good {h : Hd} (h1 : smaH h = true) (h2 : namH h = true) (h3 : frmH h = true) : tokH h = true := by
  simp only [smaH, Bool.and_eq_true, Bool.not_eq_true', Bool.or_eq_false_iff, decide_eq_false_iff_not] at h1
  simp only [namH, Bool.and_eq_true] at h2
  simp only [tokH, Bool.and_eq_true, decide_eq_true_eq]
  refine ⟨by omega, all_imp (q := fun s => (smaS s && namS s) && frmS s) ?_ _ (salls_and _ (salls_and _ h1.2 h2.2) h3)⟩
  rintro ⟨kd, nm, hd, ex, th, el⟩ hs
  simp only [Bool.and_eq_true] at hs
  obtain ⟨⟨k1, k2⟩, k3⟩ := hs
  rw [tokS, k3, Bool.true_and, List.all_eq_true]
  intro x hx
  have k4 := (frm_len k3).2.2.2
  simp only [smaS, List.all_eq_true, decide_eq_true_eq] at k1
  simp only [namS, Bool.and_eq_true] at k2
  have := text_len8 (k1 x hx) (alls_mem hx k2.2) (alls_mem hx k4)
  simp only [decide_eq_true_eq]; omega
theorem boolT_eq (b : Bool) : Lib.formatBool b = boolT b := by cases b <;> decide
theorem formatBool_any (b : Bool) (w : World) : Calls Tryd.prog 43 #[.bool b] w fun r w' => r = .returned (strV (boolT b)) ∧ Ext w w' :=
  (Tryd.strconv_FormatBool b w).mono fun _ _ ⟨he, hw⟩ => ⟨by rw [he, boolT_eq]; rfl, hw ▸ Ext.refl w⟩
theorem itoa_any (H : Hp) (g : Gt H) (n : Int) (h0 : -9223372036854775808 ≤ n) (h1 : n ≤ 9223372036854775807) (w : World) (hA : Agr H w) : Calls Tryd.prog 44 #[.int .i64 n] w fun r w' => r = .returned (strV (Lib.itoa n)) ∧ Ext w w' :=
  (Tryd.strconv_Itoa n h0 h1 w (g w hA)).mono fun _ _ ⟨he, k, os, hw⟩ => ⟨he, hw ▸ ((Ext.refl w).drewN k).trans (ext_grow os)⟩
theorem join_mem {H : Hp} {W : World} (hA : Agr H W) (ps : List Str) {p : Option Addr} {c : Nat} (h : Rep H (.seq 1 (ps.map dStr)) [.slice p ps.length c]) (hN : ps.length ≤ 1000) (hl : (joinT ps).length ≤ 140737488355328) :
    Calls Tryd.prog 82 #[.slice p ps.length c, strV [44, 32]] W fun e w' => e = .returned (strV (joinT ps)) ∧ Ext W w' := by
  by_cases h0 : ps.length = 0
  · obtain rfl := List.eq_nil_of_length_eq_zero h0
    exact (Tryd.strings_Join_none p c ⟨#[44, 32]⟩ W).mono fun e w' ⟨he, hw⟩ => ⟨he, hw ▸ Ext.refl W⟩
  · obtain ⟨b, o, cs, rfl, r0, l0, ⟨arr, T, m, m1, m2⟩⟩ := h.elem (map_at (f := dStr) (show 0 < ps.length by omega))
    refine join_W W b o c ps (fun j x e => ?_) (block_lt (hA _ _ m1)) (by omega) h.len.2.1 hl
    obtain ⟨b', o', cs', e1, r1, l1, m1'⟩ := h.elem (i := j) (d := dStr x) (by rw [List.getElem?_map, e]; rfl)
    cases e1
    obtain ⟨rfl, _⟩ := str_open r1
    have := m1'.cell (j := 0) hA rfl
    simpa using this
theorem hdsT_succ {n : Nat} {l : List Hd} {k : Nat} (h : k < l.length) : hdsT n (l.take (k + 1)) = hdsT n (l.take k) ++ hdT n l[k] := mflat_succ h
theorem hdsT_take (n : Nat) (l : List Hd) (k : Nat) : (hdsT n (l.take k)).length ≤ (hdsT n l).length := mflat_take l k
set_option maxRecDepth 100000 in
theorem handlers_any (H : Hp) (G : Gl H) (g : Gt H) (l : List Hd) (cs : List Value) (w0 W : World) (bs : List Res) (b : Nat) (a : Option Addr) (r : Value) (ind : Nat) (t : Str) (h : Rep H (dVs .u8 l) cs) (hf : l.all tokH = true) (ha : (a = none ∨ a = some ⟨b, 0, none⟩)) (hl : t.length + (hdsT ind l).length ≤ 10000000000000) (hi : ind ≤ 10000000000000) (s : St H w0 (.box b [.pointer a, r, .int .i64 (ind : Nat)] 112 :: .row 5 1 r (t).length ((t).map byteV) :: bs) W) :
    Calls Tryd.prog 71 #[.pointer (some ⟨b, 0, none⟩), .agg cs.toArray] W fun e W' => ∃ z : Option Addr × Value, (z.1 = none ∨ z.1 = some ⟨b, 0, none⟩) ∧ e = .returned (.tuple #[]) ∧ St H w0 (.box b [.pointer z.1, z.2, .int .i64 (ind : Nat)] 112 :: .row 5 1 z.2 (t ++ hdsT ind l).length ((t ++ hdsT ind l).map byteV) :: bs) W' := by
  obtain ⟨p, c, rfl, hs⟩ := vs_open h
  have hcap := hs.cap
  refine Sx.enterS Tryd.func71 rfl Tryd.ntmps71 rfl s ?_
  refine .sq <| .rg <| .bx rfl rfl rfl fun b3 => .nl <| .tN <| .sq <| .rg <| .yv (.fieldAddr rfl Fx.field78_0) rfl <| .yv (.load rfl Fx.agg76 (.head _) rfl) rfl <|
    .yv (.lenSl Fx.sl76 rfl) rfl <| .m rfl rfl <| .nl <| .tN <| .bk <| .lp (X := Nat × Option Addr × Value) [(0, _), (7, _), (8, _)] ⟨rfl, rfl, rfl, trivial⟩ (_ :: bs) (fun z => [(9, .int .i64 (z.1 : Nat))]) (fun z => H) (fun z => [.box b [.pointer z.2.1, z.2.2, .int .i64 (ind : Nat)] 112, .row 5 1 z.2.2 (t ++ hdsT ind (l.take z.1)).length ((t ++ hdsT ind (l.take z.1)).map byteV)]) (fun z => z.1 ≤ l.length ∧ (z.2.1 = none ∨ z.2.1 = some ⟨b, 0, none⟩)) (fun z => l.length - z.1) (0, a, r) (fun _ s => by have s2 := (s.pickT (hd := [_, _, _]) (tl := bs) (hd' := [_, _, _]) [1, 2, 0] rfl rfl); simpa [hdsT] using s2) ⟨rfl, trivial⟩ ⟨by simp, ha⟩ fun z hC => ?_
  obtain ⟨k, a, r⟩ := z
  dsimp only at hC ⊢
  obtain ⟨hk0, ha⟩ := hC
  refine .sq <| .rg <| .yv (.lss rfl rfl) rfl <| .nl <| .tN <| .sq <| .cd rfl (fun h10 => ?_) (fun h10 => ?_)
  · try simp only [decide_eq_true_eq] at h10
    have hk : k < l.length := by omega
    obtain ⟨bE, oE, cE, hpE, rE, lE, mE⟩ := hs.elem (map_at hk)
    cases hpE
    have hf1 := lall_at hk hf
    have hle := hdsT_take ind l (k + 1)
    rw [hdsT_succ hk, List.length_append] at hle
    generalize hx : l[k] = x at rE hf1 hle
    obtain ⟨p1, c1, p2, c2, rfl, hn1, hs1, hs2⟩ := hd_open rE
    simp only [tokH, Bool.and_eq_true, decide_eq_true_eq] at hf1
    obtain ⟨hf1, hf2⟩ := hf1
    have hq := lineT_len ind [[125]]
    have hq2 := lineT_len ind [[111, 110, 32], x.nm, [40], joinT x.ps, [41, 32, 123]]
    simp only [List.flatten_cons, List.length_append] at hq2
    simp only [hdT, List.length_append] at hle
    exact .sk <| .tN <| .sq <| .bk <| .sq <| .rg <| .yv (.indexSl Fx.sl76 rfl rfl rfl (by omega) (q := oE + k * 3) rfl) rfl <| .yv (.loadMW rfl Fx.agg75 mE rfl) rfl <|
      .al Fx.zero75 rfl fun b5 => .sW .head rfl rfl Fx.size75 (by simp [Value.oneCell', strV]) rfl <| .nl <| .tN <| .sq <| .fl (trip := [(_, _, _), (_, _, _), (_, _, _), (_, _, _), (_, _, _), (_, _, _), (_, _, _)]) 7 [(0, 0), (1, 0), (2, 0), (3, 0), (4, 0), (5, 0), (6, 1)] (by kernel_rfl) (by kernel_rfl) rfl <|
      .m rfl rfl <| .yv (.fieldAddr rfl Fx.field75_0) rfl <| .yv (.load rfl Fx.agg9 (.head _) rfl) rfl <| .yv (.fieldAddr rfl Fx.field75_1) rfl <| .yv (.load rfl Fx.agg56 (.head _) rfl) rfl <|
      .yv (.call Fx.call82 rfl (fun W s => join_mem s.agr x.ps hs1 hf1 (by omega))) rfl <| .bl rfl (Fx.bsl56_5 _ _ _ _ _) rfl fun b19 => .fn (tl := [_]) rfl <| .cs (X := Value) Fx.call42 rfl (fun W s => line_w (parts := [[111, 110, 32], x.nm, [40], joinT x.ps, [41, 32, 123]]) ha (Nat.le_of_ble_eq_true rfl) (by (try simp only [List.length_append]); omega) (s.pickT (hd := [_, _, _, _, _]) (tl := bs) (hd' := [_, _, _, _, _]) [2, 3, 0, 1, 4] rfl rfl)) rfl fun r20 _ => .nl <|
      .tN <| .sq <| .rg <| .m rfl rfl <| .yv (.fieldAddr rfl Fx.field75_2) rfl <| .yv (.load rfl Fx.agg60 (.tail _ <| .tail _ <| .tail _ <| .head _) rfl) rfl <| .cs (X := Option Addr × Value) Fx.call83 rfl (fun W s => body_any H G g _ _ _ _ _ _ _ _ _ _ _ _ hs2 hf2 (.inr rfl) (by (try simp only [List.length_append]); omega) (by omega) (s.pickT (hd := [_, _, _, _, _]) (tl := bs) (hd' := [_, _, _, _]) [0, 1, 3, 4] rfl rfl)) rfl fun z24 hz24 => .nl <|
      .tN <| .rg <| .m rfl rfl <| .bl rfl (Fx.bsl56_1 _) rfl fun b26 => .cs (X := Value) Fx.call42 rfl (fun W s => line_w (parts := [[125]]) hz24 (Nat.le_of_ble_eq_true rfl) (by (try simp only [List.length_append]); omega) (s.pickT (hd := [_, _, _, _, _]) (tl := bs) (hd' := [_, _, _, _, _]) [1, 2, 0, 3, 4] rfl rfl)) rfl fun r27 _ => .nl <|
      .bN <| .tN <| .rg <| .yv (.add rfl rfl (w64 (by omega) (by omega))) rfl <| .m rfl rfl <| .nl <| .tN <| .ag (x := (k, a, r)) (k + 1, some ⟨b, 0, none⟩, r27) ⟨rfl, trivial⟩ ⟨rfl, rfl, rfl, trivial⟩ (fun _ s => by have s2 := (s.pickT (hd := [_, _, _, _, _]) (tl := bs) (hd' := [_, _, _]) [0, 1, 4] rfl rfl); dsimp only; rw [hdsT_succ hk, hx, hdT]; (try simp only [List.append_assoc] at s2 ⊢); (try simp only [List.cons_append] at s2 ⊢); (try simp only [List.nil_append] at s2 ⊢); (try simp only [List.append_nil] at s2 ⊢); exact s2) ⟨by dsimp only; omega, (.inr rfl)⟩ (by dsimp only; omega)
  · try simp only [decide_eq_false_iff_not] at h10
    obtain rfl : k = l.length := by omega
    rw [List.take_length]
    refine .ex <| .tE <| .tE <| .bE <| ?_
    exact Sx.retN (.inr rfl) rfl .nil rfl fun W s => ⟨(_, _), ha, rfl, by have s2 := (s.pickT (hd := [_, _, _]) (tl := bs) (hd' := [_, _]) [0, 1] rfl rfl); (skip); (try simp only [List.append_assoc] at s2 ⊢); (try simp only [List.cons_append] at s2 ⊢); (try simp only [List.nil_append] at s2 ⊢); (try simp only [List.append_nil] at s2 ⊢); exact s2⟩
end Go.Proofs.YtmbiojpcidccjaaDoor
/- Contracts: component. -/
namespace Go.Proofs.YtmbiojpcidccjaaDoor
open Go.RowKit Go.Par Go.Sx
set_option maxRecDepth 100000 in
theorem component_any (H : Hp) (G : Gl H) (g : Gt H) (x : Cp) (cs : List Value) (w0 W : World) (bs : List Res) (b : Nat) (a : Option Addr) (r : Value) (t : Str) (h : Rep H (dCp .u8 x) cs) (hf : cpAll tokH x = true) (ha : (a = none ∨ a = some ⟨b, 0, none⟩)) (hl : t.length + (cpT x).length ≤ 10000000000000) (s : St H w0 (.box b [.pointer a, r, .int .i64 (1 : Nat)] 112 :: .row 5 1 r (t).length ((t).map byteV) :: bs) W) :
    Calls Tryd.prog 45 #[.pointer (some ⟨b, 0, none⟩), .agg cs.toArray] W fun e W' => ∃ z : Option Addr × Value, (z.1 = none ∨ z.1 = some ⟨b, 0, none⟩) ∧ e = .returned (.tuple #[]) ∧ St H w0 (.box b [.pointer z.1, z.2, .int .i64 (1 : Nat)] 112 :: .row 5 1 z.2 (t ++ cpT x).length ((t ++ cpT x).map byteV) :: bs) W' := by
  obtain ⟨p1, c1, p2, c2, rfl, hn1, hs1, hs2⟩ := cp_open h
  have hcap1 := hs1.cap
  have hcap2 := hs2.cap
  simp only [cpAll] at hf
  rw [cpT] at hl
  simp only [List.length_append] at hl
  refine Sx.enterS Tryd.func45 rfl Tryd.ntmps45 rfl s ?_
  refine .sq <| .rg <| .bx rfl rfl rfl fun b3 => .nl <| .tN <| .sq <| .rg <| .m rfl rfl <| .yv (.fieldAddr rfl Fx.field82_0) rfl <| .yv (.load rfl Fx.agg9 (.head _) rfl) rfl <|
    .bl rfl (Fx.bsl56_3 _ _ _) rfl fun b11 => .cs (X := Value) Fx.call42 rfl (fun W s => line_w (parts := [[99, 111, 109, 112, 111, 110, 101, 110, 116, 32], x.nm, [32, 123]]) ha (Nat.le_of_ble_eq_true rfl) (by (try simp only [List.length_append]); omega) (s.pickT (hd := [_, _, _, _]) (tl := bs) (hd' := [_, _, _, _]) [2, 3, 0, 1] rfl rfl)) rfl fun r12 _ => .nl <|
    .tN <| .sq <| .rg <| .m rfl rfl <| .yv (.nilCheck rfl) rfl <| .yv (.fieldAddr rfl Fx.field112_1) rfl <| .yv (.load rfl Fx.agg3 (.head _) rfl) rfl <| .yv (.add rfl rfl (c := ((2 : Nat) : Int)) (by decide)) rfl <|
    .yv (.nilCheck rfl) rfl <| .yv (.fieldAddr rfl Fx.field112_1) rfl <| .st .head rfl rfl Fx.size3 rfl (Nat.le_of_ble_eq_true rfl) rfl <| .nl <| .tN <| .sq <| .sq <|
    .rg <| .yv (.fieldAddr rfl Fx.field82_1) rfl <| .yv (.load rfl Fx.agg80 (.tail _ <| .tail _ <| .tail _ <| .head _) rfl) rfl <| .yv (.lenSl Fx.sl80 rfl) rfl <|
    .m rfl rfl <| .nl <| .tN <| .bk <| .lp (X := Nat × Option Addr × Value) [(0, _), (3, _), (21, _), (22, _)] ⟨rfl, rfl, rfl, rfl, trivial⟩ (_ :: bs) (fun z => [(23, .int .i64 (z.1 : Nat))]) (fun z => H) (fun z => [.box b [.pointer z.2.1, z.2.2, .int .i64 (2 : Nat)] 112, .row 5 1 z.2.2 (t ++ lineT 1 [[99, 111, 109, 112, 111, 110, 101, 110, 116, 32], x.nm, [32, 123]] ++ ((x.vars.take z.1).map (vrT 2)).flatten).length ((t ++ lineT 1 [[99, 111, 109, 112, 111, 110, 101, 110, 116, 32], x.nm, [32, 123]] ++ ((x.vars.take z.1).map (vrT 2)).flatten).map byteV)]) (fun z => z.1 ≤ x.vars.length ∧ (z.2.1 = none ∨ z.2.1 = some ⟨b, 0, none⟩)) (fun z => x.vars.length - z.1) (0, some ⟨b, 0, none⟩, r12) (fun _ s => by have s2 := (s.pickT (hd := [_, _, _, _]) (tl := bs) (hd' := [_, _, _]) [0, 1, 3] rfl rfl); simpa using s2) ⟨rfl, trivial⟩ ⟨by simp, .inr rfl⟩ fun z hC => ?_
  obtain ⟨k, a, r⟩ := z
  dsimp only at hC ⊢
  obtain ⟨hk0, ha⟩ := hC
  refine .sq <| .rg <| .yv (.lss rfl rfl) rfl <| .nl <| .tN <| .sq <| .cd rfl (fun h24 => ?_) (fun h24 => ?_)
  · try simp only [decide_eq_true_eq] at h24
    have hk : k < x.vars.length := by omega
    obtain ⟨bE, oE, cE, hpE, rE, lE, mE⟩ := hs1.elem (map_at hk)
    cases hpE
    have hle := mflat_take (g := vrT 2) x.vars (k + 1)
    rw [mflat_succ hk, List.length_append] at hle
    generalize hx : x.vars[k] = v at rE hle
    obtain ⟨rfl, hn2⟩ := vr_open rE
    refine .sk <| .tN <| .sq <| .bk <| .sq <| .rg <| .yv (.indexSl Fx.sl80 rfl rfl rfl (by omega) (q := oE + k * 3) rfl) rfl <| .yv (.loadMW rfl Fx.agg153 mE rfl) rfl <|
      .al Fx.zero153 rfl fun b5 => .sW .head rfl rfl Fx.size153 (by simp [Value.oneCell', strV]) rfl <| .nl <| .tN <| .sq <| .rg <| .yv (.fieldAddr rfl Fx.field153_1) rfl <|
      .yv (.load rfl Fx.agg151 (.head _) rfl) rfl <| .nl <| .tN <| .bk <| .sq <| .rg <| .yv (.eql rfl rfl) rfl <| .a rfl rfl <| .nl <| .tN <| .cd rfl (fun h29 => ?_) (fun h29 => ?_)
    · try simp only [decide_eq_true_eq] at h29
      have e1 : v.ty = 1 := UInt8.toNat_inj.1 (by show v.ty.toNat = 1; omega)
      rw [vrT, if_pos e1] at hle
      exact .fl (trip := [(_, _, _), (_, _, _), (_, _, _), (_, _, _), (_, _, _), (_, _, _), (_, _, _)]) 7 [(0, 0), (1, 0), (2, 0), (3, 0), (4, 0), (5, 0), (6, 1)] (by kernel_rfl) (by kernel_rfl) rfl <|
        .m rfl rfl <| .yv (.fieldAddr rfl Fx.field153_0) rfl <| .yv (.load rfl Fx.agg9 (.head _) rfl) rfl <| .yv (.fieldAddr rfl Fx.field153_2) rfl <| .yv (.load rfl Fx.agg2 (.head _) rfl) rfl <|
        .yv (.call Fx.call52 rfl (fun W s => formatInt_any H g v.init W s.agr)) rfl <| .bl rfl (Fx.bsl56_5 _ _ _ _ _) rfl fun b37 => .fn (tl := [_]) rfl <| .cs (X := Value) Fx.call42 rfl (fun W s => line_w (parts := [[118, 97, 114, 32], v.nm, [58, 32, 105, 110, 116, 32, 61, 32], Lib.itoa v.init.toInt, [59]]) ha (Nat.le_of_ble_eq_true rfl) (by (try simp only [List.length_append]); omega) (s.pickT (hd := [_, _, _, _, _]) (tl := bs) (hd' := [_, _, _, _, _]) [2, 3, 0, 1, 4] rfl rfl)) rfl fun r38 _ => .nl <|
        .bN <| .bN <| .tN <| .rg <| .yv (.add rfl rfl (w64 (by omega) (by omega))) rfl <| .m rfl rfl <| .nl <| .tN <| .ag (x := (k, a, r)) (k + 1, some ⟨b, 0, none⟩, r38) ⟨rfl, trivial⟩ ⟨rfl, rfl, rfl, rfl, trivial⟩ (fun _ s => by have s2 := (s.pickT (hd := [_, _, _, _, _]) (tl := bs) (hd' := [_, _, _]) [0, 1, 4] rfl rfl); dsimp only; rw [mflat_succ hk, hx]; (first | rw [vrT, if_pos e1] | rw [vrT, if_neg n1, if_pos e2] | rw [vrT, if_neg n1, if_neg n2, if_pos e3] | rw [vrT, if_neg n1, if_neg n2, if_neg n3]); (try simp only [List.append_assoc] at s2 ⊢); (try simp only [List.cons_append] at s2 ⊢); (try simp only [List.nil_append] at s2 ⊢); (try simp only [List.append_nil] at s2 ⊢); exact s2) ⟨by dsimp only; omega, (.inr rfl)⟩ (by dsimp only; omega)
    · try simp only [decide_eq_false_iff_not] at h29
      have n1 : ¬ v.ty = 1 := fun e => h29 (by rw [e]; rfl)
      refine .sq <| .rg <| .yv (.eql rfl rfl) rfl <| .a rfl rfl <| .nl <| .tN <| .cd rfl (fun h39 => ?_) (fun h39 => ?_)
      · try simp only [decide_eq_true_eq] at h39
        have e2 : v.ty = 2 := UInt8.toNat_inj.1 (by show v.ty.toNat = 2; omega)
        rw [vrT, if_neg n1, if_pos e2] at hle
        exact .fl (trip := [(_, _, _), (_, _, _), (_, _, _), (_, _, _), (_, _, _), (_, _, _), (_, _, _), (_, _, _)]) 8 [(0, 0), (1, 0), (2, 0), (3, 0), (4, 0), (5, 0), (6, 0), (7, 1)] (by kernel_rfl) (by kernel_rfl) rfl <|
          .m rfl rfl <| .yv (.fieldAddr rfl Fx.field153_0) rfl <| .yv (.load rfl Fx.agg9 (.head _) rfl) rfl <| .yv (.fieldAddr rfl Fx.field153_2) rfl <| .yv (.load rfl Fx.agg2 (.head _) rfl) rfl <|
          .yv (.eql rfl rfl) rfl <| .yv (.call Fx.call43 rfl (fun W s => formatBool_any _ W)) rfl <| .bl rfl (Fx.bsl56_5 _ _ _ _ _) rfl fun b48 => .fn (tl := [_]) rfl <|
          .cs (X := Value) Fx.call42 rfl (fun W s => line_w (parts := [[118, 97, 114, 32], v.nm, [58, 32, 98, 111, 111, 108, 32, 61, 32], boolT (decide (v.init.toInt = 1)), [59]]) ha (Nat.le_of_ble_eq_true rfl) (by (try simp only [List.length_append]); omega) (s.pickT (hd := [_, _, _, _, _]) (tl := bs) (hd' := [_, _, _, _, _]) [2, 3, 0, 1, 4] rfl rfl)) rfl fun r49 _ => .nl <|
          .bN <| .bN <| .tN <| .rg <| .yv (.add rfl rfl (w64 (by omega) (by omega))) rfl <| .m rfl rfl <| .nl <| .tN <| .ag (x := (k, a, r)) (k + 1, some ⟨b, 0, none⟩, r49) ⟨rfl, trivial⟩ ⟨rfl, rfl, rfl, rfl, trivial⟩ (fun _ s => by have s2 := (s.pickT (hd := [_, _, _, _, _]) (tl := bs) (hd' := [_, _, _]) [0, 1, 4] rfl rfl); dsimp only; rw [mflat_succ hk, hx]; (first | rw [vrT, if_pos e1] | rw [vrT, if_neg n1, if_pos e2] | rw [vrT, if_neg n1, if_neg n2, if_pos e3] | rw [vrT, if_neg n1, if_neg n2, if_neg n3]); (try simp only [List.append_assoc] at s2 ⊢); (try simp only [List.cons_append] at s2 ⊢); (try simp only [List.nil_append] at s2 ⊢); (try simp only [List.append_nil] at s2 ⊢); exact s2) ⟨by dsimp only; omega, (.inr rfl)⟩ (by dsimp only; omega)
      · try simp only [decide_eq_false_iff_not] at h39
        have n2 : ¬ v.ty = 2 := fun e => h39 (by rw [e]; rfl)
        refine .sq <| .rg <| .yv (.eql rfl rfl) rfl <| .a rfl rfl <| .nl <| .tN <| .cd rfl (fun h50 => ?_) (fun h50 => ?_)
        · try simp only [decide_eq_true_eq] at h50
          have e3 : v.ty = 3 := UInt8.toNat_inj.1 (by show v.ty.toNat = 3; omega)
          rw [vrT, if_neg n1, if_neg n2, if_pos e3] at hle
          exact .rg <| .m rfl rfl <| .yv (.fieldAddr rfl Fx.field153_0) rfl <| .yv (.load rfl Fx.agg9 (.head _) rfl) rfl <| .bl rfl (Fx.bsl56_3 _ _ _) rfl fun b55 => .cs (X := Value) Fx.call42 rfl (fun W s => line_w (parts := [[118, 97, 114, 32], v.nm, [58, 32, 116, 97, 98, 108, 101, 59]]) ha (Nat.le_of_ble_eq_true rfl) (by (try simp only [List.length_append]); omega) (s.pickT (hd := [_, _, _, _, _]) (tl := bs) (hd' := [_, _, _, _, _]) [2, 3, 0, 1, 4] rfl rfl)) rfl fun r56 _ => .nl <|
            .bN <| .bN <| .tN <| .rg <| .yv (.add rfl rfl (w64 (by omega) (by omega))) rfl <| .m rfl rfl <| .nl <| .tN <| .ag (x := (k, a, r)) (k + 1, some ⟨b, 0, none⟩, r56) ⟨rfl, trivial⟩ ⟨rfl, rfl, rfl, rfl, trivial⟩ (fun _ s => by have s2 := (s.pickT (hd := [_, _, _, _, _]) (tl := bs) (hd' := [_, _, _]) [0, 1, 4] rfl rfl); dsimp only; rw [mflat_succ hk, hx]; (first | rw [vrT, if_pos e1] | rw [vrT, if_neg n1, if_pos e2] | rw [vrT, if_neg n1, if_neg n2, if_pos e3] | rw [vrT, if_neg n1, if_neg n2, if_neg n3]); (try simp only [List.append_assoc] at s2 ⊢); (try simp only [List.cons_append] at s2 ⊢); (try simp only [List.nil_append] at s2 ⊢); (try simp only [List.append_nil] at s2 ⊢); exact s2) ⟨by dsimp only; omega, (.inr rfl)⟩ (by dsimp only; omega)
        · try simp only [decide_eq_false_iff_not] at h50
          have n3 : ¬ v.ty = 3 := fun e => h50 (by rw [e]; rfl)
          exact .sk <| .bN <| .bN <| .tN <| .rg <| .yv (.add rfl rfl (w64 (by omega) (by omega))) rfl <| .m rfl rfl <| .nl <| .tN <| .ag (x := (k, a, r)) (k + 1, a, r) ⟨rfl, trivial⟩ ⟨rfl, rfl, rfl, rfl, trivial⟩ (fun _ s => by have s2 := s.drop; dsimp only; rw [mflat_succ hk, hx]; (first | rw [vrT, if_pos e1] | rw [vrT, if_neg n1, if_pos e2] | rw [vrT, if_neg n1, if_neg n2, if_pos e3] | rw [vrT, if_neg n1, if_neg n2, if_neg n3]); (try simp only [List.append_assoc] at s2 ⊢); (try simp only [List.cons_append] at s2 ⊢); (try simp only [List.nil_append] at s2 ⊢); (try simp only [List.append_nil] at s2 ⊢); exact s2) ⟨by dsimp only; omega, ha⟩ (by dsimp only; omega)
  · try simp only [decide_eq_false_iff_not] at h24
    obtain rfl : k = x.vars.length := by omega
    rw [List.take_length]
    refine .ex <| .tE <| .tE <| .bE <| .tN <| .sq <| .sq <| .rg <| .yv (.fieldAddr rfl Fx.field82_2) rfl <| .yv (.load rfl Fx.agg79 (.tail _ <| .tail _ <| .head _) rfl) rfl <|
      .yv (.lenSl Fx.sl79 rfl) rfl <| .m rfl rfl <| .nl <| .tN <| .bk <| .lp (X := Nat × Option Addr × Value) [(0, _), (59, _), (60, _)] ⟨rfl, rfl, rfl, trivial⟩ (_ :: bs) (fun z => [(61, .int .i64 (z.1 : Nat))]) (fun z => H) (fun z => [.box b [.pointer z.2.1, z.2.2, .int .i64 (2 : Nat)] 112, .row 5 1 z.2.2 (t ++ lineT 1 [[99, 111, 109, 112, 111, 110, 101, 110, 116, 32], x.nm, [32, 123]] ++ (x.vars.map (vrT 2)).flatten ++ vssT 2 0 (x.vers.take z.1)).length ((t ++ lineT 1 [[99, 111, 109, 112, 111, 110, 101, 110, 116, 32], x.nm, [32, 123]] ++ (x.vars.map (vrT 2)).flatten ++ vssT 2 0 (x.vers.take z.1)).map byteV)]) (fun z => z.1 ≤ x.vers.length ∧ (z.2.1 = none ∨ z.2.1 = some ⟨b, 0, none⟩)) (fun z => x.vers.length - z.1) (0, a, r) (fun _ s => by have s2 := s; simpa [vssT] using s2) ⟨rfl, trivial⟩ ⟨by simp, ha⟩ fun z hC => ?_
    obtain ⟨k, a, r⟩ := z
    dsimp only at hC ⊢
    obtain ⟨hk0, ha⟩ := hC
    refine .sq <| .rg <| .yv (.lss rfl rfl) rfl <| .nl <| .tN <| .sq <| .cd rfl (fun h62 => ?_) (fun h62 => ?_)
    · try simp only [decide_eq_true_eq] at h62
      have hk : k < x.vers.length := by omega
      obtain ⟨bE, oE, cE, hpE, rE, lE, mE⟩ := hs2.elem (map_at hk)
      cases hpE
      have hf1 := lall_at hk hf
      have hle := vssT_take 2 x.vers (k + 1)
      rw [vssT_succ hk, List.length_append] at hle
      generalize hx : x.vers[k] = v at rE hf1 hle
      refine .sk <| .tN <| .sq <| .bk <| .sq <| .rg <| .m rfl rfl <| .yv (.indexSl Fx.sl79 rfl rfl rfl (by omega) (q := oE + k * 1) rfl) rfl <| .yv (.loadMW rfl Fx.agg78 mE lE) rfl <|
        .al Fx.zero78 rfl fun b7 => .a rfl rfl <| .sV .head rfl rfl Fx.size78 lE rE.one rfl <| .nl <| .tN <| .sq <| .sq <| .rg <| .m rfl rfl <| .yv (.eql rfl rfl) rfl <|
        .nl <| .tN <| .cd rfl (fun h67 => ?_) (fun h67 => ?_)
      · try simp only [decide_eq_true_eq] at h67
        have q : k = 0 := by omega
        rw [vsT, if_pos q] at hle
        exact .sq <| .rg <| .m rfl rfl <| .yv (.loadW rfl Fx.agg78 (.head _) lE) rfl <| .cs (X := Option Addr × Value) Fx.call71 rfl (fun W s => handlers_any H G g _ _ _ _ _ _ _ _ _ _ rE hf1 ha (by (try simp only [List.length_append]); omega) (by omega) (s.pickT (hd := [_, _, _, _]) (tl := bs) (hd' := [_, _, _, _]) [1, 2, 0, 3] rfl rfl)) rfl fun z70 hz70 => .nl <|
          .tN <| .ex <| .tE <| .bE <| .tN <| .rg <| .yv (.add rfl rfl (w64 (by omega) (by omega))) rfl <| .m rfl rfl <| .nl <| .tN <| .ag (x := (k, a, r)) (k + 1, z70.1, z70.2) ⟨rfl, trivial⟩ ⟨rfl, rfl, rfl, trivial⟩ (fun _ s => by have s2 := (s.pickT (hd := [_, _, _, _]) (tl := bs) (hd' := [_, _, _]) [0, 1, 3] rfl rfl); dsimp only; rw [vssT_succ hk, hx]; (first | rw [vsT, if_pos q] | rw [vsT, if_neg q]); (try simp only [List.append_assoc] at s2 ⊢); (try simp only [List.cons_append] at s2 ⊢); (try simp only [List.nil_append] at s2 ⊢); (try simp only [List.append_nil] at s2 ⊢); exact s2) ⟨by dsimp only; omega, hz70⟩ (by dsimp only; omega)
      · try simp only [decide_eq_false_iff_not] at h67
        have q : ¬ k = 0 := by omega
        rw [vsT, if_neg q, show (2 : Nat) + 1 = 3 from rfl] at hle
        simp only [List.length_append] at hle
        exact .sk <| .tN <| .sq <| .rg <| .m rfl rfl <| .m rfl rfl <| .yv (.add rfl rfl (c := ((k + 1 : Nat) : Int)) ((w64 (by omega) (by omega)).trans (by omega))) rfl <|
          .yv (.call Fx.call44 rfl (fun W s => itoa_any H g _ (by omega) (by omega) W s.agr)) rfl <| .bl rfl (Fx.bsl56_3 _ _ _) rfl fun b75 => .cs (X := Value) Fx.call42 rfl (fun W s => line_w (parts := [[118, 101, 114, 115, 105, 111, 110, 32], Lib.itoa ((k + 1 : Nat) : Int), [32, 123]]) ha (Nat.le_of_ble_eq_true rfl) (by (try simp only [List.length_append]); omega) (s.pickT (hd := [_, _, _, _, _]) (tl := bs) (hd' := [_, _, _, _, _]) [2, 3, 0, 1, 4] rfl rfl)) rfl fun r76 _ => .nl <|
          .tN <| .sq <| .rg <| .m rfl rfl <| .yv (.nilCheck rfl) rfl <| .yv (.fieldAddr rfl Fx.field112_1) rfl <| .yv (.load rfl Fx.agg3 (.head _) rfl) rfl <| .yv (.add rfl rfl (c := ((3 : Nat) : Int)) (by decide)) rfl <|
          .yv (.nilCheck rfl) rfl <| .yv (.fieldAddr rfl Fx.field112_1) rfl <| .st .head rfl rfl Fx.size3 rfl (Nat.le_of_ble_eq_true rfl) rfl <| .nl <| .tN <| .sq <| .rg <|
          .m rfl rfl <| .yv (.loadW rfl Fx.agg78 (.tail _ <| .tail _ <| .tail _ <| .head _) lE) rfl <| .cs (X := Option Addr × Value) Fx.call71 rfl (fun W s => handlers_any H G g _ _ _ _ _ _ _ _ _ _ rE hf1 (.inr rfl) (by (try simp only [List.length_append]); omega) (by omega) (s.pickT (hd := [_, _, _, _, _]) (tl := bs) (hd' := [_, _, _, _]) [0, 1, 3, 4] rfl rfl)) rfl fun z86 hz86 => .nl <|
          .tN <| .sq <| .rg <| .m rfl rfl <| .yv (.nilCheck rfl) rfl <| .yv (.fieldAddr rfl Fx.field112_1) rfl <| .yv (.load rfl Fx.agg3 (.head _) rfl) rfl <| .yv (.sub rfl rfl (c := ((2 : Nat) : Int)) (by decide)) rfl <|
          .yv (.nilCheck rfl) rfl <| .yv (.fieldAddr rfl Fx.field112_1) rfl <| .st .head rfl rfl Fx.size3 rfl (Nat.le_of_ble_eq_true rfl) rfl <| .nl <| .tN <| .rg <| .m rfl rfl <|
          .bl rfl (Fx.bsl56_1 _) rfl fun b95 => .cs (X := Value) Fx.call42 rfl (fun W s => line_w (parts := [[125]]) hz86 (Nat.le_of_ble_eq_true rfl) (by (try simp only [List.length_append]); omega) (s.pickT (hd := [_, _, _, _, _]) (tl := bs) (hd' := [_, _, _, _, _]) [1, 2, 0, 3, 4] rfl rfl)) rfl fun r96 _ => .nl <|
          .bN <| .tN <| .rg <| .yv (.add rfl rfl (w64 (by omega) (by omega))) rfl <| .m rfl rfl <| .nl <| .tN <| .ag (x := (k, a, r)) (k + 1, some ⟨b, 0, none⟩, r96) ⟨rfl, trivial⟩ ⟨rfl, rfl, rfl, trivial⟩ (fun _ s => by have s2 := (s.pickT (hd := [_, _, _, _, _]) (tl := bs) (hd' := [_, _, _]) [0, 1, 4] rfl rfl); dsimp only; rw [vssT_succ hk, hx]; (first | rw [vsT, if_pos q] | rw [vsT, if_neg q]); (try simp only [List.append_assoc] at s2 ⊢); (try simp only [List.cons_append] at s2 ⊢); (try simp only [List.nil_append] at s2 ⊢); (try simp only [List.append_nil] at s2 ⊢); exact s2) ⟨by dsimp only; omega, (.inr rfl)⟩ (by dsimp only; omega)
    · try simp only [decide_eq_false_iff_not] at h62
      obtain rfl : k = x.vers.length := by omega
      rw [List.take_length]
      refine .ex <| .tE <| .tE <| .bE <| .tN <| .sq <| .rg <| .m rfl rfl <| .yv (.nilCheck rfl) rfl <| .yv (.fieldAddr rfl Fx.field112_1) rfl <| .yv (.load rfl Fx.agg3 (.head _) rfl) rfl <|
        .yv (.sub rfl rfl (c := ((1 : Nat) : Int)) (by decide)) rfl <| .yv (.nilCheck rfl) rfl <| .yv (.fieldAddr rfl Fx.field112_1) rfl <| .st .head rfl rfl Fx.size3 rfl (Nat.le_of_ble_eq_true rfl) rfl <|
        .nl <| .tN <| .rg <| .m rfl rfl <| .bl rfl (Fx.bsl56_1 _) rfl fun b106 => .cs (X := Value) Fx.call42 rfl (fun W s => line_w (parts := [[125]]) ha (Nat.le_of_ble_eq_true rfl) (by (try simp only [List.length_append]); omega) (s.pickT (hd := [_, _, _, _]) (tl := bs) (hd' := [_, _, _, _]) [1, 2, 0, 3] rfl rfl)) rfl fun r107 _ => .nl <|
        ?_
      exact Sx.retN (.inr rfl) rfl .nil rfl fun W s => ⟨(_, _), (.inr rfl), rfl, by have s2 := (s.pickT (hd := [_, _, _, _]) (tl := bs) (hd' := [_, _]) [0, 1] rfl rfl); (rw [cpT]); (try simp only [List.append_assoc] at s2 ⊢); (try simp only [List.cons_append] at s2 ⊢); (try simp only [List.nil_append] at s2 ⊢); (try simp only [List.append_nil] at s2 ⊢); exact s2⟩
end Go.Proofs.YtmbiojpcidccjaaDoor
/- Contracts: Print, PrintExpr. -/
namespace Go.Proofs.YtmbiojpcidccjaaDoor
open Go.RowKit Go.Par Go.Sx
theorem string_w {H : Hp} {w0 W : World} {bs : List Res} {b : Nat} {a : Option Addr} {r i : Value} {l : Str} (s : St H w0 (.box b [.pointer a, r, i] 112 :: .row 5 1 r l.length (l.map byteV) :: bs) W) (h0 : l ≠ []) (hl : l.length ≤ 140737488355328) :
    Calls Tryd.prog 46 #[.pointer (some ⟨b, 0, none⟩)] W fun e W' => ∃ _ : Unit, True ∧ e = .returned (strV l) ∧ St H w0 [] W' := by
  have ho := (s.own _ (.tail _ (.head _))).1
  rcases ho.2 with ⟨_, h⟩ | ⟨g, cap, cur, rfl, _, _, h1, _⟩
  · exact absurd (List.eq_nil_of_length_eq_zero h) h0
  · exact string_st s h0 h1 hl
theorem tokF_good {x : Ft} (h : checkF x = 0) : x.comps.all (cpAll tokH) = true := by
  unfold checkF at h
  split at h
  · cases h
  split at h
  · cases h
  split at h
  · cases h
  rename_i h1 h2 h3
  simp only [Bool.not_eq_false, smlF, namF, frmF, Bool.and_eq_true] at h1 h2 h3
  have k1 := h1.2.2
  have k2 := h2.2
  have k3 := h3.2
  rw [evH_eq] at k1 k2 k3
  simp only [cpAll, List.all_eq_true] at k1 k2 k3 ⊢
  exact fun c hc v hv d hd => tok_good (k1 c hc v hv d hd) (k2 c hc v hv d hd) (k3 c hc v hv d hd)
set_option maxRecDepth 100000 in
theorem print_any (H : Hp) (G : Gl H) (g : Gt H) (x : Ft) (cs : List Value) (h : Rep H (dFt .u8 x) cs) (hok : evH okH x = true) (hl0 : checkF x = 0 → (ftT x).length ≤ 10000000000000) (w : World) (hA : Agr H w) :
    Calls Tryd.prog 24 #[.agg cs.toArray] w fun r w' => r = .returned (strV (if checkF x = 0 then ftT x else [])) ∧ Ext w w' := by
  obtain ⟨p1, c1, p2, c2, p3, c3, rfl, hn1, hs1, hs2, hs3⟩ := ft_open h
  have hcap1 := hs1.cap
  have hcap2 := hs2.cap
  have hcap3 := hs3.cap
  refine Sx.enter (H := H) Tryd.func24 rfl Tryd.ntmps24 rfl hA ?_
  refine .sq <| .rg <| .bx rfl rfl rfl fun b1 => .a rfl rfl <| .nl <| .tN <| .sq <| .sq <| .rg <| .yv (.loadW rfl Fx.agg86 (.head _) rfl) rfl <| .yv (.call Fx.call23 rfl (fun W s => check_any H G x _ h hok W s.agr)) rfl <|
    .yv (.neq rfl rfl) rfl <| .nl <| .tN <| .cd rfl (fun h12 => ?_) (fun h12 => ?_)
  · try simp only [decide_eq_true_eq] at h12
    refine .sq <| .rg <| .a rfl rfl <| .nl <| .tN <| .rt <| .tR <| ?_
    exact Sx.ret1 (.inl rfl) rfl (.tmp rfl) fun W s => ⟨by rw [if_neg (by omega)]; rfl, s.ext⟩
  · try simp only [decide_eq_false_iff_not] at h12
    have hck : checkF x = 0 := by simp at h12; omega
    have hl := hl0 hck
    rw [ftT] at hl
    simp only [List.length_append] at hl
    have h00 : ([] : Str).length = 0 := rfl
    have hf := tokF_good hck
    refine .sk <| .tN <| .sq <| .rg <| .yv (.build rfl Fx.bld112) rfl <| .bx rfl rfl rfl fun b => ?_
    refine Sx.row0 5 1 ?_
    refine .a rfl rfl <| .nl <| .tN <| .sq <| .rg <| .m rfl rfl <| .yv (.fieldAddr rfl Fx.field86_0) rfl <| .yv (.load rfl Fx.agg9 (.tail _ <| .tail _ <| .head _) rfl) rfl <|
      .bl rfl (Fx.bsl56_3 _ _ _) rfl fun b18 => .cs (X := Value) Fx.call42 rfl (fun W s => line_w (t := []) (parts := [[102, 108, 101, 101, 116, 32], x.nm, [32, 123]]) (.inl rfl) (Nat.le_of_ble_eq_true rfl) (by (try simp only [List.length_append]); omega) (s.pickT (hd := [_, _, _, _]) (tl := []) (hd' := [_, _, _, _]) [2, 1, 0, 3] rfl rfl)) rfl fun r19 _ => .nl <|
      .tN <| .sq <| .rg <| .m rfl rfl <| .yv (.nilCheck rfl) rfl <| .yv (.fieldAddr rfl Fx.field112_1) rfl <| .yv (.load rfl Fx.agg3 (.head _) rfl) rfl <| .yv (.add rfl rfl (c := ((1 : Nat) : Int)) (by decide)) rfl <|
      .yv (.nilCheck rfl) rfl <| .yv (.fieldAddr rfl Fx.field112_1) rfl <| .st .head rfl rfl Fx.size3 rfl (Nat.le_of_ble_eq_true rfl) rfl <| .nl <| .tN <| .sq <| .sq <|
      .rg <| .yv (.fieldAddr rfl Fx.field86_1) rfl <| .yv (.load rfl Fx.agg69 (.tail _ <| .tail _ <| .tail _ <| .head _) rfl) rfl <| .yv (.lenSl Fx.sl69 rfl) rfl <|
      .m rfl rfl <| .nl <| .tN <| .bk <| .lp (X := Nat × Option Addr × Value) [(1, _), (3, _), (28, _), (29, _)] ⟨rfl, rfl, rfl, rfl, trivial⟩ (_ :: []) (fun z => [(30, .int .i64 (z.1 : Nat))]) (fun z => H) (fun z => [.box b [.pointer z.2.1, z.2.2, .int .i64 (1 : Nat)] 112, .row 5 1 z.2.2 ([] ++ lineT 0 [[102, 108, 101, 101, 116, 32], x.nm, [32, 123]] ++ ((x.flags.take z.1).map fgT).flatten).length (([] ++ lineT 0 [[102, 108, 101, 101, 116, 32], x.nm, [32, 123]] ++ ((x.flags.take z.1).map fgT).flatten).map byteV)]) (fun z => z.1 ≤ x.flags.length ∧ (z.2.1 = none ∨ z.2.1 = some ⟨b, 0, none⟩)) (fun z => x.flags.length - z.1) (0, some ⟨b, 0, none⟩, r19) (fun _ s => by have s2 := (s.pickT (hd := [_, _, _, _]) (tl := []) (hd' := [_, _, _]) [0, 1, 3] rfl rfl); simpa using s2) ⟨rfl, trivial⟩ ⟨by simp, .inr rfl⟩ fun z hC => ?_
    obtain ⟨k, a, r⟩ := z
    dsimp only at hC ⊢
    obtain ⟨hk0, ha⟩ := hC
    refine .sq <| .rg <| .yv (.lss rfl rfl) rfl <| .nl <| .tN <| .sq <| .cd rfl (fun h31 => ?_) (fun h31 => ?_)
    · try simp only [decide_eq_true_eq] at h31
      have hk : k < x.flags.length := by omega
      obtain ⟨bE, oE, cE, hpE, rE, lE, mE⟩ := hs1.elem (map_at hk)
      cases hpE
      have hle := mflat_take (g := fgT) x.flags (k + 1)
      rw [mflat_succ hk, List.length_append] at hle
      generalize hx : x.flags[k] = v at rE hle
      obtain ⟨rfl, hn2⟩ := fg_open rE
      rw [fgT] at hle
      exact .sk <| .tN <| .sq <| .bk <| .sq <| .rg <| .yv (.indexSl Fx.sl69 rfl rfl rfl (by omega) (q := oE + k * 2) rfl) rfl <| .yv (.loadMW rfl Fx.agg68 mE rfl) rfl <|
        .al Fx.zero68 rfl fun b5 => .sW .head rfl rfl Fx.size68 (by simp [Value.oneCell', strV]) rfl <| .nl <| .tN <| .fl (trip := [(_, _, _), (_, _, _), (_, _, _), (_, _, _), (_, _, _), (_, _, _), (_, _, _)]) 7 [(0, 0), (1, 0), (2, 0), (3, 0), (4, 0), (5, 0), (6, 1)] (by kernel_rfl) (by kernel_rfl) rfl <|
        .m rfl rfl <| .yv (.fieldAddr rfl Fx.field68_0) rfl <| .yv (.load rfl Fx.agg9 (.head _) rfl) rfl <| .yv (.fieldAddr rfl Fx.field68_1) rfl <| .yv (.load rfl Fx.agg4 (.head _) rfl) rfl <|
        .yv (.call Fx.call43 rfl (fun W s => formatBool_any _ W)) rfl <| .bl rfl (Fx.bsl56_5 _ _ _ _ _) rfl fun b40 => .fn (tl := [_]) rfl <| .cs (X := Value) Fx.call42 rfl (fun W s => line_w (parts := [[102, 108, 97, 103, 32], v.nm, [32, 61, 32], boolT v.init, [59]]) ha (Nat.le_of_ble_eq_true rfl) (by (try simp only [List.length_append]); omega) (s.pickT (hd := [_, _, _, _, _]) (tl := []) (hd' := [_, _, _, _, _]) [2, 3, 0, 1, 4] rfl rfl)) rfl fun r41 _ => .nl <|
        .bN <| .tN <| .rg <| .yv (.add rfl rfl (w64 (by omega) (by omega))) rfl <| .m rfl rfl <| .nl <| .tN <| .ag (x := (k, a, r)) (k + 1, some ⟨b, 0, none⟩, r41) ⟨rfl, trivial⟩ ⟨rfl, rfl, rfl, rfl, trivial⟩ (fun _ s => by have s2 := (s.pickT (hd := [_, _, _, _, _]) (tl := []) (hd' := [_, _, _]) [0, 1, 4] rfl rfl); dsimp only; rw [mflat_succ hk, hx, fgT]; (try simp only [List.append_assoc] at s2 ⊢); (try simp only [List.cons_append] at s2 ⊢); (try simp only [List.nil_append] at s2 ⊢); (try simp only [List.append_nil] at s2 ⊢); exact s2) ⟨by dsimp only; omega, (.inr rfl)⟩ (by dsimp only; omega)
    · try simp only [decide_eq_false_iff_not] at h31
      obtain rfl : k = x.flags.length := by omega
      rw [List.take_length]
      refine .ex <| .tE <| .tE <| .bE <| .tN <| .sq <| .sq <| .rg <| .yv (.fieldAddr rfl Fx.field86_2) rfl <| .yv (.load rfl Fx.agg84 (.tail _ <| .tail _ <| .head _) rfl) rfl <|
        .yv (.lenSl Fx.sl84 rfl) rfl <| .m rfl rfl <| .nl <| .tN <| .bk <| .lp (X := Nat × Option Addr × Value) [(1, _), (3, _), (44, _), (45, _)] ⟨rfl, rfl, rfl, rfl, trivial⟩ (_ :: []) (fun z => [(46, .int .i64 (z.1 : Nat))]) (fun z => H) (fun z => [.box b [.pointer z.2.1, z.2.2, .int .i64 (1 : Nat)] 112, .row 5 1 z.2.2 ([] ++ lineT 0 [[102, 108, 101, 101, 116, 32], x.nm, [32, 123]] ++ (x.flags.map fgT).flatten ++ ((x.links.take z.1).map lkT).flatten).length (([] ++ lineT 0 [[102, 108, 101, 101, 116, 32], x.nm, [32, 123]] ++ (x.flags.map fgT).flatten ++ ((x.links.take z.1).map lkT).flatten).map byteV)]) (fun z => z.1 ≤ x.links.length ∧ (z.2.1 = none ∨ z.2.1 = some ⟨b, 0, none⟩)) (fun z => x.links.length - z.1) (0, a, r) (fun _ s => by have s2 := s; simpa using s2) ⟨rfl, trivial⟩ ⟨by simp, ha⟩ fun z hC => ?_
      obtain ⟨k, a, r⟩ := z
      dsimp only at hC ⊢
      obtain ⟨hk0, ha⟩ := hC
      refine .sq <| .rg <| .yv (.lss rfl rfl) rfl <| .nl <| .tN <| .sq <| .cd rfl (fun h47 => ?_) (fun h47 => ?_)
      · try simp only [decide_eq_true_eq] at h47
        have hk : k < x.links.length := by omega
        obtain ⟨bE, oE, cE, hpE, rE, lE, mE⟩ := hs2.elem (map_at hk)
        cases hpE
        have hle := mflat_take (g := lkT) x.links (k + 1)
        rw [mflat_succ hk, List.length_append] at hle
        generalize hx : x.links[k] = v at rE hle
        obtain ⟨rfl, hn2, hn3⟩ := lk_open rE
        rw [lkT] at hle
        exact .sk <| .tN <| .sq <| .bk <| .sq <| .rg <| .yv (.indexSl Fx.sl84 rfl rfl rfl (by omega) (q := oE + k * 3) rfl) rfl <| .yv (.loadMW rfl Fx.agg116 mE rfl) rfl <|
          .al Fx.zero116 rfl fun b7 => .sW .head rfl rfl Fx.size116 (by simp [Value.oneCell', strV]) rfl <| .nl <| .tN <| .fl (trip := [(_, _, _), (_, _, _), (_, _, _), (_, _, _), (_, _, _), (_, _, _), (_, _, _), (_, _, _), (_, _, _)]) 9 [(0, 0), (1, 0), (2, 0), (3, 0), (4, 0), (5, 0), (6, 0), (7, 0), (8, 1)] (by kernel_rfl) (by kernel_rfl) rfl <|
          .m rfl rfl <| .yv (.fieldAddr rfl Fx.field116_0) rfl <| .yv (.load rfl Fx.agg9 (.head _) rfl) rfl <| .yv (.fieldAddr rfl Fx.field116_1) rfl <| .yv (.load rfl Fx.agg9 (.head _) rfl) rfl <|
          .yv (.fieldAddr rfl Fx.field116_2) rfl <| .yv (.load rfl Fx.agg3 (.head _) rfl) rfl <| .yv (.call Fx.call44 rfl (fun W s => itoa_any H g _ (by have := v.lat.le_toInt; omega) (by have := v.lat.toInt_lt; omega) W s.agr)) rfl <|
          .bl rfl (Fx.bsl56_7 _ _ _ _ _ _ _) rfl fun b58 => .fn (tl := [_]) rfl <| .cs (X := Value) Fx.call42 rfl (fun W s => line_w (parts := [[108, 105, 110, 107, 32], v.fr, [32, 45, 62, 32], v.to, [32, 108, 97, 116, 101, 110, 99, 121, 32], Lib.itoa v.lat.toInt, [59]]) ha (Nat.le_of_ble_eq_true rfl) (by (try simp only [List.length_append]); omega) (s.pickT (hd := [_, _, _, _, _]) (tl := []) (hd' := [_, _, _, _, _]) [2, 3, 0, 1, 4] rfl rfl)) rfl fun r59 _ => .nl <|
          .bN <| .tN <| .rg <| .yv (.add rfl rfl (w64 (by omega) (by omega))) rfl <| .m rfl rfl <| .nl <| .tN <| .ag (x := (k, a, r)) (k + 1, some ⟨b, 0, none⟩, r59) ⟨rfl, trivial⟩ ⟨rfl, rfl, rfl, rfl, trivial⟩ (fun _ s => by have s2 := (s.pickT (hd := [_, _, _, _, _]) (tl := []) (hd' := [_, _, _]) [0, 1, 4] rfl rfl); dsimp only; rw [mflat_succ hk, hx, lkT]; (try simp only [List.append_assoc] at s2 ⊢); (try simp only [List.cons_append] at s2 ⊢); (try simp only [List.nil_append] at s2 ⊢); (try simp only [List.append_nil] at s2 ⊢); exact s2) ⟨by dsimp only; omega, (.inr rfl)⟩ (by dsimp only; omega)
      · try simp only [decide_eq_false_iff_not] at h47
        obtain rfl : k = x.links.length := by omega
        rw [List.take_length]
        refine .ex <| .tE <| .tE <| .bE <| .tN <| .sq <| .sq <| .rg <| .yv (.fieldAddr rfl Fx.field86_3) rfl <| .yv (.load rfl Fx.agg83 (.tail _ <| .tail _ <| .head _) rfl) rfl <|
          .yv (.lenSl Fx.sl83 rfl) rfl <| .m rfl rfl <| .nl <| .tN <| .bk <| .lp (X := Nat × Option Addr × Value) [(3, _), (62, _), (63, _)] ⟨rfl, rfl, rfl, trivial⟩ (_ :: []) (fun z => [(64, .int .i64 (z.1 : Nat))]) (fun z => H) (fun z => [.box b [.pointer z.2.1, z.2.2, .int .i64 (1 : Nat)] 112, .row 5 1 z.2.2 ([] ++ lineT 0 [[102, 108, 101, 101, 116, 32], x.nm, [32, 123]] ++ (x.flags.map fgT).flatten ++ (x.links.map lkT).flatten ++ ((x.comps.take z.1).map cpT).flatten).length (([] ++ lineT 0 [[102, 108, 101, 101, 116, 32], x.nm, [32, 123]] ++ (x.flags.map fgT).flatten ++ (x.links.map lkT).flatten ++ ((x.comps.take z.1).map cpT).flatten).map byteV)]) (fun z => z.1 ≤ x.comps.length ∧ (z.2.1 = none ∨ z.2.1 = some ⟨b, 0, none⟩)) (fun z => x.comps.length - z.1) (0, a, r) (fun _ s => by have s2 := s; simpa using s2) ⟨rfl, trivial⟩ ⟨by simp, ha⟩ fun z hC => ?_
        obtain ⟨k, a, r⟩ := z
        dsimp only at hC ⊢
        obtain ⟨hk0, ha⟩ := hC
        refine .sq <| .rg <| .yv (.lss rfl rfl) rfl <| .nl <| .tN <| .sq <| .cd rfl (fun h65 => ?_) (fun h65 => ?_)
        · try simp only [decide_eq_true_eq] at h65
          have hk : k < x.comps.length := by omega
          obtain ⟨bE, oE, cE, hpE, rE, lE, mE⟩ := hs3.elem (map_at hk)
          cases hpE
          have hle := mflat_take (g := cpT) x.comps (k + 1)
          rw [mflat_succ hk, List.length_append] at hle
          have hf1 := lall_at hk hf
          generalize hx : x.comps[k] = v at rE hle hf1
          exact .sk <| .tN <| .sq <| .bk <| .sq <| .rg <| .yv (.indexSl Fx.sl83 rfl rfl rfl (by omega) (q := oE + k * 3) rfl) rfl <| .yv (.loadMW rfl Fx.agg82 mE lE) rfl <|
            .al Fx.zero82 rfl fun b9 => .sV .head rfl rfl Fx.size82 lE rE.one rfl <| .nl <| .tN <| .rg <| .m rfl rfl <| .yv (.loadW rfl Fx.agg82 (.head _) lE) rfl <| .cs (X := Option Addr × Value) Fx.call45 rfl (fun W s => component_any H G g _ _ _ _ _ _ _ _ _ rE hf1 ha (by (try simp only [List.length_append]); omega) (s.pickT (hd := [_, _, _, _]) (tl := []) (hd' := [_, _, _, _]) [1, 2, 0, 3] rfl rfl)) rfl fun z70 hz70 => .nl <|
            .bN <| .tN <| .rg <| .yv (.add rfl rfl (w64 (by omega) (by omega))) rfl <| .m rfl rfl <| .nl <| .tN <| .ag (x := (k, a, r)) (k + 1, z70.1, z70.2) ⟨rfl, trivial⟩ ⟨rfl, rfl, rfl, trivial⟩ (fun _ s => by have s2 := (s.pickT (hd := [_, _, _, _]) (tl := []) (hd' := [_, _, _]) [0, 1, 3] rfl rfl); dsimp only; rw [mflat_succ hk, hx]; (try simp only [List.append_assoc] at s2 ⊢); (try simp only [List.cons_append] at s2 ⊢); (try simp only [List.nil_append] at s2 ⊢); (try simp only [List.append_nil] at s2 ⊢); exact s2) ⟨by dsimp only; omega, hz70⟩ (by dsimp only; omega)
        · try simp only [decide_eq_false_iff_not] at h65
          obtain rfl : k = x.comps.length := by omega
          rw [List.take_length]
          refine .ex <| .tE <| .tE <| .bE <| .tN <| .sq <| .rg <| .m rfl rfl <| .yv (.nilCheck rfl) rfl <| .yv (.fieldAddr rfl Fx.field112_1) rfl <| .yv (.load rfl Fx.agg3 (.head _) rfl) rfl <|
            .yv (.sub rfl rfl (c := ((0 : Nat) : Int)) (by decide)) rfl <| .yv (.nilCheck rfl) rfl <| .yv (.fieldAddr rfl Fx.field112_1) rfl <| .st .head rfl rfl Fx.size3 rfl (Nat.le_of_ble_eq_true rfl) rfl <|
            .nl <| .tN <| .sq <| .rg <| .m rfl rfl <| .bl rfl (Fx.bsl56_1 _) rfl fun b80 => .cs (X := Value) Fx.call42 rfl (fun W s => line_w (parts := [[125]]) ha (Nat.le_of_ble_eq_true rfl) (by (try simp only [List.length_append]); omega) (s.pickT (hd := [_, _, _, _]) (tl := []) (hd' := [_, _, _, _]) [1, 2, 0, 3] rfl rfl)) rfl fun r81 _ => .nl <|
            .tN <| .sq <| .rg <| .m rfl rfl <| .yv (.nilCheck rfl) rfl <| .yv (.fieldAddr rfl Fx.field112_0) rfl <| .cs (X := Unit) Fx.call46 rfl (fun W s => string_w (s.pickT (hd := [_, _, _, _]) (tl := []) (hd' := [_, _]) [0, 1] rfl rfl) (by simp [lineT]) (by (try simp only [List.length_append]); omega)) rfl fun _ _ => .a rfl rfl <|
            .nl <| .tN <| .rt <| ?_
          exact Sx.ret1 (.inl rfl) rfl (.tmp rfl) fun W s => ⟨by rw [if_pos hck, ftT]; simp, s.ext⟩
theorem textE_good {e : Ex} (h : checkE e = 0) : Ex.all frmE e = true ∧ e.text.length ≤ 1000000000 := by
  unfold checkE at h
  split at h
  · cases h
  split at h
  · cases h
  split at h
  · cases h
  rename_i h1 h2 h3
  have := text_len8 (e := e) (by omega) (by simpa using h2) (by simpa using h3)
  exact ⟨by simpa using h3, by omega⟩
theorem ex_len {H : Hp} {k : IntKind} {e : Ex} {cs : List Value} (h : Rep H (dEx k e) cs) : cs.length = 4 := by
  obtain ⟨op, nm, n, args⟩ := e
  obtain ⟨p, c, rfl, _⟩ := ex_open h
  rfl
set_option maxRecDepth 100000 in
theorem printExpr_any (H : Hp) (G : Gl H) (g : Gt H) (e : Ex) (cs : List Value) (h : Rep H (dEx .u8 e) cs) (he : e.depth ≤ 1000000) (w : World) (hA : Agr H w) :
    Calls Tryd.prog 12 #[.agg cs.toArray] w fun r w' => r = .returned (strV (if checkE e = 0 then e.text else [])) ∧ Ext w w' := by
  refine Sx.enter (H := H) Tryd.func12 rfl Tryd.ntmps12 rfl hA ?_
  refine .sq <| .rg <| .bx rfl rfl rfl fun b1 => .a rfl rfl <| .nl <| .tN <| .sq <| .sq <| .rg <| .yv (.loadW rfl Fx.agg31 (.head _) (ex_len h)) rfl <| .yv (.call Fx.call11 rfl (fun W s => checkExpr_any H G e _ h he W s.agr)) rfl <|
    .yv (.neq rfl rfl) rfl <| .nl <| .tN <| .cd rfl (fun h5 => ?_) (fun h5 => ?_)
  · try simp only [decide_eq_true_eq] at h5
    refine .sq <| .rg <| .a rfl rfl <| .nl <| .tN <| .rt <| .tR <| ?_
    refine Sx.ret1 (.inl rfl) rfl (.tmp rfl) fun W s => ⟨?_, s.ext⟩
    first
      | (rw [if_neg (by omega)]; rfl)
      | (rw [if_pos hck])
  · try simp only [decide_eq_false_iff_not] at h5
    have hck : checkE e = 0 := by simp at h5; omega
    obtain ⟨hf, hl⟩ := textE_good hck
    refine .sk <| .tN <| .sq <| .rg <| .yv (.loadW rfl Fx.agg31 (.head _) (ex_len h)) rfl <| .yv (.call Fx.call35 rfl (fun W s => text_any H G g e _ W h hf hl s.agr)) rfl <|
      .a rfl rfl <| .nl <| .tN <| .rt <| ?_
    refine Sx.ret1 (.inl rfl) rfl (.tmp rfl) fun W s => ⟨?_, s.ext⟩
    first
      | (rw [if_neg (by omega)]; rfl)
      | (rw [if_pos hck])
end Go.Proofs.YtmbiojpcidccjaaDoor
/- Contract: awake. -/
namespace Go.Proofs.YtmbiojpcidccjaaDoor
open Go.RowKit Go.Par Go.Sx
theorem eqSt {P : Program} {L : Sl} {H : Hp} {w0 : World} {bs : List Res} {d : Option Tmp} {ty : TypeId} {pos : String} {aft : Array Edge} {g : Option (Nat × Bool)} {x y : Operand} {T T' : TypeId} {a : Str} (hx : ev L x = some (strV a)) (hy : ev L y = some (strV a)) : Yl P L H w0 bs ⟨d, .binOp .eql T x y T', ty, pos, aft, g⟩ (.bool true) :=
  (Yl.eqS hx hy).cast (by rw [decide_eq_true rfl])
/-- The fleet and the expression of the examples. -/
def awS : Sm := .mk 8 [] [] [(.mk 5 [120] 0 []), (.mk 1 [] 1 [])] [] [.mk 10 [] [] [] [] []]
def awF : Ft := ⟨[112], [⟨[102], true⟩], [], [⟨[99], [], [[⟨[104], [[120]], [awS]⟩]]⟩]⟩
def awT : Str := [102, 108, 101, 101, 116, 32, 112, 32, 123, 10, 32, 32, 102, 108, 97, 103, 32, 102, 32, 61, 32, 116, 114, 117, 101, 59, 10, 32, 32, 99, 111, 109, 112, 111, 110, 101, 110, 116, 32, 99, 32, 123, 10, 32, 32, 32, 32, 111, 110, 32, 104, 40, 120, 41, 32, 123, 10, 32, 32, 32, 32, 32, 32, 115, 116, 111, 114, 101, 32, 120, 32, 61, 32, 49, 32, 101, 108, 115, 101, 32, 123, 10, 32, 32, 32, 32, 32, 32, 32, 32, 115, 116, 111, 112, 59, 10, 32, 32, 32, 32, 32, 32, 125, 10, 32, 32, 32, 32, 125, 10, 32, 32, 125, 10, 125, 10]
def awE : Ex := .mk 11 [] 0 [.mk 14 [] 0 [(.mk 5 [97] 0 []), (.mk 1 [] 1 [])], .mk 9 [] 0 [.mk 15 [] 0 [(.mk 5 [98] 0 []), (.mk 5 [99] 0 [])]]]
def awU : Str := [40, 97, 32, 43, 32, 49, 41, 32, 42, 32, 45, 40, 98, 32, 45, 32, 99, 41]
theorem itoa1 : Lib.itoa 1 = [49] := by rw [Lib.itoa, if_neg (by decide)]; exact Lib.decDigits_one (by decide)
theorem awF_check : checkF awF = 0 := by decide +kernel
theorem awF_ok : evH okH awF = true := by decide +kernel
theorem awE_check : checkE awE = 0 := by decide +kernel
theorem awE_depth : awE.depth ≤ 1000000 := by decide +kernel
theorem awE_text : awE.text = awU := by
  have h : Ex.text (.mk 1 [] 1 []) = [49] := by rw [text_mk, txt, if_pos rfl]; exact itoa1
  have hs : Ex.texts [(.mk 5 [97] 0 []), (.mk 1 [] 1 [])] = [(7, [97]), (7, [49])] := by rw [Ex.texts, Ex.texts, Ex.texts, h]; rfl
  rw [awE, Ex.text, Ex.texts, Ex.text, hs]; decide +kernel
theorem awS_text : Sm.texts 3 [awS] = [32, 32, 32, 32, 32, 32, 115, 116, 111, 114, 101, 32, 120, 32, 61, 32, 49, 32, 101, 108, 115, 101, 32, 123, 10, 32, 32, 32, 32, 32, 32, 32, 32, 115, 116, 111, 112, 59, 10, 32, 32, 32, 32, 32, 32, 125, 10] := by
  have h : Ex.text (.mk 1 [] 1 []) = [49] := by rw [text_mk, txt, if_pos rfl]; exact itoa1
  rw [awS, Sm.texts, stext_mk, List.map_cons, List.map_cons, h]; decide +kernel
theorem awF_text : ftT awF = awT := by
  simp only [ftT, awF, List.map_cons, List.map_nil, cpT, vssT, vsT, if_true, hdsT, hdT]
  rw [show (2 : Nat) + 1 = 3 from rfl, awS_text]; decide +kernel
set_option maxRecDepth 100000 in
theorem name_any (H : Hp) (l : Str) (w : World) (hA : Agr H w) : Calls Tryd.prog 22 #[strV l] w fun r w' => r = .returned (.agg [.int .u8 (5 : UInt8).toNat, strV l, .int .i64 (0 : Int64).toInt, .slice none 0 0].toArray) ∧ Ext w w' := by
  refine Sx.enter (H := H) Tryd.func22 rfl Tryd.ntmps22 rfl hA ?_
  refine .sq <| .rg <| .al Fx.zero31 rfl fun b2 => .nl <| .tN <| .sq <| .rg <| .m rfl rfl <| .yv (.build rfl (Fx.bld31_0_1 _ _)) rfl <| .sW .head rfl rfl Fx.size31 (by simp [Value.oneCell', strV]) rfl <|
    .nl <| .tN <| .rt <| ?_
  exact Sx.ret1 (.inl rfl) rfl (.cell rfl Fx.agg31 (.head _) rfl) fun W s => ⟨rfl, s.ext⟩
theorem check_aw {H : Hp} (G : Gl H) {cs : List Value} (h : Rep H (dFt .u8 awF) cs) (w : World) (hA : Agr H w) : Calls Tryd.prog 23 #[.agg cs.toArray] w fun r w' => r = .returned (.int .i64 0) ∧ Ext w w' :=
  (check_any H G awF cs h awF_ok w hA).mono fun _ _ ⟨he, hx⟩ => ⟨by rw [he, awF_check]; rfl, hx⟩
theorem print_aw {H : Hp} (G : Gl H) (g : Gt H) {cs : List Value} (h : Rep H (dFt .u8 awF) cs) (w : World) (hA : Agr H w) : Calls Tryd.prog 24 #[.agg cs.toArray] w fun r w' => r = .returned (strV awT) ∧ Ext w w' :=
  (print_any H G g awF cs h awF_ok (fun _ => by rw [awF_text]; decide) w hA).mono fun _ _ ⟨he, hx⟩ => ⟨by rw [he, if_pos awF_check, awF_text], hx⟩
theorem printE_aw {H : Hp} (G : Gl H) (g : Gt H) {cs : List Value} (h : Rep H (dEx .u8 awE) cs) (w : World) (hA : Agr H w) : Calls Tryd.prog 12 #[.agg cs.toArray] w fun r w' => r = .returned (strV awU) ∧ Ext w w' :=
  (printExpr_any H G g awE cs h awE_depth w hA).mono fun _ _ ⟨he, hx⟩ => ⟨by rw [he, if_pos awE_check, awE_text], hx⟩
set_option maxRecDepth 100000 in
theorem awake_any (H : Hp) (G : Gl H) (g : Gt H) (w : World) (hA : Agr H w) : Calls Tryd.prog 6 #[] w fun r w' => r = .returned (.bool true) ∧ Ext w w' := by
  refine Sx.enter (H := H) Tryd.func6 rfl Tryd.ntmps6 rfl hA ?_
  refine .sq <| .rg <| .a rfl rfl <| .nl <| .tN <| .sq <| .rg <| .yv (.build rfl (Fx.bld68_0_1 _ _)) rfl <| .bl rfl (Fx.bsl69_1 _ _) rfl fun b4 => .bl rfl (Fx.bsl56_1 _) rfl fun b5 => .yv (.call Fx.call22 rfl (fun W s => name_any _ [120] W s.agr)) rfl <|
    .yv (.build rfl (Fx.bld31_0_2 _ _)) rfl <| .bl rfl (Fx.bsl29_2 _ _ _ _ _ _ _ _) rfl fun b8 => .yv (.build rfl (Fx.bld73_0 _)) rfl <| .bl rfl (Fx.bsl60_1 _ _ _ _ _ _) rfl fun b10 => .yv (.build rfl (Fx.bld73_0_3_5 _ _ _ _ _ _ _)) rfl <|
    .bl rfl (Fx.bsl60_1 _ _ _ _ _ _) rfl fun b12 => .yv (.build rfl (Fx.bld75_0_1_2 _ _ _ _ _ _ _)) rfl <| .bl rfl (Fx.bsl76_1 _ _ _) rfl fun b14 => .yv (.build rfl (Fx.bld78_0 _ _ _)) rfl <|
    .bl rfl (Fx.bsl79_1 _) rfl fun b16 => .yv (.build rfl (Fx.bld82_0_2 _ _ _ _)) rfl <| .bl rfl (Fx.bsl83_1 _ _ _) rfl fun b18 => .yv (.build rfl (Fx.bld86_0_1_3 _ _ _ _ _ _ _)) rfl <|
    .al Fx.zero86 rfl fun b1 => .sW .head rfl rfl Fx.size86 (by simp [Value.oneCell', strV]) rfl <| .nl <| .tN <| .sq <| .rg <| .yv (.call Fx.call22 rfl (fun W s => name_any _ [97] W s.agr)) rfl <|
    .yv (.build rfl (Fx.bld31_0_2 _ _)) rfl <| .bl rfl (Fx.bsl29_2 _ _ _ _ _ _ _ _) rfl fun b22 => .yv (.build rfl (Fx.bld31_0_3 _ _ _ _)) rfl <| .yv (.call Fx.call22 rfl (fun W s => name_any _ [98] W s.agr)) rfl <|
    .yv (.call Fx.call22 rfl (fun W s => name_any _ [99] W s.agr)) rfl <| .bl rfl (Fx.bsl29_2 _ _ _ _ _ _ _ _) rfl fun b26 => .yv (.build rfl (Fx.bld31_0_3 _ _ _ _)) rfl <|
    .bl rfl (Fx.bsl29_1 _ _ _ _) rfl fun b28 => .yv (.build rfl (Fx.bld31_0_3 _ _ _ _)) rfl <| .bl rfl (Fx.bsl29_2 _ _ _ _ _ _ _ _) rfl fun b30 => .yv (.build rfl (Fx.bld31_0_3 _ _ _ _)) rfl <|
    .al Fx.zero31 rfl fun b2 => .sW .head rfl rfl Fx.size31 (by simp [Value.oneCell', strV]) rfl <| ?_
  refine At.pm [13, 12, 11, 10, 9, 8, 7, 6, 4, 3, 2, 1, 5, 0] [_, _, _, _, _, _, _, _, _, _, _, _, _, _] rfl rfl ?_
  refine Sx.freezeBox fun H1 u1 m4 => ?_
  refine Sx.freezeBox fun H2 u2 m5 => ?_
  refine Sx.freezeBox fun H3 u3 m8 => ?_
  refine Sx.freezeBox fun H4 u4 m10 => ?_
  refine Sx.freezeBox fun H5 u5 m12 => ?_
  refine Sx.freezeBox fun H6 u6 m14 => ?_
  refine Sx.freezeBox fun H7 u7 m16 => ?_
  refine Sx.freezeBox fun H8 u8 m18 => ?_
  refine Sx.freezeBox fun H9 u9 m22 => ?_
  refine Sx.freezeBox fun H10 u10 m26 => ?_
  refine Sx.freezeBox fun H11 u11 m28 => ?_
  refine Sx.freezeBox fun H12 u12 m30 => ?_
  have v12 : Up H12 H12 := Up.refl _
  have v11 : Up H11 H12 := u12.up.trans v12
  have v10 : Up H10 H12 := u11.up.trans v11
  have v9 : Up H9 H12 := u10.up.trans v10
  have v8 : Up H8 H12 := u9.up.trans v9
  have v7 : Up H7 H12 := u8.up.trans v8
  have v6 : Up H6 H12 := u7.up.trans v7
  have v5 : Up H5 H12 := u6.up.trans v6
  have v4 : Up H4 H12 := u5.up.trans v5
  have v3 : Up H3 H12 := u4.up.trans v4
  have v2 : Up H2 H12 := u3.up.trans v3
  have v1 : Up H1 H12 := u2.up.trans v2
  have v0 : Up H H12 := u1.up.trans v1
  have rF := ft_shut (k := .u8) (x := awF) (by decide) (Rep.mk (n := 1) (c := 1) (m4.up v1) (.single (fg_shut (by decide)) rfl) rfl (Nat.le_refl _) (by decide)) (Rep.empty (p := none) (c := 0) (by decide)) (Rep.mk (n := 1) (c := 1) (m18.up v8) (.single (cp_shut (x := ⟨[99], [], [[⟨[104], [[120]], [awS]⟩]]⟩) (by decide) (Rep.empty (p := none) (c := 0) (by decide)) (Rep.mk (n := 1) (c := 1) (m16.up v7) (.single (Rep.mk (n := 1) (c := 1) (m14.up v6) (.single (hd_shut (x := ⟨[104], [[120]], [awS]⟩) (by decide) (Rep.mk (n := 1) (c := 1) (m5.up v2) (.single (str_shut (by decide)) rfl) rfl (Nat.le_refl _) (by decide)) (Rep.mk (n := 1) (c := 1) (m12.up v5) (.single (sm_shut (kd := 8) (nm := []) (hd := []) (th := []) (by decide) (by decide) (Rep.mk (n := 2) (c := 2) (m8.up v3) (RepZ.app (RepZ.single (ex_shut (op := 5) (nm := [120]) (n := 0) (args := []) (by decide) (Rep.empty (p := none) (c := 0) (by decide))) rfl) (RepZ.single (ex_shut (op := 1) (nm := []) (n := 1) (args := []) (by decide) (Rep.empty (p := none) (c := 0) (by decide))) rfl)) rfl (Nat.le_refl _) (by decide)) (Rep.empty (p := none) (c := 0) (by decide)) (Rep.mk (n := 1) (c := 1) (m10.up v4) (.single (sm_shut (kd := 10) (nm := []) (hd := []) (ex := []) (th := []) (el := []) (by decide) (by decide) (Rep.empty (p := none) (c := 0) (by decide)) (Rep.empty (p := none) (c := 0) (by decide)) (Rep.empty (p := none) (c := 0) (by decide))) rfl) rfl (Nat.le_refl _) (by decide))) rfl) rfl (Nat.le_refl _) (by decide))) rfl) rfl (Nat.le_refl _) (by decide)) rfl) rfl (Nat.le_refl _) (by decide))) rfl) rfl (Nat.le_refl _) (by decide))
  have rE : Rep H12 (dEx .u8 awE) _ := (ex_shut (op := 11) (nm := []) (n := 0) (args := [.mk 14 [] 0 [.mk 5 [97] 0 [], .mk 1 [] 1 []], .mk 9 [] 0 [.mk 15 [] 0 [.mk 5 [98] 0 [], .mk 5 [99] 0 []]]]) (by decide) (Rep.mk (n := 2) (c := 2) (m30.up v12) (RepZ.app (RepZ.single (ex_shut (op := 14) (nm := []) (n := 0) (args := [.mk 5 [97] 0 [], .mk 1 [] 1 []]) (by decide) (Rep.mk (n := 2) (c := 2) (m22.up v9) (RepZ.app (RepZ.single (ex_shut (op := 5) (nm := [97]) (n := 0) (args := []) (by decide) (Rep.empty (p := none) (c := 0) (by decide))) rfl) (RepZ.single (ex_shut (op := 1) (nm := []) (n := 1) (args := []) (by decide) (Rep.empty (p := none) (c := 0) (by decide))) rfl)) rfl (Nat.le_refl _) (by decide))) rfl) (RepZ.single (ex_shut (op := 9) (nm := []) (n := 0) (args := [.mk 15 [] 0 [.mk 5 [98] 0 [], .mk 5 [99] 0 []]]) (by decide) (Rep.mk (n := 1) (c := 1) (m28.up v11) (.single (ex_shut (op := 15) (nm := []) (n := 0) (args := [.mk 5 [98] 0 [], .mk 5 [99] 0 []]) (by decide) (Rep.mk (n := 2) (c := 2) (m26.up v10) (RepZ.app (RepZ.single (ex_shut (op := 5) (nm := [98]) (n := 0) (args := []) (by decide) (Rep.empty (p := none) (c := 0) (by decide))) rfl) (RepZ.single (ex_shut (op := 5) (nm := [99]) (n := 0) (args := []) (by decide) (Rep.empty (p := none) (c := 0) (by decide))) rfl)) rfl (Nat.le_refl _) (by decide))) rfl) rfl (Nat.le_refl _) (by decide))) rfl)) rfl (Nat.le_refl _) (by decide)))
  refine .nl <| .tN <| .sq <| .rg <| .yv (.loadW rfl Fx.agg86 (.head _) rfl) rfl <| .yv (.call Fx.call23 rfl (fun W s => check_aw (G.up v0) rF W s.agr)) rfl <| .yv (.eql rfl rfl) rfl <|
    .m rfl rfl <| .gd rfl rfl <| .yv (.loadW rfl Fx.agg86 (.head _) rfl) rfl <| .gd rfl rfl <| .yv (.call Fx.call24 rfl (fun W s => print_aw (G.up v0) (g.up v0) rF W s.agr)) rfl <|
    .gd rfl rfl <| .yv (eqSt (a := awT) rfl rfl) rfl <| .yv (.pickT rfl rfl) rfl <| .m rfl rfl <| .gd rfl rfl <| .yv (.loadW rfl Fx.agg31 (.tail _ <| .head _) rfl) rfl <|
    .gd rfl rfl <| .yv (.call Fx.call12 rfl (fun W s => printE_aw (G.up v0) (g.up v0) rE W s.agr)) rfl <| .gd rfl rfl <| .yv (eqSt (a := awU) rfl rfl) rfl <| .yv (.pickT rfl rfl) rfl <|
    .a rfl rfl <| .nl <| .tN <| .rt <| ?_
  exact Sx.ret1 (.inl rfl) rfl (.tmp rfl) fun W s => ⟨rfl, s.ext⟩
end Go.Proofs.YtmbiojpcidccjaaDoor
/- Contracts: Word, Arity. -/
namespace Go.Proofs.YtmbiojpcidccjaaDoor
open Go.RowKit Go.Par Go.Sx
set_option maxRecDepth 100000 in
theorem word_any (H : Hp) (n : UInt8) (w : World) (hA : Agr H w) : Calls Tryd.prog 48 #[.int .u8 n.toNat] w fun r w' => r = .returned (strV (wordR n)) ∧ Ext w w' := by
  refine Sx.enter (H := H) Tryd.func48 rfl Tryd.ntmps48 rfl hA ?_
  refine .sq <| .rg <| .a rfl rfl <| .nl <| .tN <| .sq <| .rg <| .bl rfl (Fx.bsl56_11 _ _ _ _ _ _ _ _ _ _ _) rfl fun b3 => .m rfl rfl <| .yv (.rem rfl rfl (by decide) (c := ((n.toNat % 11 : Nat) : Int)) (by rw [Int.tmod_eq_emod_of_nonneg (by omega)]; omega)) rfl <|
    .yv (.indexSl Fx.sl56 rfl rfl (i := n.toNat % 11) rfl (Nat.mod_lt _ (by omega)) (q := n.toNat % 11) (by omega)) rfl <| .yv (.load (v := strV (wordR n)) rfl Fx.agg9 (.head _) (strs_at (es := wordsR) (Nat.mod_lt _ (by show 0 < 11; omega)))) rfl <|
    .a rfl rfl <| .nl <| .tN <| .rt <| ?_
  exact Sx.ret1 (.inl rfl) rfl (.tmp rfl) fun W s => ⟨rfl, s.ext⟩
set_option maxRecDepth 100000 in
theorem arity_any (H : Hp) (k : Nat) (w : World) (hA : Agr H w) : Calls Tryd.prog 47 #[.int .i64 (k : Nat)] w fun r w' => r = .returned (.int .i64 (arR k)) ∧ Ext w w' := by
  refine Sx.enter (H := H) Tryd.func47 rfl Tryd.ntmps47 rfl hA ?_
  refine .sq <| .rg <| .a rfl rfl <| .nl <| .tN <| .sq <| .bk <| .sq <| .rg <| .m rfl rfl <| .yv (.lss rfl rfl) rfl <| .m rfl rfl <| .b2 (fun h6 => ?_) (fun h6 => ?_)
  · try simp only [decide_eq_true_eq] at h6
    refine .gF rfl rfl rfl rfl <| .gF rfl rfl rfl rfl <| .yv (.pickT rfl rfl) rfl <| .a rfl rfl <| .nl <| .tN <| .cT rfl <| .sq <| .rg <| .a rfl rfl <| .nl <| .tN <|
      .rt <| .bR <| .tR <| ?_
    refine Sx.ret1 (.inl rfl) rfl (.tmp rfl) fun W s => ⟨?_, s.ext⟩
    first
      | (rw [arR]; simp_all <;> omega)
      | (rw [arR]; simp_all; omega)
      | (congr 1; congr 1; rw [arR]; simp_all <;> omega)
  · try simp only [decide_eq_false_iff_not] at h6
    refine .gd rfl rfl <| .yv (.move rfl) rfl <| .gd rfl rfl <| .yv (.gtr rfl rfl) rfl <| .yv (.pickF rfl rfl) rfl <| .a rfl rfl <| .nl <| .tN <| .cd rfl (fun h3 => ?_) (fun h3 => ?_)
    · skip
      refine .sq <| .rg <| .a rfl rfl <| .nl <| .tN <| .rt <| .bR <| .tR <| ?_
      refine Sx.ret1 (.inl rfl) rfl (.tmp rfl) fun W s => ⟨?_, s.ext⟩
      first
        | (rw [arR]; simp_all <;> omega)
        | (rw [arR]; simp_all; omega)
        | (congr 1; congr 1; rw [arR]; simp_all <;> omega)
    · skip
      refine .sq <| .rg <| .m rfl rfl <| .yv (.leq rfl rfl) rfl <| .m rfl rfl <| .b2 (fun h13 => ?_) (fun h13 => ?_)
      · try simp only [decide_eq_true_eq] at h13
        refine .gF rfl rfl rfl rfl <| .gF rfl rfl rfl rfl <| .yv (.pickT rfl rfl) rfl <| .a rfl rfl <| .nl <| .tN <| .cT rfl <| .sq <| .rg <| .a rfl rfl <| .nl <| .tN <|
          .rt <| .bR <| .tR <| ?_
        refine Sx.ret1 (.inl rfl) rfl (.tmp rfl) fun W s => ⟨?_, s.ext⟩
        first
          | (rw [arR]; simp_all <;> omega)
          | (rw [arR]; simp_all; omega)
          | (congr 1; congr 1; rw [arR]; simp_all <;> omega)
      · try simp only [decide_eq_false_iff_not] at h13
        refine .gd rfl rfl <| .yv (.move rfl) rfl <| .gd rfl rfl <| .yv (.eql rfl rfl) rfl <| .yv (.pickF rfl rfl) rfl <| .a rfl rfl <| .nl <| .tN <| .cd rfl (fun h10 => ?_) (fun h10 => ?_)
        · skip
          refine .sq <| .rg <| .a rfl rfl <| .nl <| .tN <| .rt <| .bR <| .tR <| ?_
          refine Sx.ret1 (.inl rfl) rfl (.tmp rfl) fun W s => ⟨?_, s.ext⟩
          first
            | (rw [arR]; simp_all <;> omega)
            | (rw [arR]; simp_all; omega)
            | (congr 1; congr 1; rw [arR]; simp_all <;> omega)
        · skip
          refine .sq <| .rg <| .m rfl rfl <| .yv (.eql rfl rfl) rfl <| .m rfl rfl <| .b2 (fun h20 => ?_) (fun h20 => ?_)
          · try simp only [decide_eq_true_eq] at h20
            refine .gF rfl rfl rfl rfl <| .gF rfl rfl rfl rfl <| .yv (.pickT rfl rfl) rfl <| .m rfl rfl <| .gF rfl rfl rfl rfl <| .gF rfl rfl rfl rfl <| .yv (.pickT rfl rfl) rfl <|
              .m rfl rfl <| .gF rfl rfl rfl rfl <| .gF rfl rfl rfl rfl <| .yv (.pickT rfl rfl) rfl <| .a rfl rfl <| .nl <| .tN <| .cT rfl <| .sq <| .rg <| .a rfl rfl <| .nl <|
              .tN <| .rt <| .bR <| .tR <| ?_
            refine Sx.ret1 (.inl rfl) rfl (.tmp rfl) fun W s => ⟨?_, s.ext⟩
            first
              | (rw [arR]; simp_all <;> omega)
              | (rw [arR]; simp_all; omega)
              | (congr 1; congr 1; rw [arR]; simp_all <;> omega)
          · try simp only [decide_eq_false_iff_not] at h20
            refine .gd rfl rfl <| .yv (.move rfl) rfl <| .gd rfl rfl <| .yv (.eql rfl rfl) rfl <| .yv (.pickF rfl rfl) rfl <| .m rfl rfl <| .b2 (fun h24 => ?_) (fun h24 => ?_)
            · try simp only [decide_eq_true_eq] at h24
              refine .gF rfl rfl rfl rfl <| .gF rfl rfl rfl rfl <| .yv (.pickT rfl rfl) rfl <| .m rfl rfl <| .gF rfl rfl rfl rfl <| .gF rfl rfl rfl rfl <| .yv (.pickT rfl rfl) rfl <|
                .a rfl rfl <| .nl <| .tN <| .cT rfl <| .sq <| .rg <| .a rfl rfl <| .nl <| .tN <| .rt <| .bR <| .tR <| ?_
              refine Sx.ret1 (.inl rfl) rfl (.tmp rfl) fun W s => ⟨?_, s.ext⟩
              first
                | (rw [arR]; simp_all <;> omega)
                | (rw [arR]; simp_all; omega)
                | (congr 1; congr 1; rw [arR]; simp_all <;> omega)
            · try simp only [decide_eq_false_iff_not] at h24
              refine .gd rfl rfl <| .yv (.move rfl) rfl <| .gd rfl rfl <| .yv (.eql rfl rfl) rfl <| .yv (.pickF rfl rfl) rfl <| .m rfl rfl <| .b2 (fun h28 => ?_) (fun h28 => ?_)
              · try simp only [decide_eq_true_eq] at h28
                refine .gF rfl rfl rfl rfl <| .gF rfl rfl rfl rfl <| .yv (.pickT rfl rfl) rfl <| .a rfl rfl <| .nl <| .tN <| .cT rfl <| .sq <| .rg <| .a rfl rfl <| .nl <| .tN <|
                  .rt <| .bR <| .tR <| ?_
                refine Sx.ret1 (.inl rfl) rfl (.tmp rfl) fun W s => ⟨?_, s.ext⟩
                first
                  | (rw [arR]; simp_all <;> omega)
                  | (rw [arR]; simp_all; omega)
                  | (congr 1; congr 1; rw [arR]; simp_all <;> omega)
              · try simp only [decide_eq_false_iff_not] at h28
                refine .gd rfl rfl <| .yv (.move rfl) rfl <| .gd rfl rfl <| .yv (.eql rfl rfl) rfl <| .yv (.pickF rfl rfl) rfl <| .a rfl rfl <| .nl <| .tN <| .cd rfl (fun h17 => ?_) (fun h17 => ?_)
                · skip
                  refine .sq <| .rg <| .a rfl rfl <| .nl <| .tN <| .rt <| .bR <| .tR <| ?_
                  refine Sx.ret1 (.inl rfl) rfl (.tmp rfl) fun W s => ⟨?_, s.ext⟩
                  first
                    | (rw [arR]; simp_all <;> omega)
                    | (rw [arR]; simp_all; omega)
                    | (congr 1; congr 1; rw [arR]; simp_all <;> omega)
                · skip
                  refine .sk <| .bN <| .tN <| .sq <| .rg <| .a rfl rfl <| .nl <| .tN <| .rt <| ?_
                  refine Sx.ret1 (.inl rfl) rfl (.tmp rfl) fun W s => ⟨?_, s.ext⟩
                  first
                    | (rw [arR]; simp_all <;> omega)
                    | (rw [arR]; simp_all; omega)
                    | (congr 1; congr 1; rw [arR]; simp_all <;> omega)
end Go.Proofs.YtmbiojpcidccjaaDoor
/- Contracts: Expr. -/
namespace Go.Proofs.YtmbiojpcidccjaaDoor
open Go.RowKit Go.Par Go.Sx
def ExprOf (e : Ex) : Prop := Ex.all narrow e = true → ∀ (H : Hp) (cs : List Value) (w : World), Rep H (dEx .i64 e) cs → Agr H w →
  Calls Tryd.prog 8 #[.agg cs.toArray] w fun r w' => ∃ x H', Rep H' (dEx .u8 e) x ∧ r = .returned (.agg x.toArray) ∧ Grow H w H' w'
set_option maxRecDepth 100000 in
theorem expr_any (e : Ex) : ExprOf e := by
  induction e using Ex.ind with | _ op nm nn args ih
  intro hnr H cs w h hA
  rw [all_mk, Bool.and_eq_true, narrow_mk, decide_eq_true_eq] at hnr
  obtain ⟨p, c, rfl, hs, hnm⟩ := ex_open h
  have hcap := hs.cap
  have hn3 := hnr.1
  refine Sx.enter (H := H) Tryd.func8 rfl Tryd.ntmps8 rfl hA ?_
  refine .sq <| .rg <| .bx rfl rfl rfl fun b1 => .al Fx.zero31 rfl fun b2 => ?_
  refine Sx.row0 31 4 ?_
  refine .nl <| .tN <| .sq <| .rg <| .yv (.fieldAddr rfl Fx.field26_0) rfl <| .yv (.load rfl Fx.agg3 (.tail _ <| .tail _ <| .head _) rfl) rfl <| .yv (.conv rfl Fx.int3 Fx.int28 (c := (op.toNat : Nat)) (by have := op.toNat_lt; simp only [IntKind.wrap, IntKind.signed, IntKind.bits]; simp; omega)) rfl <|
    .yv (.fieldAddr rfl Fx.field26_1) rfl <| .yv (.load rfl Fx.agg9 (.tail _ <| .tail _ <| .head _) rfl) rfl <| .yv (.fieldAddr rfl Fx.field26_2) rfl <| .yv (.load rfl Fx.agg2 (.tail _ <|
    .tail _ <| .head _) rfl) rfl <| .yv (.build rfl (Fx.bld31_0_1_2 _ _ _)) rfl <| .al Fx.zero31 rfl fun b3 => .sW .head rfl rfl Fx.size31 (by simp [Value.oneCell', strV]) rfl <|
    .nl <| .tN <| .sq <| .sq <| .rg <| .yv (.fieldAddr rfl Fx.field26_3) rfl <| .yv (.load rfl Fx.agg24 (.tail _ <| .tail _ <| .tail _ <| .head _) rfl) rfl <| .yv (.lenSl Fx.sl24 rfl) rfl <|
    .m rfl rfl <| .nl <| .tN <| .bk <| .lp (X := Nat × Hp × Value × List Value) [(2, _), (3, _), (15, _), (16, _)] ⟨rfl, rfl, rfl, rfl, trivial⟩ [_, _] (fun z => [(17, .int .i64 (z.1 : Nat))]) (fun z => z.2.1) (fun z => [.box b3 [.int .u8 op.toNat, strV nm, .int .i64 nn.toInt, z.2.2.1] 31, .row 31 4 z.2.2.1 z.1 z.2.2.2]) (fun z => z.1 ≤ args.length ∧ HUp w H z.2.1 ∧ RepZ z.2.1 4 ((args.take z.1).map (dEx .u8)) z.2.2.2) (fun z => args.length - z.1) (0, H, .slice none 0 0, []) (fun _ s => s) ⟨rfl, trivial⟩ ⟨by simp, .refl, RepZ.nil⟩ fun z hC => ?_
  obtain ⟨k, H1, r, xs⟩ := z
  dsimp only at hC ⊢
  obtain ⟨hk0, u1, hz⟩ := hC
  refine .sq <| .rg <| .yv (.lss rfl rfl) rfl <| .nl <| .tN <| .sq <| .cd rfl (fun h18 => ?_) (fun h18 => ?_)
  · try simp only [decide_eq_true_eq] at h18
    have hk : k < args.length := by omega
    obtain ⟨bE, oE, cE, hpE, rE, lE, mE⟩ := (hs.up u1.up).elem (map_at hk)
    cases hpE
    have hnr1 := lalls_at hk hnr.2
    refine .sk <| .tN <| .sq <| .bk <| .sq <| .rg <| .yv (.indexSl Fx.sl24 rfl rfl rfl (by omega) (q := oE + k * 4) rfl) rfl <| .yv (.loadMW rfl Fx.agg26 mE lE) rfl <|
      .al Fx.zero26 rfl fun b5 => .sV .head rfl rfl Fx.size26 lE rE.one rfl <| .nl <| .tN <| .fl (trip := [(_, _, _), (_, _, _), (_, _, _), (_, _, _), (_, _, _)]) 5 [(0, 0), (1, 0), (2, 0), (3, 1), (4, 1)] (by kernel_rfl) (by kernel_rfl) rfl <|
      .yv (.fieldAddr rfl Fx.field31_3) rfl <| .yv (.load rfl Fx.agg29 (.tail _ <| .head _) rfl) rfl <| .yv (.loadW rfl Fx.agg26 (.head _) lE) rfl <| .ct (X := List Value) Fx.call8 rfl (fun W s => ih _ (List.getElem_mem hk) hnr1 H1 cE W rE s.agr) rfl fun x2 H2 hc2 u2 => ?_
    generalize hx : args[k] = x at hc2
    obtain ⟨op2, nm2, n2, args2⟩ := x
    obtain ⟨p2, c2, rfl, hs2, hnm2⟩ := ex_open hc2
    refine .bl rfl (Fx.bsl29_1 _ _ _ _) rfl fun b25 => .fn (tl := [_, _, _]) rfl <| .ap (news := [.int .u8 op2.toNat, strV nm2, .int .i64 n2.toInt, .slice p2 args2.length c2]) Fx.row29 rfl (fun _ => (.tail <|
      .tail <| .tail <| .head)) rfl (.box (.head _) (fun j u h => by rw [Nat.zero_add]; exact h)) rfl (by simp [Value.oneCell', strV]) (by simp [maxLen]; omega) (by omega) rfl fun r26 _ => ?_
    refine At.ra (.tail _ (.tail _ (.tail _ (.head _)))) fun p26 c26 e26 => ?_
    exact .yv (.fieldAddr rfl Fx.field31_3) rfl <| .st (.tail <| .tail <| .head) rfl rfl Fx.size29 (by rw [e26]; rfl) (Nat.le_of_ble_eq_true rfl) rfl <| .nl <| .bN <|
      .tN <| .rg <| .yv (.add rfl rfl (w64 (by omega) (by omega))) rfl <| .m rfl rfl <| .nl <| .tN <| .ag (x := (k, H1, r, xs)) (k + 1, H2, r26, xs ++ [.int .u8 op2.toNat, strV nm2, .int .i64 n2.toInt, .slice p2 args2.length c2]) ⟨rfl, trivial⟩ ⟨rfl, rfl, rfl, rfl, trivial⟩ (fun _ s => (s.pick [2, 3, 4, 5] _ rfl rfl)) ⟨by dsimp only; omega, u1.trans u2, by dsimp only; rw [take_snoc hk, hx, List.map_append]; exact (hz.up u2.up).snoc hc2 rfl⟩ (by dsimp only; omega)
  · try simp only [decide_eq_false_iff_not] at h18
    obtain rfl : k = args.length := by omega
    rw [List.take_length] at hz
    refine At.ra (.tail _ (.head _)) fun p26 c26 e26 => ?_
    subst e26
    refine .ex <| .tE <| .tE <| .bE <| .tN <| .sq <| .rg <| .yv (.loadW rfl Fx.agg31 (.head _) rfl) rfl <| .sW (.tail <| .tail <| .head) rfl rfl Fx.size31 (by simp [Value.oneCell', strV]) rfl <|
      .nl <| .tN <| .rt <| ?_
    refine At.pm [1, 2] [_, _] rfl rfl ?_
    refine Sx.freezeSeq (ds := args.map (dEx .u8)) (by simp) hz fun H3 p3 c3 u3 hr3 hs3 => ?_
    refine Sx.ret1 (.inl rfl) rfl (.cell rfl Fx.agg31 (.head _) rfl) fun W s => ⟨_, H3, ex_shut hnm hs3, rfl, (u1.trans u3).grow s⟩
end Go.Proofs.YtmbiojpcidccjaaDoor
/- Contracts: build. -/
namespace Go.Proofs.YtmbiojpcidccjaaDoor
open Go.RowKit Go.Par Go.Sx
def goodE (d : Nat) (e : Ex) : Prop := e.depth + d ≤ 32 ∧ Ex.all narrow e = true
def goodEs (d : Nat) (l : List Ex) : Prop := Ex.deeps l + (d + 1) ≤ 32 ∧ Ex.alls narrow l = true
theorem goodE_leaf {d : Nat} {op : UInt8} {nm : Str} {n : Int64} (h : d ≤ 31) : goodE d (.mk op nm n []) := ⟨by rw [depth_mk]; simp only [Ex.deeps]; omega, by rw [all_mk, narrow_mk]; rfl⟩
theorem goodE_mk {d : Nat} {op : UInt8} {nm : Str} {n : Int64} {l : List Ex} : goodE d (.mk op nm n l) ↔ l.length ≤ 3 ∧ goodEs d l := by
  simp only [goodE, goodEs, depth_mk, all_mk, narrow_mk, Bool.and_eq_true, decide_eq_true_eq]
  constructor
  · rintro ⟨h1, h2, h3⟩; exact ⟨h2, by omega, h3⟩
  · rintro ⟨h1, h2, h3⟩; exact ⟨by omega, h1, h3⟩
theorem goodEs_nil (d : Nat) (h : d + 1 ≤ 32 := by omega) : goodEs d [] := ⟨by simp only [Ex.deeps]; omega, rfl⟩
theorem goodEs_snoc {d : Nat} {l : List Ex} {e : Ex} (h : goodEs d l) (k : goodE (d + 1) e) : goodEs d (l ++ [e]) := by
  obtain ⟨h1, h2⟩ := h
  obtain ⟨k1, k2⟩ := k
  refine ⟨?_, ?_⟩
  · rw [deeps_app]; simp only [Ex.deeps]; omega
  · rw [alls_app, h2]; simp [Ex.alls, k2]
set_option maxRecDepth 100000 in
theorem build_any : ∀ (f d : Nat), d + f = 31 → ∀ (H : Hp) (l : List Nd) (v : Value) (w : World), Rep H (.seq 5 (l.map dNd)) [v] → Agr H w →
    Calls Tryd.prog 25 #[v, .int .i64 (d : Nat)] w fun r w' => ∃ (y : List Value × Value) (H' : Hp), (∃ (e : Ex) (rest : List Nd), Rep H' (dEx .i64 e) y.1 ∧ goodE d e ∧ Rep H' (.seq 5 (rest.map dNd)) [y.2]) ∧ r = .returned (.tuple #[.agg y.1.toArray, y.2]) ∧ Grow H w H' w' := by
  intro f
  induction f using Nat.strongRecOn with
  | _ f ih =>
    intro d hd H l v w h hA
    obtain ⟨p, c, e, _⟩ := h.sl
    simp only [List.cons.injEq, and_true] at e
    subst e
    obtain ⟨n, hn⟩ : ∃ n, n = (l.map dNd).length := ⟨_, rfl⟩
    rw [← hn] at h ⊢
    have hnl : n = l.length := by simpa using hn
    have hcap := h.cap
    refine Sx.enter (H := H) Tryd.func25 rfl Tryd.ntmps25 rfl hA ?_
    refine .sq <| .rg <| .al Fx.zero26 rfl fun b4 => .a rfl rfl <| .nl <| .tN <| .sq <| .sq <| .rg <| .m rfl rfl <| .yv (.lenSl Fx.sl22 rfl) rfl <| .yv (.eql rfl rfl) rfl <|
      .m rfl rfl <| .b2 (fun h15 => ?_) (fun h15 => ?_)
    · try simp only [decide_eq_true_eq] at h15
      refine .gF rfl rfl rfl rfl <| .gF rfl rfl rfl rfl <| .yv (.pickT rfl rfl) rfl <| .nl <| .tN <| .cT rfl <| .sq <| .rg <| .yv (.build rfl (Fx.bld26_0 _)) rfl <| .m rfl rfl <|
        .sW .head rfl rfl Fx.size26 (by simp [Value.oneCell', strV, cNd]) rfl <| .a rfl rfl <| .nl <| .tN <| .rt <| .tR <| ?_
      exact Sx.retN (.inl rfl) rfl (.cons (.cell rfl Fx.agg26 (.head _) rfl) (.cons (.tmp rfl) .nil)) rfl fun W s => ⟨(_, _), H, ⟨.mk 1 [] 0 [], l, ex_shut (by decide) (Rep.empty (by decide)), goodE_leaf (by omega), h⟩, rfl, .pure hA s.ext⟩
    · try simp only [decide_eq_false_iff_not] at h15
      refine .gd rfl rfl <| .yv (.move rfl) rfl <| .gd rfl rfl <| .yv (.gtr rfl rfl) rfl <| .yv (.pickF rfl rfl) rfl <| .nl <| .tN <| .cd rfl (fun h18 => ?_) (fun h18 => ?_)
      · try simp only [decide_eq_true_eq] at h18
        refine .sq <| .rg <| .yv (.build rfl (Fx.bld26_0 _)) rfl <| .m rfl rfl <| .sW .head rfl rfl Fx.size26 (by simp [Value.oneCell', strV, cNd]) rfl <| .a rfl rfl <|
          .nl <| .tN <| .rt <| .tR <| ?_
        exact Sx.retN (.inl rfl) rfl (.cons (.cell rfl Fx.agg26 (.head _) rfl) (.cons (.tmp rfl) .nil)) rfl fun W s => ⟨(_, _), H, ⟨.mk 1 [] 0 [], l, ex_shut (by decide) (Rep.empty (by decide)), goodE_leaf (by omega), h⟩, rfl, .pure hA s.ext⟩
      · try simp only [decide_eq_false_iff_not] at h18
        have hn0 : 0 < n := by omega
        obtain ⟨bE, oE, cE, hpE, rE, lE, mE⟩ := h.elem (map_at (f := dNd) (show 0 < l.length by omega))
        subst hpE
        generalize hx : l[0] = x at rE
        obtain rfl := nd_open rE
        obtain ⟨op, hop⟩ : ∃ op : UInt8, op.toNat = x.op.toNat % 24 := ⟨UInt8.ofNat (x.op.toNat % 24), by simp [UInt8.toNat_ofNat']; omega⟩
        obtain ⟨m0, hm0, hm2⟩ : ∃ m0 : Nat, max (arR op.toNat) 0 = (m0 : Int) ∧ m0 ≤ 2 := ⟨(max (arR op.toNat) 0).toNat, by have := arR_bnd op.toNat; omega, by have := arR_bnd op.toNat; omega⟩
        refine .sk <| .tN <| .sq <| .rg <| .m rfl rfl <| .yv (.indexSl Fx.sl22 rfl rfl (i := 0) rfl (by omega) (q := oE + 0 * 5) (by omega)) rfl <| .yv (.loadMW rfl Fx.agg120 mE rfl) rfl <|
          .al Fx.zero120 rfl fun b6 => .sW .head rfl rfl Fx.size120 (by simp [Value.oneCell', strV, cNd]) rfl <| .nl <| .tN <| .sq <| .rg <| .m rfl rfl <| .yv (.cutLo Fx.sl22 rfl rfl (lo := 1) rfl (by omega) h.len.2.1) rfl <|
          .a rfl rfl <| .nl <| .tN <| .sq <| .rg <| .yv (.fieldAddr rfl Fx.field120_0) rfl <| .yv (.load rfl Fx.agg5 (.head _) rfl) rfl <| .yv (.rem rfl rfl (by decide) (c := ((x.op.toNat % 24 : Nat) : Int)) (by rw [Int.tmod_eq_emod_of_nonneg (by omega)]; omega)) rfl <|
          .yv (.conv rfl Fx.int5 Fx.int3 (c := ((op.toNat : Nat) : Int)) ((w64 (by omega) (by omega)).trans (by rw [hop]))) rfl <| .yv (.fieldAddr rfl Fx.field120_4) rfl <|
          .yv (.load rfl Fx.agg2 (.head _) rfl) rfl <| .yv (.build rfl (Fx.bld26_0_2 _ _)) rfl <| .al Fx.zero26 rfl fun b7 => .sW .head rfl rfl Fx.size26 (by simp [Value.oneCell', strV, cNd]) rfl <|
          .nl <| .tN <| .sq <| .rg <| .yv (.fieldAddr rfl Fx.field26_0) rfl <| .yv (.load rfl Fx.agg3 (.head _) rfl) rfl <| .yv (.call Fx.call47 rfl (fun W s => arity_any H op.toNat W s.agr)) rfl <|
          .yv (.max2 rfl rfl (c := ((m0 : Nat) : Int)) hm0) rfl <| .a rfl rfl <| .nl <| .tN <| .cu (X := Str) [(0, _), (1, _), (4, _), (6, _), (7, _), (8, _)] ⟨rfl, rfl, rfl, rfl, rfl, rfl, trivial⟩ (fun nm => []) (fun nm => H) (fun nm => [.box b7 [.int .i64 op.toNat, strV nm, .int .i64 (x.n).toInt, .slice none 0 0] 26, .box b6 (cNd x) 120, .box b4 [.int .i64 0, .string ⟨#[]⟩, .int .i64 0, .slice none 0 0] 26]) (fun nm => nm.length ≤ 13) ?_ fun nm hC => ?_
        ·
          refine .sq <| .rg <| .yv (.fieldAddr rfl Fx.field26_0) rfl <| .yv (.load rfl Fx.agg3 (.head _) rfl) rfl <| .yv (.geq rfl rfl) rfl <| .m rfl rfl <| .b2 (fun h40 => ?_) (fun h40 => ?_)
          · try simp only [decide_eq_true_eq] at h40
            refine .gd rfl rfl <| .yv (.fieldAddr rfl Fx.field26_0) rfl <| .gd rfl rfl <| .yv (.load rfl Fx.agg3 (.head _) rfl) rfl <| .gd rfl rfl <| .yv (.leq rfl rfl) rfl <|
              .yv (.pickT rfl rfl) rfl <| .nl <| .tN <| .cd rfl (fun h44 => ?_) (fun h44 => ?_)
            · skip
              exact .rg <| .yv (.fieldAddr rfl Fx.field120_1) rfl <| .yv (.load rfl Fx.agg5 (.tail _ <| .head _) rfl) rfl <| .yv (.call Fx.call48 rfl (fun W s => word_any H x.nm W s.agr)) rfl <|
                .yv (.fieldAddr rfl Fx.field26_1) rfl <| .st .head rfl rfl Fx.size9 rfl (Nat.le_of_ble_eq_true rfl) rfl <| .nl <| .tN <| .me _ trivial ⟨rfl, rfl, rfl, rfl, rfl, rfl, trivial⟩ (fun _ s => s) (by first | exact word_len _ | decide)
            · skip
              exact .sk <| .tN <| .me _ trivial ⟨rfl, rfl, rfl, rfl, rfl, rfl, trivial⟩ (fun _ s => s) (by first | exact word_len _ | decide)
          · try simp only [decide_eq_false_iff_not] at h40
            exact .gF rfl rfl rfl rfl <| .gF rfl rfl rfl rfl <| .gF rfl rfl rfl rfl <| .yv (.pickF rfl rfl) rfl <| .nl <| .tN <| .cF rfl <| .sk <| .tN <| .me _ trivial ⟨rfl, rfl, rfl, rfl, rfl, rfl, trivial⟩ (fun _ s => s) (by first | exact word_len _ | decide)
        ·
          have hnm := hC
          refine .cu (X := Int64) [(0, _), (1, _), (4, _), (6, _), (7, _), (8, _)] ⟨rfl, rfl, rfl, rfl, rfl, rfl, trivial⟩ (fun nn => []) (fun nn => H) (fun nn => [.box b7 [.int .i64 op.toNat, strV nm, .int .i64 (nn).toInt, .slice none 0 0] 26, .box b6 (cNd x) 120, .box b4 [.int .i64 0, .string ⟨#[]⟩, .int .i64 0, .slice none 0 0] 26]) (fun nn => True) ?_ fun nn hC => ?_
          ·
            refine .sq <| .rg <| .yv (.fieldAddr rfl Fx.field26_0) rfl <| .yv (.load rfl Fx.agg3 (.head _) rfl) rfl <| .yv (.neq rfl rfl) rfl <| .nl <| .tN <| .cd rfl (fun h51 => ?_) (fun h51 => ?_)
            · skip
              exact .rg <| .yv (.fieldAddr rfl Fx.field26_2) rfl <| .st .head rfl rfl Fx.size2 rfl (Nat.le_of_ble_eq_true rfl) rfl <| .nl <| .tN <| .me 0 trivial ⟨rfl, rfl, rfl, rfl, rfl, rfl, trivial⟩ (fun _ s => s) trivial
            · skip
              exact .sk <| .tN <| .me x.n trivial ⟨rfl, rfl, rfl, rfl, rfl, rfl, trivial⟩ (fun _ s => s) trivial
          ·
            refine .cu (X := Nat × Str × Int64) [(0, _), (1, _), (4, _), (7, _)] ⟨rfl, rfl, rfl, rfl, trivial⟩ (fun z => [(8, .int .i64 (z.1 : Nat))]) (fun z => H) (fun z => [.box b7 [.int .i64 op.toNat, strV z.2.1, .int .i64 (z.2.2).toInt, .slice none 0 0] 26, .box b6 (cNd x) 120, .box b4 [.int .i64 0, .string ⟨#[]⟩, .int .i64 0, .slice none 0 0] 26]) (fun z => z.1 ≤ 3 ∧ z.2.1.length ≤ 13) ?_ fun z hC => ?_
            ·
              refine .sq <| .rg <| .yv (.fieldAddr rfl Fx.field120_3) rfl <| .yv (.load rfl Fx.agg4 (.tail _ <| .head _) rfl) rfl <| .nl <| .tN <| .cd rfl (fun h54 => ?_) (fun h54 => ?_)
              · skip
                refine .sq <| .rg <| .yv (.fieldAddr rfl Fx.field120_2) rfl <| .yv (.load rfl Fx.agg5 (.tail _ <| .head _) rfl) rfl <| .yv (.rem rfl rfl (by decide) (c := ((x.ct.toNat % 4 : Nat) : Int)) (by rw [Int.tmod_eq_emod_of_nonneg (by omega)]; omega)) rfl <|
                  .yv (.conv rfl Fx.int5 Fx.int3 (c := ((x.ct.toNat % 4 : Nat) : Int)) (w64 (by omega) (by omega))) rfl <| .a rfl rfl <| .nl <| .tN <| .sq <| .rg <| .yv (.fieldAddr rfl Fx.field120_2) rfl <|
                  .yv (.load rfl Fx.agg5 (.tail _ <| .head _) rfl) rfl <| .yv (.rem rfl rfl (by decide) (c := ((x.ct.toNat % 5 : Nat) : Int)) (by rw [Int.tmod_eq_emod_of_nonneg (by omega)]; omega)) rfl <|
                  .yv (.eql rfl rfl) rfl <| .nl <| .tN <| .cd rfl (fun h62 => ?_) (fun h62 => ?_)
                · skip
                  refine .ar 9 #[false, false, false, false, false, false, false, false, false] (by kernel_rfl) rfl rfl <| .an 0 [3] (by kernel_rfl) ⟨?_, ?_, trivial⟩
                  ·
                    refine .ao #[true, false, false, false, false, false, false, false, false] rfl rfl <| .yv (.fieldAddr rfl Fx.field120_1) rfl <| .nx <| .an 1 [3] (by kernel_rfl) ⟨?_, ?_, trivial⟩
                    ·
                      refine .ao #[true, true, false, false, false, false, false, false, false] rfl rfl <| .yv (.load rfl Fx.agg5 (.tail _ <| .head _) rfl) rfl <| .nx <| .an 2 [3] (by kernel_rfl) ⟨?_, ?_, trivial⟩
                      ·
                        refine .ao #[true, true, true, false, false, false, false, false, false] rfl rfl <| .yv (.call Fx.call48 rfl (fun W s => word_any H x.nm W s.agr)) rfl <| .nx <|
                          .an 3 [5] (by kernel_rfl) ⟨?_, ?_, trivial⟩
                        ·
                          refine .ao #[true, true, true, true, false, false, false, false, false] rfl rfl <| .yv (.fieldAddr rfl Fx.field120_4) rfl <| .nx <| .an 4 [5] (by kernel_rfl) ⟨?_, ?_, trivial⟩
                          ·
                            refine .ao #[true, true, true, true, true, false, false, false, false] rfl rfl <| .yv (.load rfl Fx.agg2 (.tail _ <| .head _) rfl) rfl <| .nx <| .an 5 [] (by kernel_rfl) ⟨?_, trivial⟩
                            refine .ao #[true, true, true, true, true, true, false, false, false] rfl rfl <| .yv (.fieldAddr rfl Fx.field26_1) rfl <| .nx <| .an 6 [] (by kernel_rfl) ⟨?_, trivial⟩
                            refine .ao #[true, true, true, true, true, true, true, false, false] rfl rfl <| .st .head rfl rfl Fx.size9 rfl (Nat.le_of_ble_eq_true rfl) rfl <| .nx <| .an 7 [] (by kernel_rfl) ⟨?_, trivial⟩
                            refine .ao #[true, true, true, true, true, true, true, true, false] rfl rfl <| .yv (.fieldAddr rfl Fx.field26_2) rfl <| .nx <| .an 8 [] (by kernel_rfl) ⟨?_, trivial⟩
                            exact .ao #[true, true, true, true, true, true, true, true, true] rfl rfl <| .st .head rfl rfl Fx.size2 rfl (Nat.le_of_ble_eq_true rfl) rfl <| .nx <| .ae (by kernel_rfl) <|
                              .tN <| .me (x.ct.toNat % 4, wordR x.nm, x.n) ⟨rfl, trivial⟩ ⟨rfl, rfl, rfl, rfl, trivial⟩ (fun _ s => s) ⟨by dsimp only; omega, by dsimp only; first | exact word_len _ | exact hnm⟩
                          ·
                            refine .ao #[true, true, true, true, false, true, false, false, false] rfl rfl <| .yv (.fieldAddr rfl Fx.field26_1) rfl <| .nx <| .an 4 [6] (by kernel_rfl) ⟨?_, ?_, trivial⟩
                            ·
                              refine .ao #[true, true, true, true, true, true, false, false, false] rfl rfl <| .yv (.load rfl Fx.agg2 (.tail _ <| .head _) rfl) rfl <| .nx <| .an 6 [] (by kernel_rfl) ⟨?_, trivial⟩
                              refine .ao #[true, true, true, true, true, true, true, false, false] rfl rfl <| .st .head rfl rfl Fx.size9 rfl (Nat.le_of_ble_eq_true rfl) rfl <| .nx <| .an 7 [] (by kernel_rfl) ⟨?_, trivial⟩
                              refine .ao #[true, true, true, true, true, true, true, true, false] rfl rfl <| .yv (.fieldAddr rfl Fx.field26_2) rfl <| .nx <| .an 8 [] (by kernel_rfl) ⟨?_, trivial⟩
                              exact .ao #[true, true, true, true, true, true, true, true, true] rfl rfl <| .st .head rfl rfl Fx.size2 rfl (Nat.le_of_ble_eq_true rfl) rfl <| .nx <| .ae (by kernel_rfl) <|
                                .tN <| .me (x.ct.toNat % 4, wordR x.nm, x.n) ⟨rfl, trivial⟩ ⟨rfl, rfl, rfl, rfl, trivial⟩ (fun _ s => s) ⟨by dsimp only; omega, by dsimp only; first | exact word_len _ | exact hnm⟩
                            ·
                              refine .ao #[true, true, true, true, false, true, true, false, false] rfl rfl <| .st .head rfl rfl Fx.size9 rfl (Nat.le_of_ble_eq_true rfl) rfl <| .nx <| .an 4 [] (by kernel_rfl) ⟨?_, trivial⟩
                              refine .ao #[true, true, true, true, true, true, true, false, false] rfl rfl <| .yv (.load rfl Fx.agg2 (.tail _ <| .head _) rfl) rfl <| .nx <| .an 7 [] (by kernel_rfl) ⟨?_, trivial⟩
                              refine .ao #[true, true, true, true, true, true, true, true, false] rfl rfl <| .yv (.fieldAddr rfl Fx.field26_2) rfl <| .nx <| .an 8 [] (by kernel_rfl) ⟨?_, trivial⟩
                              exact .ao #[true, true, true, true, true, true, true, true, true] rfl rfl <| .st .head rfl rfl Fx.size2 rfl (Nat.le_of_ble_eq_true rfl) rfl <| .nx <| .ae (by kernel_rfl) <|
                                .tN <| .me (x.ct.toNat % 4, wordR x.nm, x.n) ⟨rfl, trivial⟩ ⟨rfl, rfl, rfl, rfl, trivial⟩ (fun _ s => s) ⟨by dsimp only; omega, by dsimp only; first | exact word_len _ | exact hnm⟩
                        ·
                          refine .ao #[true, true, true, false, false, true, false, false, false] rfl rfl <| .yv (.fieldAddr rfl Fx.field26_1) rfl <| .nx <| .an 3 [6] (by kernel_rfl) ⟨?_, ?_, trivial⟩
                          ·
                            refine .ao #[true, true, true, true, false, true, false, false, false] rfl rfl <| .yv (.fieldAddr rfl Fx.field120_4) rfl <| .nx <| .an 4 [6] (by kernel_rfl) ⟨?_, ?_, trivial⟩
                            ·
                              refine .ao #[true, true, true, true, true, true, false, false, false] rfl rfl <| .yv (.load rfl Fx.agg2 (.tail _ <| .head _) rfl) rfl <| .nx <| .an 6 [] (by kernel_rfl) ⟨?_, trivial⟩
                              refine .ao #[true, true, true, true, true, true, true, false, false] rfl rfl <| .st .head rfl rfl Fx.size9 rfl (Nat.le_of_ble_eq_true rfl) rfl <| .nx <| .an 7 [] (by kernel_rfl) ⟨?_, trivial⟩
                              refine .ao #[true, true, true, true, true, true, true, true, false] rfl rfl <| .yv (.fieldAddr rfl Fx.field26_2) rfl <| .nx <| .an 8 [] (by kernel_rfl) ⟨?_, trivial⟩
                              exact .ao #[true, true, true, true, true, true, true, true, true] rfl rfl <| .st .head rfl rfl Fx.size2 rfl (Nat.le_of_ble_eq_true rfl) rfl <| .nx <| .ae (by kernel_rfl) <|
                                .tN <| .me (x.ct.toNat % 4, wordR x.nm, x.n) ⟨rfl, trivial⟩ ⟨rfl, rfl, rfl, rfl, trivial⟩ (fun _ s => s) ⟨by dsimp only; omega, by dsimp only; first | exact word_len _ | exact hnm⟩
                            ·
                              refine .ao #[true, true, true, true, false, true, true, false, false] rfl rfl <| .st .head rfl rfl Fx.size9 rfl (Nat.le_of_ble_eq_true rfl) rfl <| .nx <| .an 4 [] (by kernel_rfl) ⟨?_, trivial⟩
                              refine .ao #[true, true, true, true, true, true, true, false, false] rfl rfl <| .yv (.load rfl Fx.agg2 (.tail _ <| .head _) rfl) rfl <| .nx <| .an 7 [] (by kernel_rfl) ⟨?_, trivial⟩
                              refine .ao #[true, true, true, true, true, true, true, true, false] rfl rfl <| .yv (.fieldAddr rfl Fx.field26_2) rfl <| .nx <| .an 8 [] (by kernel_rfl) ⟨?_, trivial⟩
                              exact .ao #[true, true, true, true, true, true, true, true, true] rfl rfl <| .st .head rfl rfl Fx.size2 rfl (Nat.le_of_ble_eq_true rfl) rfl <| .nx <| .ae (by kernel_rfl) <|
                                .tN <| .me (x.ct.toNat % 4, wordR x.nm, x.n) ⟨rfl, trivial⟩ ⟨rfl, rfl, rfl, rfl, trivial⟩ (fun _ s => s) ⟨by dsimp only; omega, by dsimp only; first | exact word_len _ | exact hnm⟩
                          ·
                            refine .ao #[true, true, true, false, false, true, true, false, false] rfl rfl <| .st .head rfl rfl Fx.size9 rfl (Nat.le_of_ble_eq_true rfl) rfl <| .nx <| .an 3 [] (by kernel_rfl) ⟨?_, trivial⟩
                            refine .ao #[true, true, true, true, false, true, true, false, false] rfl rfl <| .yv (.fieldAddr rfl Fx.field120_4) rfl <| .nx <| .an 4 [] (by kernel_rfl) ⟨?_, trivial⟩
                            refine .ao #[true, true, true, true, true, true, true, false, false] rfl rfl <| .yv (.load rfl Fx.agg2 (.tail _ <| .head _) rfl) rfl <| .nx <| .an 7 [] (by kernel_rfl) ⟨?_, trivial⟩
                            refine .ao #[true, true, true, true, true, true, true, true, false] rfl rfl <| .yv (.fieldAddr rfl Fx.field26_2) rfl <| .nx <| .an 8 [] (by kernel_rfl) ⟨?_, trivial⟩
                            exact .ao #[true, true, true, true, true, true, true, true, true] rfl rfl <| .st .head rfl rfl Fx.size2 rfl (Nat.le_of_ble_eq_true rfl) rfl <| .nx <| .ae (by kernel_rfl) <|
                              .tN <| .me (x.ct.toNat % 4, wordR x.nm, x.n) ⟨rfl, trivial⟩ ⟨rfl, rfl, rfl, rfl, trivial⟩ (fun _ s => s) ⟨by dsimp only; omega, by dsimp only; first | exact word_len _ | exact hnm⟩
                      ·
                        refine .ao #[true, true, false, true, false, false, false, false, false] rfl rfl <| .yv (.fieldAddr rfl Fx.field120_4) rfl <| .nx <| .an 2 [4] (by kernel_rfl) ⟨?_, ?_, trivial⟩
                        ·
                          refine .ao #[true, true, true, true, false, false, false, false, false] rfl rfl <| .yv (.call Fx.call48 rfl (fun W s => word_any H x.nm W s.agr)) rfl <| .nx <| .an 4 [5] (by kernel_rfl) ⟨?_, ?_, trivial⟩
                          ·
                            refine .ao #[true, true, true, true, true, false, false, false, false] rfl rfl <| .yv (.load rfl Fx.agg2 (.tail _ <| .head _) rfl) rfl <| .nx <| .an 5 [] (by kernel_rfl) ⟨?_, trivial⟩
                            refine .ao #[true, true, true, true, true, true, false, false, false] rfl rfl <| .yv (.fieldAddr rfl Fx.field26_1) rfl <| .nx <| .an 6 [] (by kernel_rfl) ⟨?_, trivial⟩
                            refine .ao #[true, true, true, true, true, true, true, false, false] rfl rfl <| .st .head rfl rfl Fx.size9 rfl (Nat.le_of_ble_eq_true rfl) rfl <| .nx <| .an 7 [] (by kernel_rfl) ⟨?_, trivial⟩
                            refine .ao #[true, true, true, true, true, true, true, true, false] rfl rfl <| .yv (.fieldAddr rfl Fx.field26_2) rfl <| .nx <| .an 8 [] (by kernel_rfl) ⟨?_, trivial⟩
                            exact .ao #[true, true, true, true, true, true, true, true, true] rfl rfl <| .st .head rfl rfl Fx.size2 rfl (Nat.le_of_ble_eq_true rfl) rfl <| .nx <| .ae (by kernel_rfl) <|
                              .tN <| .me (x.ct.toNat % 4, wordR x.nm, x.n) ⟨rfl, trivial⟩ ⟨rfl, rfl, rfl, rfl, trivial⟩ (fun _ s => s) ⟨by dsimp only; omega, by dsimp only; first | exact word_len _ | exact hnm⟩
                          ·
                            refine .ao #[true, true, true, true, false, true, false, false, false] rfl rfl <| .yv (.fieldAddr rfl Fx.field26_1) rfl <| .nx <| .an 4 [6] (by kernel_rfl) ⟨?_, ?_, trivial⟩
                            ·
                              refine .ao #[true, true, true, true, true, true, false, false, false] rfl rfl <| .yv (.load rfl Fx.agg2 (.tail _ <| .head _) rfl) rfl <| .nx <| .an 6 [] (by kernel_rfl) ⟨?_, trivial⟩
                              refine .ao #[true, true, true, true, true, true, true, false, false] rfl rfl <| .st .head rfl rfl Fx.size9 rfl (Nat.le_of_ble_eq_true rfl) rfl <| .nx <| .an 7 [] (by kernel_rfl) ⟨?_, trivial⟩
                              refine .ao #[true, true, true, true, true, true, true, true, false] rfl rfl <| .yv (.fieldAddr rfl Fx.field26_2) rfl <| .nx <| .an 8 [] (by kernel_rfl) ⟨?_, trivial⟩
                              exact .ao #[true, true, true, true, true, true, true, true, true] rfl rfl <| .st .head rfl rfl Fx.size2 rfl (Nat.le_of_ble_eq_true rfl) rfl <| .nx <| .ae (by kernel_rfl) <|
                                .tN <| .me (x.ct.toNat % 4, wordR x.nm, x.n) ⟨rfl, trivial⟩ ⟨rfl, rfl, rfl, rfl, trivial⟩ (fun _ s => s) ⟨by dsimp only; omega, by dsimp only; first | exact word_len _ | exact hnm⟩
                            ·
                              refine .ao #[true, true, true, true, false, true, true, false, false] rfl rfl <| .st .head rfl rfl Fx.size9 rfl (Nat.le_of_ble_eq_true rfl) rfl <| .nx <| .an 4 [] (by kernel_rfl) ⟨?_, trivial⟩
                              refine .ao #[true, true, true, true, true, true, true, false, false] rfl rfl <| .yv (.load rfl Fx.agg2 (.tail _ <| .head _) rfl) rfl <| .nx <| .an 7 [] (by kernel_rfl) ⟨?_, trivial⟩
                              refine .ao #[true, true, true, true, true, true, true, true, false] rfl rfl <| .yv (.fieldAddr rfl Fx.field26_2) rfl <| .nx <| .an 8 [] (by kernel_rfl) ⟨?_, trivial⟩
                              exact .ao #[true, true, true, true, true, true, true, true, true] rfl rfl <| .st .head rfl rfl Fx.size2 rfl (Nat.le_of_ble_eq_true rfl) rfl <| .nx <| .ae (by kernel_rfl) <|
                                .tN <| .me (x.ct.toNat % 4, wordR x.nm, x.n) ⟨rfl, trivial⟩ ⟨rfl, rfl, rfl, rfl, trivial⟩ (fun _ s => s) ⟨by dsimp only; omega, by dsimp only; first | exact word_len _ | exact hnm⟩
                        ·
                          refine .ao #[true, true, false, true, true, false, false, false, false] rfl rfl <| .yv (.load rfl Fx.agg2 (.tail _ <| .head _) rfl) rfl <| .nx <| .an 2 [] (by kernel_rfl) ⟨?_, trivial⟩
                          refine .ao #[true, true, true, true, true, false, false, false, false] rfl rfl <| .yv (.call Fx.call48 rfl (fun W s => word_any H x.nm W s.agr)) rfl <| .nx <| .an 5 [] (by kernel_rfl) ⟨?_, trivial⟩
                          refine .ao #[true, true, true, true, true, true, false, false, false] rfl rfl <| .yv (.fieldAddr rfl Fx.field26_1) rfl <| .nx <| .an 6 [] (by kernel_rfl) ⟨?_, trivial⟩
                          refine .ao #[true, true, true, true, true, true, true, false, false] rfl rfl <| .st .head rfl rfl Fx.size9 rfl (Nat.le_of_ble_eq_true rfl) rfl <| .nx <| .an 7 [] (by kernel_rfl) ⟨?_, trivial⟩
                          refine .ao #[true, true, true, true, true, true, true, true, false] rfl rfl <| .yv (.fieldAddr rfl Fx.field26_2) rfl <| .nx <| .an 8 [] (by kernel_rfl) ⟨?_, trivial⟩
                          exact .ao #[true, true, true, true, true, true, true, true, true] rfl rfl <| .st .head rfl rfl Fx.size2 rfl (Nat.le_of_ble_eq_true rfl) rfl <| .nx <| .ae (by kernel_rfl) <|
                            .tN <| .me (x.ct.toNat % 4, wordR x.nm, x.n) ⟨rfl, trivial⟩ ⟨rfl, rfl, rfl, rfl, trivial⟩ (fun _ s => s) ⟨by dsimp only; omega, by dsimp only; first | exact word_len _ | exact hnm⟩
                    ·
                      refine .ao #[true, false, false, true, false, false, false, false, false] rfl rfl <| .yv (.fieldAddr rfl Fx.field120_4) rfl <| .nx <| .an 1 [4] (by kernel_rfl) ⟨?_, ?_, trivial⟩
                      ·
                        refine .ao #[true, true, false, true, false, false, false, false, false] rfl rfl <| .yv (.load rfl Fx.agg5 (.tail _ <| .head _) rfl) rfl <| .nx <| .an 2 [4] (by kernel_rfl) ⟨?_, ?_, trivial⟩
                        ·
                          refine .ao #[true, true, true, true, false, false, false, false, false] rfl rfl <| .yv (.call Fx.call48 rfl (fun W s => word_any H x.nm W s.agr)) rfl <| .nx <| .an 4 [5] (by kernel_rfl) ⟨?_, ?_, trivial⟩
                          ·
                            refine .ao #[true, true, true, true, true, false, false, false, false] rfl rfl <| .yv (.load rfl Fx.agg2 (.tail _ <| .head _) rfl) rfl <| .nx <| .an 5 [] (by kernel_rfl) ⟨?_, trivial⟩
                            refine .ao #[true, true, true, true, true, true, false, false, false] rfl rfl <| .yv (.fieldAddr rfl Fx.field26_1) rfl <| .nx <| .an 6 [] (by kernel_rfl) ⟨?_, trivial⟩
                            refine .ao #[true, true, true, true, true, true, true, false, false] rfl rfl <| .st .head rfl rfl Fx.size9 rfl (Nat.le_of_ble_eq_true rfl) rfl <| .nx <| .an 7 [] (by kernel_rfl) ⟨?_, trivial⟩
                            refine .ao #[true, true, true, true, true, true, true, true, false] rfl rfl <| .yv (.fieldAddr rfl Fx.field26_2) rfl <| .nx <| .an 8 [] (by kernel_rfl) ⟨?_, trivial⟩
                            exact .ao #[true, true, true, true, true, true, true, true, true] rfl rfl <| .st .head rfl rfl Fx.size2 rfl (Nat.le_of_ble_eq_true rfl) rfl <| .nx <| .ae (by kernel_rfl) <|
                              .tN <| .me (x.ct.toNat % 4, wordR x.nm, x.n) ⟨rfl, trivial⟩ ⟨rfl, rfl, rfl, rfl, trivial⟩ (fun _ s => s) ⟨by dsimp only; omega, by dsimp only; first | exact word_len _ | exact hnm⟩
                          ·
                            refine .ao #[true, true, true, true, false, true, false, false, false] rfl rfl <| .yv (.fieldAddr rfl Fx.field26_1) rfl <| .nx <| .an 4 [6] (by kernel_rfl) ⟨?_, ?_, trivial⟩
                            ·
                              refine .ao #[true, true, true, true, true, true, false, false, false] rfl rfl <| .yv (.load rfl Fx.agg2 (.tail _ <| .head _) rfl) rfl <| .nx <| .an 6 [] (by kernel_rfl) ⟨?_, trivial⟩
                              refine .ao #[true, true, true, true, true, true, true, false, false] rfl rfl <| .st .head rfl rfl Fx.size9 rfl (Nat.le_of_ble_eq_true rfl) rfl <| .nx <| .an 7 [] (by kernel_rfl) ⟨?_, trivial⟩
                              refine .ao #[true, true, true, true, true, true, true, true, false] rfl rfl <| .yv (.fieldAddr rfl Fx.field26_2) rfl <| .nx <| .an 8 [] (by kernel_rfl) ⟨?_, trivial⟩
                              exact .ao #[true, true, true, true, true, true, true, true, true] rfl rfl <| .st .head rfl rfl Fx.size2 rfl (Nat.le_of_ble_eq_true rfl) rfl <| .nx <| .ae (by kernel_rfl) <|
                                .tN <| .me (x.ct.toNat % 4, wordR x.nm, x.n) ⟨rfl, trivial⟩ ⟨rfl, rfl, rfl, rfl, trivial⟩ (fun _ s => s) ⟨by dsimp only; omega, by dsimp only; first | exact word_len _ | exact hnm⟩
                            ·
                              refine .ao #[true, true, true, true, false, true, true, false, false] rfl rfl <| .st .head rfl rfl Fx.size9 rfl (Nat.le_of_ble_eq_true rfl) rfl <| .nx <| .an 4 [] (by kernel_rfl) ⟨?_, trivial⟩
                              refine .ao #[true, true, true, true, true, true, true, false, false] rfl rfl <| .yv (.load rfl Fx.agg2 (.tail _ <| .head _) rfl) rfl <| .nx <| .an 7 [] (by kernel_rfl) ⟨?_, trivial⟩
                              refine .ao #[true, true, true, true, true, true, true, true, false] rfl rfl <| .yv (.fieldAddr rfl Fx.field26_2) rfl <| .nx <| .an 8 [] (by kernel_rfl) ⟨?_, trivial⟩
                              exact .ao #[true, true, true, true, true, true, true, true, true] rfl rfl <| .st .head rfl rfl Fx.size2 rfl (Nat.le_of_ble_eq_true rfl) rfl <| .nx <| .ae (by kernel_rfl) <|
                                .tN <| .me (x.ct.toNat % 4, wordR x.nm, x.n) ⟨rfl, trivial⟩ ⟨rfl, rfl, rfl, rfl, trivial⟩ (fun _ s => s) ⟨by dsimp only; omega, by dsimp only; first | exact word_len _ | exact hnm⟩
                        ·
                          refine .ao #[true, true, false, true, true, false, false, false, false] rfl rfl <| .yv (.load rfl Fx.agg2 (.tail _ <| .head _) rfl) rfl <| .nx <| .an 2 [] (by kernel_rfl) ⟨?_, trivial⟩
                          refine .ao #[true, true, true, true, true, false, false, false, false] rfl rfl <| .yv (.call Fx.call48 rfl (fun W s => word_any H x.nm W s.agr)) rfl <| .nx <| .an 5 [] (by kernel_rfl) ⟨?_, trivial⟩
                          refine .ao #[true, true, true, true, true, true, false, false, false] rfl rfl <| .yv (.fieldAddr rfl Fx.field26_1) rfl <| .nx <| .an 6 [] (by kernel_rfl) ⟨?_, trivial⟩
                          refine .ao #[true, true, true, true, true, true, true, false, false] rfl rfl <| .st .head rfl rfl Fx.size9 rfl (Nat.le_of_ble_eq_true rfl) rfl <| .nx <| .an 7 [] (by kernel_rfl) ⟨?_, trivial⟩
                          refine .ao #[true, true, true, true, true, true, true, true, false] rfl rfl <| .yv (.fieldAddr rfl Fx.field26_2) rfl <| .nx <| .an 8 [] (by kernel_rfl) ⟨?_, trivial⟩
                          exact .ao #[true, true, true, true, true, true, true, true, true] rfl rfl <| .st .head rfl rfl Fx.size2 rfl (Nat.le_of_ble_eq_true rfl) rfl <| .nx <| .ae (by kernel_rfl) <|
                            .tN <| .me (x.ct.toNat % 4, wordR x.nm, x.n) ⟨rfl, trivial⟩ ⟨rfl, rfl, rfl, rfl, trivial⟩ (fun _ s => s) ⟨by dsimp only; omega, by dsimp only; first | exact word_len _ | exact hnm⟩
                      ·
                        refine .ao #[true, false, false, true, true, false, false, false, false] rfl rfl <| .yv (.load rfl Fx.agg2 (.tail _ <| .head _) rfl) rfl <| .nx <| .an 1 [] (by kernel_rfl) ⟨?_, trivial⟩
                        refine .ao #[true, true, false, true, true, false, false, false, false] rfl rfl <| .yv (.load rfl Fx.agg5 (.tail _ <| .head _) rfl) rfl <| .nx <| .an 2 [] (by kernel_rfl) ⟨?_, trivial⟩
                        refine .ao #[true, true, true, true, true, false, false, false, false] rfl rfl <| .yv (.call Fx.call48 rfl (fun W s => word_any H x.nm W s.agr)) rfl <| .nx <| .an 5 [] (by kernel_rfl) ⟨?_, trivial⟩
                        refine .ao #[true, true, true, true, true, true, false, false, false] rfl rfl <| .yv (.fieldAddr rfl Fx.field26_1) rfl <| .nx <| .an 6 [] (by kernel_rfl) ⟨?_, trivial⟩
                        refine .ao #[true, true, true, true, true, true, true, false, false] rfl rfl <| .st .head rfl rfl Fx.size9 rfl (Nat.le_of_ble_eq_true rfl) rfl <| .nx <| .an 7 [] (by kernel_rfl) ⟨?_, trivial⟩
                        refine .ao #[true, true, true, true, true, true, true, true, false] rfl rfl <| .yv (.fieldAddr rfl Fx.field26_2) rfl <| .nx <| .an 8 [] (by kernel_rfl) ⟨?_, trivial⟩
                        exact .ao #[true, true, true, true, true, true, true, true, true] rfl rfl <| .st .head rfl rfl Fx.size2 rfl (Nat.le_of_ble_eq_true rfl) rfl <| .nx <| .ae (by kernel_rfl) <|
                          .tN <| .me (x.ct.toNat % 4, wordR x.nm, x.n) ⟨rfl, trivial⟩ ⟨rfl, rfl, rfl, rfl, trivial⟩ (fun _ s => s) ⟨by dsimp only; omega, by dsimp only; first | exact word_len _ | exact hnm⟩
                  ·
                    refine .ao #[false, false, false, true, false, false, false, false, false] rfl rfl <| .yv (.fieldAddr rfl Fx.field120_4) rfl <| .nx <| .an 0 [4] (by kernel_rfl) ⟨?_, ?_, trivial⟩
                    ·
                      refine .ao #[true, false, false, true, false, false, false, false, false] rfl rfl <| .yv (.fieldAddr rfl Fx.field120_1) rfl <| .nx <| .an 1 [4] (by kernel_rfl) ⟨?_, ?_, trivial⟩
                      ·
                        refine .ao #[true, true, false, true, false, false, false, false, false] rfl rfl <| .yv (.load rfl Fx.agg5 (.tail _ <| .head _) rfl) rfl <| .nx <| .an 2 [4] (by kernel_rfl) ⟨?_, ?_, trivial⟩
                        ·
                          refine .ao #[true, true, true, true, false, false, false, false, false] rfl rfl <| .yv (.call Fx.call48 rfl (fun W s => word_any H x.nm W s.agr)) rfl <| .nx <| .an 4 [5] (by kernel_rfl) ⟨?_, ?_, trivial⟩
                          ·
                            refine .ao #[true, true, true, true, true, false, false, false, false] rfl rfl <| .yv (.load rfl Fx.agg2 (.tail _ <| .head _) rfl) rfl <| .nx <| .an 5 [] (by kernel_rfl) ⟨?_, trivial⟩
                            refine .ao #[true, true, true, true, true, true, false, false, false] rfl rfl <| .yv (.fieldAddr rfl Fx.field26_1) rfl <| .nx <| .an 6 [] (by kernel_rfl) ⟨?_, trivial⟩
                            refine .ao #[true, true, true, true, true, true, true, false, false] rfl rfl <| .st .head rfl rfl Fx.size9 rfl (Nat.le_of_ble_eq_true rfl) rfl <| .nx <| .an 7 [] (by kernel_rfl) ⟨?_, trivial⟩
                            refine .ao #[true, true, true, true, true, true, true, true, false] rfl rfl <| .yv (.fieldAddr rfl Fx.field26_2) rfl <| .nx <| .an 8 [] (by kernel_rfl) ⟨?_, trivial⟩
                            exact .ao #[true, true, true, true, true, true, true, true, true] rfl rfl <| .st .head rfl rfl Fx.size2 rfl (Nat.le_of_ble_eq_true rfl) rfl <| .nx <| .ae (by kernel_rfl) <|
                              .tN <| .me (x.ct.toNat % 4, wordR x.nm, x.n) ⟨rfl, trivial⟩ ⟨rfl, rfl, rfl, rfl, trivial⟩ (fun _ s => s) ⟨by dsimp only; omega, by dsimp only; first | exact word_len _ | exact hnm⟩
                          ·
                            refine .ao #[true, true, true, true, false, true, false, false, false] rfl rfl <| .yv (.fieldAddr rfl Fx.field26_1) rfl <| .nx <| .an 4 [6] (by kernel_rfl) ⟨?_, ?_, trivial⟩
                            ·
                              refine .ao #[true, true, true, true, true, true, false, false, false] rfl rfl <| .yv (.load rfl Fx.agg2 (.tail _ <| .head _) rfl) rfl <| .nx <| .an 6 [] (by kernel_rfl) ⟨?_, trivial⟩
                              refine .ao #[true, true, true, true, true, true, true, false, false] rfl rfl <| .st .head rfl rfl Fx.size9 rfl (Nat.le_of_ble_eq_true rfl) rfl <| .nx <| .an 7 [] (by kernel_rfl) ⟨?_, trivial⟩
                              refine .ao #[true, true, true, true, true, true, true, true, false] rfl rfl <| .yv (.fieldAddr rfl Fx.field26_2) rfl <| .nx <| .an 8 [] (by kernel_rfl) ⟨?_, trivial⟩
                              exact .ao #[true, true, true, true, true, true, true, true, true] rfl rfl <| .st .head rfl rfl Fx.size2 rfl (Nat.le_of_ble_eq_true rfl) rfl <| .nx <| .ae (by kernel_rfl) <|
                                .tN <| .me (x.ct.toNat % 4, wordR x.nm, x.n) ⟨rfl, trivial⟩ ⟨rfl, rfl, rfl, rfl, trivial⟩ (fun _ s => s) ⟨by dsimp only; omega, by dsimp only; first | exact word_len _ | exact hnm⟩
                            ·
                              refine .ao #[true, true, true, true, false, true, true, false, false] rfl rfl <| .st .head rfl rfl Fx.size9 rfl (Nat.le_of_ble_eq_true rfl) rfl <| .nx <| .an 4 [] (by kernel_rfl) ⟨?_, trivial⟩
                              refine .ao #[true, true, true, true, true, true, true, false, false] rfl rfl <| .yv (.load rfl Fx.agg2 (.tail _ <| .head _) rfl) rfl <| .nx <| .an 7 [] (by kernel_rfl) ⟨?_, trivial⟩
                              refine .ao #[true, true, true, true, true, true, true, true, false] rfl rfl <| .yv (.fieldAddr rfl Fx.field26_2) rfl <| .nx <| .an 8 [] (by kernel_rfl) ⟨?_, trivial⟩
                              exact .ao #[true, true, true, true, true, true, true, true, true] rfl rfl <| .st .head rfl rfl Fx.size2 rfl (Nat.le_of_ble_eq_true rfl) rfl <| .nx <| .ae (by kernel_rfl) <|
                                .tN <| .me (x.ct.toNat % 4, wordR x.nm, x.n) ⟨rfl, trivial⟩ ⟨rfl, rfl, rfl, rfl, trivial⟩ (fun _ s => s) ⟨by dsimp only; omega, by dsimp only; first | exact word_len _ | exact hnm⟩
                        ·
                          refine .ao #[true, true, false, true, true, false, false, false, false] rfl rfl <| .yv (.load rfl Fx.agg2 (.tail _ <| .head _) rfl) rfl <| .nx <| .an 2 [] (by kernel_rfl) ⟨?_, trivial⟩
                          refine .ao #[true, true, true, true, true, false, false, false, false] rfl rfl <| .yv (.call Fx.call48 rfl (fun W s => word_any H x.nm W s.agr)) rfl <| .nx <| .an 5 [] (by kernel_rfl) ⟨?_, trivial⟩
                          refine .ao #[true, true, true, true, true, true, false, false, false] rfl rfl <| .yv (.fieldAddr rfl Fx.field26_1) rfl <| .nx <| .an 6 [] (by kernel_rfl) ⟨?_, trivial⟩
                          refine .ao #[true, true, true, true, true, true, true, false, false] rfl rfl <| .st .head rfl rfl Fx.size9 rfl (Nat.le_of_ble_eq_true rfl) rfl <| .nx <| .an 7 [] (by kernel_rfl) ⟨?_, trivial⟩
                          refine .ao #[true, true, true, true, true, true, true, true, false] rfl rfl <| .yv (.fieldAddr rfl Fx.field26_2) rfl <| .nx <| .an 8 [] (by kernel_rfl) ⟨?_, trivial⟩
                          exact .ao #[true, true, true, true, true, true, true, true, true] rfl rfl <| .st .head rfl rfl Fx.size2 rfl (Nat.le_of_ble_eq_true rfl) rfl <| .nx <| .ae (by kernel_rfl) <|
                            .tN <| .me (x.ct.toNat % 4, wordR x.nm, x.n) ⟨rfl, trivial⟩ ⟨rfl, rfl, rfl, rfl, trivial⟩ (fun _ s => s) ⟨by dsimp only; omega, by dsimp only; first | exact word_len _ | exact hnm⟩
                      ·
                        refine .ao #[true, false, false, true, true, false, false, false, false] rfl rfl <| .yv (.load rfl Fx.agg2 (.tail _ <| .head _) rfl) rfl <| .nx <| .an 1 [] (by kernel_rfl) ⟨?_, trivial⟩
                        refine .ao #[true, true, false, true, true, false, false, false, false] rfl rfl <| .yv (.load rfl Fx.agg5 (.tail _ <| .head _) rfl) rfl <| .nx <| .an 2 [] (by kernel_rfl) ⟨?_, trivial⟩
                        refine .ao #[true, true, true, true, true, false, false, false, false] rfl rfl <| .yv (.call Fx.call48 rfl (fun W s => word_any H x.nm W s.agr)) rfl <| .nx <| .an 5 [] (by kernel_rfl) ⟨?_, trivial⟩
                        refine .ao #[true, true, true, true, true, true, false, false, false] rfl rfl <| .yv (.fieldAddr rfl Fx.field26_1) rfl <| .nx <| .an 6 [] (by kernel_rfl) ⟨?_, trivial⟩
                        refine .ao #[true, true, true, true, true, true, true, false, false] rfl rfl <| .st .head rfl rfl Fx.size9 rfl (Nat.le_of_ble_eq_true rfl) rfl <| .nx <| .an 7 [] (by kernel_rfl) ⟨?_, trivial⟩
                        refine .ao #[true, true, true, true, true, true, true, true, false] rfl rfl <| .yv (.fieldAddr rfl Fx.field26_2) rfl <| .nx <| .an 8 [] (by kernel_rfl) ⟨?_, trivial⟩
                        exact .ao #[true, true, true, true, true, true, true, true, true] rfl rfl <| .st .head rfl rfl Fx.size2 rfl (Nat.le_of_ble_eq_true rfl) rfl <| .nx <| .ae (by kernel_rfl) <|
                          .tN <| .me (x.ct.toNat % 4, wordR x.nm, x.n) ⟨rfl, trivial⟩ ⟨rfl, rfl, rfl, rfl, trivial⟩ (fun _ s => s) ⟨by dsimp only; omega, by dsimp only; first | exact word_len _ | exact hnm⟩
                    ·
                      refine .ao #[false, false, false, true, true, false, false, false, false] rfl rfl <| .yv (.load rfl Fx.agg2 (.tail _ <| .head _) rfl) rfl <| .nx <| .an 0 [] (by kernel_rfl) ⟨?_, trivial⟩
                      refine .ao #[true, false, false, true, true, false, false, false, false] rfl rfl <| .yv (.fieldAddr rfl Fx.field120_1) rfl <| .nx <| .an 1 [] (by kernel_rfl) ⟨?_, trivial⟩
                      refine .ao #[true, true, false, true, true, false, false, false, false] rfl rfl <| .yv (.load rfl Fx.agg5 (.tail _ <| .head _) rfl) rfl <| .nx <| .an 2 [] (by kernel_rfl) ⟨?_, trivial⟩
                      refine .ao #[true, true, true, true, true, false, false, false, false] rfl rfl <| .yv (.call Fx.call48 rfl (fun W s => word_any H x.nm W s.agr)) rfl <| .nx <| .an 5 [] (by kernel_rfl) ⟨?_, trivial⟩
                      refine .ao #[true, true, true, true, true, true, false, false, false] rfl rfl <| .yv (.fieldAddr rfl Fx.field26_1) rfl <| .nx <| .an 6 [] (by kernel_rfl) ⟨?_, trivial⟩
                      refine .ao #[true, true, true, true, true, true, true, false, false] rfl rfl <| .st .head rfl rfl Fx.size9 rfl (Nat.le_of_ble_eq_true rfl) rfl <| .nx <| .an 7 [] (by kernel_rfl) ⟨?_, trivial⟩
                      refine .ao #[true, true, true, true, true, true, true, true, false] rfl rfl <| .yv (.fieldAddr rfl Fx.field26_2) rfl <| .nx <| .an 8 [] (by kernel_rfl) ⟨?_, trivial⟩
                      exact .ao #[true, true, true, true, true, true, true, true, true] rfl rfl <| .st .head rfl rfl Fx.size2 rfl (Nat.le_of_ble_eq_true rfl) rfl <| .nx <| .ae (by kernel_rfl) <|
                        .tN <| .me (x.ct.toNat % 4, wordR x.nm, x.n) ⟨rfl, trivial⟩ ⟨rfl, rfl, rfl, rfl, trivial⟩ (fun _ s => s) ⟨by dsimp only; omega, by dsimp only; first | exact word_len _ | exact hnm⟩
                · skip
                  exact .sk <| .tN <| .me (x.ct.toNat % 4, nm, nn) ⟨rfl, trivial⟩ ⟨rfl, rfl, rfl, rfl, trivial⟩ (fun _ s => s) ⟨by dsimp only; omega, by dsimp only; first | exact word_len _ | exact hnm⟩
              · skip
                exact .sk <| .tN <| .me (m0, nm, nn) ⟨rfl, trivial⟩ ⟨rfl, rfl, rfl, rfl, trivial⟩ (fun _ s => s) ⟨by dsimp only; omega, by dsimp only; first | exact word_len _ | exact hnm⟩
            ·
              obtain ⟨m, nm, nn⟩ := z
              dsimp only at hC ⊢
              obtain ⟨hm3, hnm⟩ := hC
              refine Sx.row0 26 4 ?_
              refine .sq <| .sq <| .rg <| .a rfl rfl <| .nl <| .tN <| .bk <| .lp (X := Nat × Hp × Value × List Value × Value) [(1, _), (4, _), (7, _), (8, _)] ⟨rfl, rfl, rfl, rfl, trivial⟩ [_, _] (fun z => [(9, .int .i64 (z.1 : Nat)), (0, z.2.2.2.2)]) (fun z => z.2.1) (fun z => [.row 26 4 z.2.2.1 z.1 z.2.2.2.1, .box b7 [.int .i64 op.toNat, strV nm, .int .i64 (nn).toInt, z.2.2.1] 26]) (fun z => z.1 ≤ m ∧ HUp w H z.2.1 ∧ ∃ (es : List Ex) (rest : List Nd), es.length = z.1 ∧ RepZ z.2.1 4 (es.map (dEx .i64)) z.2.2.2.1 ∧ goodEs d es ∧ Rep z.2.1 (.seq 5 (rest.map dNd)) [z.2.2.2.2]) (fun z => m - z.1) (0, H, .slice none 0 0, [], _) (fun _ s => s) ⟨rfl, rfl, trivial⟩ ⟨by simp, .refl, [], _, rfl, RepZ.nil, goodEs_nil d, (by have h5 := rep_drop h (lo := 1) (by omega); rw [← List.map_drop] at h5; exact h5)⟩ fun z hC => ?_
              obtain ⟨k, H1, r, xs, rv⟩ := z
              dsimp only at hC ⊢
              obtain ⟨hk0, u1, es, rest, hlen, hz, hgs, hrs⟩ := hC
              refine .sq <| .sq <| .rg <| .m rfl rfl <| .m rfl rfl <| .yv (.lss rfl rfl) rfl <| .nl <| .tN <| .cd rfl (fun h72 => ?_) (fun h72 => ?_)
              · try simp only [decide_eq_true_eq] at h72
                have hk : k < m := by omega
                refine .sk <| .tN <| .sq <| .bk <| .sq <| .rg <| .m rfl rfl <| .m rfl rfl <| .yv (.add rfl rfl (w64 (by omega) (by omega))) rfl <| .ct (X := List Value × Value) Fx.call25 rfl (fun W s => ih (f - 1) (by omega) (d + 1) (by omega) H1 _ _ W hrs s.agr) rfl fun y2 H2 hc2 u2 => ?_
                obtain ⟨x2, y2⟩ := y2
                obtain ⟨x2e, rest2, hc2, hg2, hrs2⟩ := hc2
                dsimp only at hc2 hrs2 ⊢
                obtain ⟨op2, nm2, n2, args2⟩ := x2e
                obtain ⟨p2, c2, rfl, hs2, hnm2⟩ := ex_open hc2
                refine .m rfl rfl <| .yv (.extract rfl rfl) rfl <| .yv (.extract rfl rfl) rfl <| .al Fx.zero26 rfl fun b10 => .sW .head rfl rfl Fx.size26 (by simp [Value.oneCell', strV, cNd]) rfl <|
                  .a rfl rfl <| .nl <| .tN <| .rg <| .yv (.fieldAddr rfl Fx.field26_3) rfl <| .yv (.load rfl Fx.agg24 (.tail _ <| .tail _ <| .head _) rfl) rfl <| .yv (.loadW rfl Fx.agg26 (.head _) rfl) rfl <|
                  .bl rfl (Fx.bsl24_1 _ _ _ _) rfl fun b85 => .ap (news := [.int .i64 op2.toNat, strV nm2, .int .i64 n2.toInt, .slice p2 args2.length c2]) Fx.row24 rfl (fun _ => (.tail <|
                  .tail <| .head)) rfl (.box (.head _) (fun j u h => by rw [Nat.zero_add]; exact h)) rfl (by simp [Value.oneCell', strV]) (by simp [maxLen]; omega) (by omega) rfl fun r86 _ => ?_
                refine At.ra (by first | exact .tail _ (.tail _ (.head _)) | exact .tail _ (.tail _ (.tail _ (.head _)))) fun p86 c86 e86 => ?_
                exact .m rfl rfl <| .yv (.fieldAddr rfl Fx.field26_3) rfl <| .st (.tail <| .tail <| .tail <| .head) rfl rfl Fx.size24 (by rw [e86]; rfl) (Nat.le_of_ble_eq_true rfl) rfl <|
                  .a rfl rfl <| .nl <| .bN <| .tN <| .rg <| .m rfl rfl <| .yv (.add rfl rfl (w64 (by omega) (by omega))) rfl <| .a rfl rfl <| .nl <| .tN <| .ag (x := (k, H1, r, xs, rv)) (k + 1, H2, r86, xs ++ [.int .i64 op2.toNat, strV nm2, .int .i64 n2.toInt, .slice p2 args2.length c2], y2) ⟨rfl, rfl, trivial⟩ ⟨rfl, rfl, rfl, rfl, trivial⟩ (fun _ s => (s.pick [2, 3, 4, 5] _ rfl rfl)) ⟨by dsimp only; omega, u1.trans u2, es ++ [.mk op2 nm2 n2 args2], rest2, by simp; omega, by rw [List.map_append]; exact (hz.up u2.up).snoc hc2 rfl, goodEs_snoc hgs hg2, hrs2⟩ (by dsimp only; omega)
              · try simp only [decide_eq_false_iff_not] at h72
                obtain rfl : k = m := by omega
                refine At.ra (.head _) fun p86 c86 e86 => ?_
                subst e86
                refine .ex <| .tE <| .tE <| .bE <| .tN <| .sq <| .rg <| .yv (.loadW rfl Fx.agg26 (.tail _ <| .head _) rfl) rfl <| .m rfl rfl <| .sW (.tail <| .tail <| .tail <| .head) rfl rfl Fx.size26 (by simp [Value.oneCell', strV, cNd]) rfl <|
                  .a rfl rfl <| .nl <| .tN <| .rt <| ?_
                refine At.pm [0, 3] [_, _] rfl rfl ?_
                refine Sx.freezeSeq (ds := es.map (dEx .i64)) (by simp; omega) hz fun H3 p3 c3 u3 hr3 hs3 => ?_
                refine Sx.retN (.inl rfl) rfl (.cons (.cell rfl Fx.agg26 (.head _) rfl) (.cons (.tmp rfl) .nil)) rfl fun W s => ⟨(_, _), H3, ⟨_, rest, ex_shut (by omega) hs3, ?_, hrs.up u3.up⟩, rfl, (u1.trans u3).grow s⟩
                rw [goodE_mk]
                exact ⟨by omega, hgs⟩
end Go.Proofs.YtmbiojpcidccjaaDoor
/- Plain: changes of a fleet, and how large its parts are. -/
namespace Go.Proofs.YtmbiojpcidccjaaDoor
open Go.RowKit Go.Par Go.Sx
structure Sp where
  wh : UInt8
  i : UInt8
  nm : UInt8
  n : Int64
  nodes : List Nd
def dSp (x : Sp) : D := .str [.val (.int .u8 x.wh.toNat), .val (.int .u8 x.i.toNat), .val (.int .u8 x.nm.toNat), .val (.int .i64 x.n.toInt), .seq 5 (x.nodes.map dNd)]
theorem sp_open {H : Hp} {x : Sp} {cs : List Value} (h : Rep H (dSp x) cs) : ∃ p c, cs = [.int .u8 x.wh.toNat, .int .u8 x.i.toNat, .int .u8 x.nm.toNat, .int .i64 x.n.toInt, .slice p x.nodes.length c] ∧ Rep H (.seq 5 (x.nodes.map dNd)) [.slice p x.nodes.length c] := by
  rw [dSp, repS] at h
  obtain ⟨_, rfl, _, _, h⟩ := repL_val.1 h
  obtain ⟨_, rfl, _, _, h⟩ := repL_val.1 h
  obtain ⟨_, rfl, _, _, h⟩ := repL_val.1 h
  obtain ⟨_, rfl, _, _, h⟩ := repL_val.1 h
  obtain ⟨p, c, _, rfl, hs, h⟩ := repL_seq.1 h
  rw [repL_nil] at h
  subst h
  rw [List.length_map] at hs ⊢
  exact ⟨p, c, rfl, hs⟩
def stopS : Sm := .mk 10 [] [] [] [] []
def wrapS : Nat → Sm → Sm
  | 0, s => s
  | n + 1, s => .mk 4 [] [] [.mk 2 [] 0 []] [wrapS n s] []
def okE (e : Ex) : Bool := decide (e.depth ≤ 64) && Ex.all narrow e
def okS2 (N : Nat) : Sm → Bool
  | .mk _ _ _ ex _ _ => decide (ex.length ≤ N) && ex.all okE
structure okL (N : Nat) (l : List Sm) : Prop where
  cnt : Sm.counts l ≤ N
  dep : Sm.deeps l ≤ N
  all : Sm.alls (okS2 N) l = true
mutual
theorem sall_imp {q q' : Sm → Bool} (h : ∀ s, q s = true → q' s = true) : ∀ s, Sm.all q s = true → Sm.all q' s = true
  | .mk kd nm hd ex th el, hh => by
    rw [sall_mk] at hh ⊢
    simp only [Bool.and_eq_true] at hh ⊢
    exact ⟨⟨h _ hh.1.1, salls_imp h th hh.1.2⟩, salls_imp h el hh.2⟩
theorem salls_imp {q q' : Sm → Bool} (h : ∀ s, q s = true → q' s = true) : ∀ l, Sm.alls q l = true → Sm.alls q' l = true
  | [], _ => rfl
  | s :: r, hh => by
    rw [Sm.alls, Bool.and_eq_true] at hh ⊢
    exact ⟨sall_imp h s hh.1, salls_imp h r hh.2⟩
end
theorem okS2_mono {N M : Nat} (h : N ≤ M) : ∀ s, okS2 N s = true → okS2 M s = true
  | .mk _ _ _ ex _ _, hh => by
    simp only [okS2, Bool.and_eq_true, decide_eq_true_eq] at hh ⊢
    exact ⟨by omega, hh.2⟩
theorem okL.mono {N M : Nat} {l : List Sm} (h : okL N l) (k : N ≤ M) : okL M l := ⟨by have := h.cnt; omega, by have := h.dep; omega, salls_imp (okS2_mono k) l h.all⟩
theorem okL.nil {N : Nat} : okL N [] := ⟨by simp [Sm.counts], by simp [Sm.deeps], rfl⟩
theorem okL.app {N M : Nat} {a b : List Sm} (h : okL N a) (k : okL M b) : okL (N + M) (a ++ b) := by
  have h2 := h.mono (M := N + M) (by omega)
  have k2 := k.mono (M := N + M) (by omega)
  refine ⟨?_, ?_, ?_⟩
  · rw [scounts_app]; have := h.cnt; have := k.cnt; omega
  · rw [sdeeps_app]; have := h2.dep; have := k2.dep; omega
  · rw [salls_app, h2.all, k2.all]; rfl
theorem okL.len {N : Nat} {l : List Sm} (h : okL N l) : l.length ≤ N := Nat.le_trans (scounts_len l) h.cnt
theorem okL.left {N : Nat} {a b : List Sm} (h : okL N (a ++ b)) : okL N a := by
  obtain ⟨h1, h2, h3⟩ := h
  rw [scounts_app] at h1
  rw [sdeeps_app] at h2
  rw [salls_app, Bool.and_eq_true] at h3
  exact ⟨by omega, by omega, h3.1⟩
theorem okL.right {N : Nat} {a b : List Sm} (h : okL N (a ++ b)) : okL N b := by
  obtain ⟨h1, h2, h3⟩ := h
  rw [scounts_app] at h1
  rw [sdeeps_app] at h2
  rw [salls_app, Bool.and_eq_true] at h3
  exact ⟨by omega, by omega, h3.2⟩
theorem split_at {α : Type} {l : List α} {j : Nat} (h : j < l.length) : l = l.take j ++ ([l[j]] ++ l.drop (j + 1)) := by simp
theorem set_at {α : Type} {l : List α} {j : Nat} (h : j < l.length) (s : α) : l.set j s = l.take j ++ ([s] ++ l.drop (j + 1)) := by
  rw [List.set_eq_take_append_cons_drop, if_pos h]; rfl
theorem okL.at {N : Nat} {l : List Sm} (h : okL N l) {j : Nat} (hj : j < l.length) : okL N [l[j]] := by
  have h2 := h
  rw [split_at hj] at h2
  exact h2.right.left
theorem okL.put {N M : Nat} {l : List Sm} (h : okL N l) {j : Nat} (hj : j < l.length) {s : Sm} (k : okL (N + M) [s]) : okL (N + (N + M)) (l.set j s) := by
  have h2 := h
  rw [split_at hj] at h2
  have h3 : okL N (l.take j ++ l.drop (j + 1)) := by
    obtain ⟨a1, a2, a3⟩ := h2
    simp only [scounts_app, sdeeps_app, salls_app, Bool.and_eq_true] at a1 a2 a3
    refine ⟨?_, ?_, ?_⟩
    · rw [scounts_app]; omega
    · rw [sdeeps_app]; omega
    · rw [salls_app, a3.1, a3.2.2]; rfl
  rw [set_at hj]
  obtain ⟨a1, a2, a3⟩ := h3
  obtain ⟨b1, b2, b3⟩ := k
  rw [scounts_app] at a1
  rw [sdeeps_app] at a2
  rw [salls_app, Bool.and_eq_true] at a3
  have m1 := okS2_mono (N := N) (M := N + (N + M)) (by omega)
  have m2 := okS2_mono (N := N + M) (M := N + (N + M)) (by omega)
  refine ⟨?_, ?_, ?_⟩
  · rw [scounts_app, scounts_app]; omega
  · rw [sdeeps_app, sdeeps_app]; omega
  · rw [salls_app, salls_app, salls_imp m1 _ a3.1, salls_imp m2 _ b3, salls_imp m1 _ a3.2]; rfl
theorem okL_one {N : Nat} {kd : UInt8} {nm hd : Str} {ex : List Ex} {th el : List Sm} : okL N [.mk kd nm hd ex th el] ↔ Sm.counts th + Sm.counts el + 1 ≤ N ∧ Sm.deeps th + 1 ≤ N ∧ Sm.deeps el + 1 ≤ N ∧ ex.length ≤ N ∧ ex.all okE = true ∧ Sm.alls (okS2 N) th = true ∧ Sm.alls (okS2 N) el = true := by
  constructor
  · rintro ⟨h1, h2, h3⟩
    simp only [Sm.counts, scount_mk] at h1
    simp only [Sm.deeps, sdepth_mk] at h2
    simp only [Sm.alls, sall_mk, okS2, Bool.and_eq_true, decide_eq_true_eq] at h3
    exact ⟨by omega, by omega, by omega, h3.1.1.1.1, h3.1.1.1.2, h3.1.1.2, h3.1.2⟩
  · rintro ⟨h1, h2, h3, h4, h5, h6, h7⟩
    refine ⟨?_, ?_, ?_⟩
    · simp only [Sm.counts, scount_mk]; omega
    · simp only [Sm.deeps, sdepth_mk]; omega
    · simp only [Sm.alls, sall_mk, okS2, Bool.and_eq_true, decide_eq_true_eq]
      exact ⟨⟨⟨⟨h4, h5⟩, h6⟩, h7⟩, trivial⟩
theorem okL_stop {N : Nat} (h : 1 ≤ N) : okL N [stopS] := okL_one.2 ⟨by simp [Sm.counts]; omega, by simp [Sm.deeps]; omega, by simp [Sm.deeps]; omega, by simp, rfl, rfl, rfl⟩
theorem okL_wrap {N : Nat} {s : Sm} (h : okL N [s]) : ∀ n, okL (N + n) [wrapS n s]
  | 0 => h
  | n + 1 => by
    have ih := okL_wrap h n
    refine okL_one.2 ⟨?_, ?_, ?_, ?_, ?_, salls_imp (okS2_mono (by omega)) _ ih.all, rfl⟩
    · have := ih.cnt; simp only [Sm.counts] at this ⊢; omega
    · have := ih.dep; omega
    · simp [Sm.deeps]; omega
    · simp; omega
    · decide
theorem okE_good {e : Ex} (h : goodE 1 e) : okE e = true := by
  simp only [okE, Bool.and_eq_true, decide_eq_true_eq]
  exact ⟨by have := h.1; omega, h.2⟩
/-- What a change of a statement does to its size. -/
def Grew (s s' : Sm) : Prop := ∀ N, okL N [s] → okL (N + 20) [s']
theorem grew_kind {kd kd' : UInt8} {nm hd nm' hd' : Str} {ex : List Ex} {th el : List Sm} : Grew (.mk kd nm hd ex th el) (.mk kd' nm' hd' ex th el) := fun N h => by
  obtain ⟨h1, h2, h3, h4, h5, h6, h7⟩ := okL_one.1 h
  exact okL_one.2 ⟨by omega, by omega, by omega, by omega, h5, salls_imp (okS2_mono (by omega)) _ h6, salls_imp (okS2_mono (by omega)) _ h7⟩
theorem grew_add {kd : UInt8} {nm hd : Str} {ex : List Ex} {th el : List Sm} {e : Ex} (he : goodE 1 e) : Grew (.mk kd nm hd ex th el) (.mk kd nm hd (ex ++ [e]) th el) := fun N h => by
  obtain ⟨h1, h2, h3, h4, h5, h6, h7⟩ := okL_one.1 h
  exact okL_one.2 ⟨by omega, by omega, by omega, by rw [List.length_append, List.length_singleton]; omega, by rw [List.all_append, h5]; simp [okE_good he], salls_imp (okS2_mono (by omega)) _ h6, salls_imp (okS2_mono (by omega)) _ h7⟩
theorem grew_one {kd : UInt8} {nm hd : Str} {ex : List Ex} {th el : List Sm} {e : Ex} (he : goodE 1 e) : Grew (.mk kd nm hd ex th el) (.mk kd nm hd [e] th el) := fun N h => by
  obtain ⟨h1, h2, h3, h4, h5, h6, h7⟩ := okL_one.1 h
  exact okL_one.2 ⟨by omega, by omega, by omega, by simp, by simp [okE_good he], salls_imp (okS2_mono (by omega)) _ h6, salls_imp (okS2_mono (by omega)) _ h7⟩
theorem grew_then {kd : UInt8} {nm hd : Str} {ex : List Ex} {th el : List Sm} : Grew (.mk kd nm hd ex th el) (.mk kd nm hd ex [stopS] el) := fun N h => by
  obtain ⟨h1, h2, h3, h4, h5, h6, h7⟩ := okL_one.1 h
  have hs := okL_stop (N := N + 20) (by omega)
  exact okL_one.2 ⟨by have : Sm.counts [stopS] = 1 := by decide
                      omega, by have : Sm.deeps [stopS] = 1 := by decide
                                omega, by omega, by omega, h5, hs.all, salls_imp (okS2_mono (by omega)) _ h7⟩
theorem grew_else {kd : UInt8} {nm hd : Str} {ex : List Ex} {th el : List Sm} : Grew (.mk kd nm hd ex th el) (.mk kd nm hd ex th [stopS]) := fun N h => by
  obtain ⟨h1, h2, h3, h4, h5, h6, h7⟩ := okL_one.1 h
  have hs := okL_stop (N := N + 20) (by omega)
  exact okL_one.2 ⟨by have : Sm.counts [stopS] = 1 := by decide
                      omega, by omega, by have : Sm.deeps [stopS] = 1 := by decide
                                          omega, by omega, h5, salls_imp (okS2_mono (by omega)) _ h6, hs.all⟩
theorem grew_wrap {s : Sm} {n : Nat} (h : n < 13) : Grew s (wrapS n s) := fun N k => (okL_wrap k n).mono (by omega)
theorem grew_refl (s : Sm) : Grew s s := fun N k => k.mono (by omega)
structure okHd (N : Nat) (h : Hd) : Prop where
  ps : h.ps.length ≤ N
  body : okL N h.body
theorem okHd.mono {N M : Nat} {h : Hd} (k : okHd N h) (l : N ≤ M) : okHd M h := ⟨by have := k.ps; omega, k.body.mono l⟩
structure okV2 (N : Nat) (v : List Hd) : Prop where
  len : v.length ≤ N
  all : ∀ h ∈ v, okHd N h
theorem okV2.mono {N M : Nat} {v : List Hd} (k : okV2 N v) (l : N ≤ M) : okV2 M v := ⟨by have := k.len; omega, fun h m => (k.all h m).mono l⟩
theorem okV2.nil {N : Nat} : okV2 N [] := ⟨by simp, fun _ h => by cases h⟩
structure okCp (N : Nat) (c : Cp) : Prop where
  vars : c.vars.length ≤ N
  vers : c.vers.length ≤ N
  all : ∀ v ∈ c.vers, okV2 N v
theorem okCp.mono {N M : Nat} {c : Cp} (k : okCp N c) (l : N ≤ M) : okCp M c := ⟨by have := k.vars; omega, by have := k.vers; omega, fun v m => (k.all v m).mono l⟩
structure okFt (N : Nat) (f : Ft) : Prop where
  flags : f.flags.length ≤ N
  links : f.links.length ≤ N
  comps : f.comps.length ≤ N
  pos : 0 < f.comps.length
  all : ∀ c ∈ f.comps, okCp N c
theorem okFt.mono {N M : Nat} {f : Ft} (k : okFt N f) (l : N ≤ M) : okFt M f := ⟨by have := k.flags; omega, by have := k.links; omega, by have := k.comps; omega, k.pos, fun c m => (k.all c m).mono l⟩
end Go.Proofs.YtmbiojpcidccjaaDoor
/- Contracts: number, Level, symbol of the specification. -/
namespace Go.Proofs.YtmbiojpcidccjaaDoor
open Go.RowKit Go.Par Go.Sx
theorem dec_big {n : Nat} (h : ¬ n < 10) : Lib.decDigits n = Lib.decDigits (n / 10) ++ Lib.decDigits (n % 10) := by
  rw [Lib.decDigits_one (Nat.mod_lt n (by omega))]
  conv => lhs; rw [Lib.decDigits, dif_neg h]
def digsT : Str := [48, 49, 50, 51, 52, 53, 54, 55, 56, 57]
theorem digs_one {n : Nat} (h : n < 10) : (digsT.take (n + 1)).drop n = Lib.decDigits n := by
  rw [Lib.decDigits_one h]
  have key : ∀ i ∈ List.range 10, (digsT.take (i + 1)).drop i = [UInt8.ofNat (48 + i)] := by decide
  exact key n (List.mem_range.2 h)
theorem dec_len {n : Nat} (h : n ≤ 9223372036854775807) : (Lib.decDigits n).length ≤ 21 := by
  have := Lib.itoa_length_le (n : Int) (by omega) (by omega)
  rwa [Lib.itoa, if_neg (by omega), Int.toNat_natCast] at this
def lvR (k : Nat) : Nat := if k = 23 then 1 else if k = 22 then 2 else if 16 ≤ k then 3 else if 14 ≤ k then 4 else if 11 ≤ k then 5 else if 9 ≤ k then 6 else 7
theorem lvR_ok {op : UInt8} (h : okOp op = true) : lvR op.toNat = (shapeOf op).lv := by
  have key : ∀ i ∈ List.range 256, okOp (UInt8.ofNat i) = true → lvR i = (shapeOf (UInt8.ofNat i)).lv := by decide +kernel
  have h2 := key op.toNat (List.mem_range.2 op.toNat_lt)
  rw [UInt8.ofNat_toNat] at h2
  exact h2 h
def symsR : List Str := [[42], [47], [37], [43], [45], [61, 61], [33, 61], [60], [60, 61], [62], [62, 61], [97, 110, 100], [111, 114]]
theorem sym_tx {op : UInt8} (h1 : 11 ≤ op.toNat) (h2 : op.toNat ≤ 23) : (shapeOf op).tx = [32] ++ symsR.getD (op.toNat - 11) [] ++ [32] := by
  have key : ∀ i ∈ List.range 256, 11 ≤ i → i ≤ 23 → (shapeOf (UInt8.ofNat i)).tx = [32] ++ symsR.getD (i - 11) [] ++ [32] := by decide +kernel
  have h := key op.toNat (List.mem_range.2 op.toNat_lt)
  rw [UInt8.ofNat_toNat] at h
  exact h h1 h2
set_option maxRecDepth 100000 in
theorem numberN_any (H : Hp) (n : Nat) : n ≤ 9223372036854775807 → ∀ (w : World), Agr H w → Calls Tryd.prog 28 #[.int .i64 (n : Nat)] w fun r w' => r = .returned (strV (Lib.decDigits n)) ∧ Ext w w' := by
  induction n using Nat.strongRecOn with | _ n ih
  intro hn w hA
  refine Sx.enter (H := H) Tryd.func28 rfl Tryd.ntmps28 rfl hA ?_
  refine .sq <| .rg <| .a rfl rfl <| .nl <| .tN <| .sq <| .sq <| .rg <| .m rfl rfl <| .yv (.lss rfl rfl) rfl <| .nl <| .tN <| .cd rfl (fun h4 => ?_) (fun h4 => ?_)
  · try simp only [decide_eq_true_eq] at h4
    exact absurd (by omega : False) id
  · try simp only [decide_eq_false_iff_not] at h4
    refine .sk <| .tN <| .sq <| .sq <| .rg <| .m rfl rfl <| .yv (.lss rfl rfl) rfl <| .nl <| .tN <| .cd rfl (fun h10 => ?_) (fun h10 => ?_)
    · try simp only [decide_eq_true_eq] at h10
      refine .sq <| .rg <| .m rfl rfl <| .m rfl rfl <| .yv (.add rfl rfl (c := ((n + 1 : Nat) : Int)) ((w64 (by omega) (by omega)).trans (by omega))) rfl <| .yv (.cast (.midS (l := digsT) Fx.str9 rfl rfl rfl (lo := n) (hi := n + 1) rfl rfl (by omega) (by show n + 1 ≤ 10; omega)) (by rw [digs_one (by omega)])) rfl <|
        .a rfl rfl <| .nl <| .tN <| .rt <| .tR <| ?_
      refine Sx.ret1 (.inl rfl) rfl (.tmp rfl) fun W s => ⟨?_, s.ext⟩
      first
        | (rfl)
        | (rw [dec_big (n := n) (by omega)]; rfl)
        | (rw [digs_one (by omega)])
    · try simp only [decide_eq_false_iff_not] at h10
      refine .sk <| .tN <| .sq <| .rg <| .m rfl rfl <| .yv (.quo rfl rfl (by decide) (c := ((n / 10 : Nat) : Int)) (by rw [Int.tdiv_eq_ediv_of_nonneg (by omega)]; exact (w64 (by omega) (by omega)).trans (by omega))) rfl <|
        .yv (.call Fx.call28 rfl (fun W s => ih (n / 10) (by omega) (by omega) W s.agr)) rfl <| .m rfl rfl <| .yv (.rem rfl rfl (by decide) (c := ((n % 10 : Nat) : Int)) (by rw [Int.tmod_eq_emod_of_nonneg (by omega)]; omega)) rfl <|
        .yv (.call Fx.call28 rfl (fun W s => ih (n % 10) (by omega) (by omega) W s.agr)) rfl <| .yv (.app rfl rfl (by have := dec_len (n := n / 10) (by omega); have := dec_len (n := n % 10) (by omega); omega)) rfl <|
        .a rfl rfl <| .nl <| .tN <| .rt <| ?_
      refine Sx.ret1 (.inl rfl) rfl (.tmp rfl) fun W s => ⟨?_, s.ext⟩
      first
        | (rfl)
        | (rw [dec_big (n := n) (by omega)]; rfl)
        | (rw [digs_one (by omega)])
theorem _root_.Go.Sx.Yl.neg64 {P : Program} {L : Sl} {H : Hp} {w0 : World} {bs : List Res} {d : Option Tmp} {ty : TypeId} {pos : String} {aft : Array Edge} {g : Option (Nat × Bool)} {x : Operand} {T : TypeId} {i c : Int} (hx : ev L x = some (.int .i64 i)) (hc : c = -i) (h1 : -9223372036854775808 ≤ c) (h2 : c ≤ 9223372036854775807) : Yl P L H w0 bs ⟨d, .unOp .neg T x, ty, pos, aft, g⟩ (.int .i64 c) := .of_run fun a W f _ => by
  subst hc
  have hw : IntKind.i64.wrap (-i) = -i := w64 h1 h2
  unfold execOp
  simp [f x _ hx, Op.unary, Op.intArith, hw, Result.andThen]
set_option maxRecDepth 100000 in
theorem number_any (H : Hp) (n : Int) (h1 : -9223372036854775808 < n) (h2 : n ≤ 9223372036854775807) (w : World) (hA : Agr H w) : Calls Tryd.prog 28 #[.int .i64 n] w fun r w' => r = .returned (strV (Lib.itoa n)) ∧ Ext w w' := by
  by_cases h0 : 0 ≤ n
  · have h := numberN_any H n.toNat (by omega) w hA
    rw [show ((n.toNat : Nat) : Int) = n by omega] at h
    rw [Lib.itoa, if_neg (by omega)]
    exact h
  refine Sx.enter (H := H) Tryd.func28 rfl Tryd.ntmps28 rfl hA ?_
  refine .sq <| .rg <| .a rfl rfl <| .nl <| .tN <| .sq <| .sq <| .rg <| .m rfl rfl <| .yv (.lss rfl rfl) rfl <| .nl <| .tN <| .cd rfl (fun h4 => ?_) (fun h4 => ?_)
  · try simp only [decide_eq_true_eq] at h4
    refine .sq <| .rg <| .m rfl rfl <| .yv (.neg64 rfl (c := ((n.natAbs : Nat) : Int)) (by omega) (by omega) (by omega)) rfl <| .yv (.call Fx.call28 rfl (fun W s => numberN_any H n.natAbs (by omega) W s.agr)) rfl <|
      .yv (.app rfl rfl (by have := dec_len (n := n.natAbs) (by omega); simp only [List.length_cons, List.length_nil]; omega)) rfl <| .a rfl rfl <| .nl <| .tN <| .rt <|
      .tR <| ?_
    refine Sx.ret1 (.inl rfl) rfl (.tmp rfl) fun W s => ⟨?_, s.ext⟩
    first
      | (rw [Lib.itoa, if_pos (by omega)]; rfl)
  · try simp only [decide_eq_false_iff_not] at h4
    exact absurd (by omega : False) id
set_option maxRecDepth 100000 in
theorem level_any (H : Hp) (k : Nat) (w : World) (hA : Agr H w) : Calls Tryd.prog 30 #[.int .i64 (k : Nat)] w fun r w' => r = .returned (.int .i64 (lvR k : Nat)) ∧ Ext w w' := by
  refine Sx.enter (H := H) Tryd.func30 rfl Tryd.ntmps30 rfl hA ?_
  refine .sq <| .rg <| .a rfl rfl <| .nl <| .tN <| .sq <| .bk <| .sq <| .rg <| .m rfl rfl <| .yv (.eql rfl rfl) rfl <| .a rfl rfl <| .nl <| .tN <| .cd rfl (fun h3 => ?_) (fun h3 => ?_)
  · try simp only [decide_eq_true_eq] at h3
    refine .sq <| .rg <| .a rfl rfl <| .nl <| .tN <| .rt <| .bR <| .tR <| ?_
    refine Sx.ret1 (.inl rfl) rfl (.tmp rfl) fun W s => ⟨?_, s.ext⟩
    first
      | (rw [lvR]; (try simp only [decide_eq_true_eq, decide_eq_false_iff_not] at *); first | (rw [if_pos (by omega)]; rfl) | (rw [if_neg (by omega), if_pos (by omega)]; rfl) | (rw [if_neg (by omega), if_neg (by omega), if_pos (by omega)]; rfl) | (rw [if_neg (by omega), if_neg (by omega), if_neg (by omega), if_pos (by omega)]; rfl) | (rw [if_neg (by omega), if_neg (by omega), if_neg (by omega), if_neg (by omega), if_pos (by omega)]; rfl) | (rw [if_neg (by omega), if_neg (by omega), if_neg (by omega), if_neg (by omega), if_neg (by omega), if_pos (by omega)]; rfl) | (rw [if_neg (by omega), if_neg (by omega), if_neg (by omega), if_neg (by omega), if_neg (by omega), if_neg (by omega)]; rfl))
  · try simp only [decide_eq_false_iff_not] at h3
    refine .sq <| .rg <| .m rfl rfl <| .yv (.eql rfl rfl) rfl <| .a rfl rfl <| .nl <| .tN <| .cd rfl (fun h6 => ?_) (fun h6 => ?_)
    · try simp only [decide_eq_true_eq] at h6
      refine .sq <| .rg <| .a rfl rfl <| .nl <| .tN <| .rt <| .bR <| .tR <| ?_
      refine Sx.ret1 (.inl rfl) rfl (.tmp rfl) fun W s => ⟨?_, s.ext⟩
      first
        | (rw [lvR]; (try simp only [decide_eq_true_eq, decide_eq_false_iff_not] at *); first | (rw [if_pos (by omega)]; rfl) | (rw [if_neg (by omega), if_pos (by omega)]; rfl) | (rw [if_neg (by omega), if_neg (by omega), if_pos (by omega)]; rfl) | (rw [if_neg (by omega), if_neg (by omega), if_neg (by omega), if_pos (by omega)]; rfl) | (rw [if_neg (by omega), if_neg (by omega), if_neg (by omega), if_neg (by omega), if_pos (by omega)]; rfl) | (rw [if_neg (by omega), if_neg (by omega), if_neg (by omega), if_neg (by omega), if_neg (by omega), if_pos (by omega)]; rfl) | (rw [if_neg (by omega), if_neg (by omega), if_neg (by omega), if_neg (by omega), if_neg (by omega), if_neg (by omega)]; rfl))
    · try simp only [decide_eq_false_iff_not] at h6
      refine .sq <| .rg <| .m rfl rfl <| .yv (.geq rfl rfl) rfl <| .a rfl rfl <| .nl <| .tN <| .cd rfl (fun h9 => ?_) (fun h9 => ?_)
      · try simp only [decide_eq_true_eq] at h9
        refine .sq <| .rg <| .a rfl rfl <| .nl <| .tN <| .rt <| .bR <| .tR <| ?_
        refine Sx.ret1 (.inl rfl) rfl (.tmp rfl) fun W s => ⟨?_, s.ext⟩
        first
          | (rw [lvR]; (try simp only [decide_eq_true_eq, decide_eq_false_iff_not] at *); first | (rw [if_pos (by omega)]; rfl) | (rw [if_neg (by omega), if_pos (by omega)]; rfl) | (rw [if_neg (by omega), if_neg (by omega), if_pos (by omega)]; rfl) | (rw [if_neg (by omega), if_neg (by omega), if_neg (by omega), if_pos (by omega)]; rfl) | (rw [if_neg (by omega), if_neg (by omega), if_neg (by omega), if_neg (by omega), if_pos (by omega)]; rfl) | (rw [if_neg (by omega), if_neg (by omega), if_neg (by omega), if_neg (by omega), if_neg (by omega), if_pos (by omega)]; rfl) | (rw [if_neg (by omega), if_neg (by omega), if_neg (by omega), if_neg (by omega), if_neg (by omega), if_neg (by omega)]; rfl))
      · try simp only [decide_eq_false_iff_not] at h9
        refine .sq <| .rg <| .m rfl rfl <| .yv (.geq rfl rfl) rfl <| .a rfl rfl <| .nl <| .tN <| .cd rfl (fun h12 => ?_) (fun h12 => ?_)
        · try simp only [decide_eq_true_eq] at h12
          refine .sq <| .rg <| .a rfl rfl <| .nl <| .tN <| .rt <| .bR <| .tR <| ?_
          refine Sx.ret1 (.inl rfl) rfl (.tmp rfl) fun W s => ⟨?_, s.ext⟩
          first
            | (rw [lvR]; (try simp only [decide_eq_true_eq, decide_eq_false_iff_not] at *); first | (rw [if_pos (by omega)]; rfl) | (rw [if_neg (by omega), if_pos (by omega)]; rfl) | (rw [if_neg (by omega), if_neg (by omega), if_pos (by omega)]; rfl) | (rw [if_neg (by omega), if_neg (by omega), if_neg (by omega), if_pos (by omega)]; rfl) | (rw [if_neg (by omega), if_neg (by omega), if_neg (by omega), if_neg (by omega), if_pos (by omega)]; rfl) | (rw [if_neg (by omega), if_neg (by omega), if_neg (by omega), if_neg (by omega), if_neg (by omega), if_pos (by omega)]; rfl) | (rw [if_neg (by omega), if_neg (by omega), if_neg (by omega), if_neg (by omega), if_neg (by omega), if_neg (by omega)]; rfl))
        · try simp only [decide_eq_false_iff_not] at h12
          refine .sq <| .rg <| .m rfl rfl <| .yv (.geq rfl rfl) rfl <| .a rfl rfl <| .nl <| .tN <| .cd rfl (fun h15 => ?_) (fun h15 => ?_)
          · try simp only [decide_eq_true_eq] at h15
            refine .sq <| .rg <| .a rfl rfl <| .nl <| .tN <| .rt <| .bR <| .tR <| ?_
            refine Sx.ret1 (.inl rfl) rfl (.tmp rfl) fun W s => ⟨?_, s.ext⟩
            first
              | (rw [lvR]; (try simp only [decide_eq_true_eq, decide_eq_false_iff_not] at *); first | (rw [if_pos (by omega)]; rfl) | (rw [if_neg (by omega), if_pos (by omega)]; rfl) | (rw [if_neg (by omega), if_neg (by omega), if_pos (by omega)]; rfl) | (rw [if_neg (by omega), if_neg (by omega), if_neg (by omega), if_pos (by omega)]; rfl) | (rw [if_neg (by omega), if_neg (by omega), if_neg (by omega), if_neg (by omega), if_pos (by omega)]; rfl) | (rw [if_neg (by omega), if_neg (by omega), if_neg (by omega), if_neg (by omega), if_neg (by omega), if_pos (by omega)]; rfl) | (rw [if_neg (by omega), if_neg (by omega), if_neg (by omega), if_neg (by omega), if_neg (by omega), if_neg (by omega)]; rfl))
          · try simp only [decide_eq_false_iff_not] at h15
            refine .sq <| .rg <| .m rfl rfl <| .yv (.geq rfl rfl) rfl <| .a rfl rfl <| .nl <| .tN <| .cd rfl (fun h18 => ?_) (fun h18 => ?_)
            · try simp only [decide_eq_true_eq] at h18
              refine .sq <| .rg <| .a rfl rfl <| .nl <| .tN <| .rt <| .bR <| .tR <| ?_
              refine Sx.ret1 (.inl rfl) rfl (.tmp rfl) fun W s => ⟨?_, s.ext⟩
              first
                | (rw [lvR]; (try simp only [decide_eq_true_eq, decide_eq_false_iff_not] at *); first | (rw [if_pos (by omega)]; rfl) | (rw [if_neg (by omega), if_pos (by omega)]; rfl) | (rw [if_neg (by omega), if_neg (by omega), if_pos (by omega)]; rfl) | (rw [if_neg (by omega), if_neg (by omega), if_neg (by omega), if_pos (by omega)]; rfl) | (rw [if_neg (by omega), if_neg (by omega), if_neg (by omega), if_neg (by omega), if_pos (by omega)]; rfl) | (rw [if_neg (by omega), if_neg (by omega), if_neg (by omega), if_neg (by omega), if_neg (by omega), if_pos (by omega)]; rfl) | (rw [if_neg (by omega), if_neg (by omega), if_neg (by omega), if_neg (by omega), if_neg (by omega), if_neg (by omega)]; rfl))
            · try simp only [decide_eq_false_iff_not] at h18
              refine .sk <| .bN <| .tN <| .sq <| .rg <| .a rfl rfl <| .nl <| .tN <| .rt <| ?_
              refine Sx.ret1 (.inl rfl) rfl (.tmp rfl) fun W s => ⟨?_, s.ext⟩
              first
                | (rw [lvR]; (try simp only [decide_eq_true_eq, decide_eq_false_iff_not] at *); first | (rw [if_pos (by omega)]; rfl) | (rw [if_neg (by omega), if_pos (by omega)]; rfl) | (rw [if_neg (by omega), if_neg (by omega), if_pos (by omega)]; rfl) | (rw [if_neg (by omega), if_neg (by omega), if_neg (by omega), if_pos (by omega)]; rfl) | (rw [if_neg (by omega), if_neg (by omega), if_neg (by omega), if_neg (by omega), if_pos (by omega)]; rfl) | (rw [if_neg (by omega), if_neg (by omega), if_neg (by omega), if_neg (by omega), if_neg (by omega), if_pos (by omega)]; rfl) | (rw [if_neg (by omega), if_neg (by omega), if_neg (by omega), if_neg (by omega), if_neg (by omega), if_neg (by omega)]; rfl))
set_option maxRecDepth 100000 in
theorem symbol_any (H : Hp) (k : Nat) (h1 : 11 ≤ k) (h2 : k ≤ 23) (w : World) (hA : Agr H w) : Calls Tryd.prog 31 #[.int .i64 (k : Nat)] w fun r w' => r = .returned (strV (symsR.getD (k - 11) [])) ∧ Ext w w' := by
  refine Sx.enter (H := H) Tryd.func31 rfl Tryd.ntmps31 rfl hA ?_
  refine .sq <| .rg <| .a rfl rfl <| .nl <| .tN <| .sq <| .rg <| .bl rfl (Fx.bsl56_13 _ _ _ _ _ _ _ _ _ _ _ _ _) rfl fun b3 => .m rfl rfl <| .yv (.sub rfl rfl (c := ((k - 11 : Nat) : Int)) ((w64 (by omega) (by omega)).trans (by omega))) rfl <|
    .yv (.indexSl Fx.sl56 rfl rfl (i := k - 11) rfl (by omega) (q := k - 11) (by omega)) rfl <| .yv (.load (v := strV (symsR.getD (k - 11) [])) rfl Fx.agg9 (.head _) (strs_at (es := symsR) (by show k - 11 < 13; omega))) rfl <|
    .a rfl rfl <| .nl <| .tN <| .rt <| ?_
  exact Sx.ret1 (.inl rfl) rfl (.tmp rfl) fun W s => ⟨rfl, s.ext⟩
end Go.Proofs.YtmbiojpcidccjaaDoor
/- Contracts: Build. -/
namespace Go.Proofs.YtmbiojpcidccjaaDoor
open Go.RowKit Go.Par Go.Sx
theorem eqIt {P : Program} {L : Sl} {H : Hp} {w0 : World} {bs : List Res} {d : Option Tmp} {ty : TypeId} {pos : String} {aft : Array Edge} {g : Option (Nat × Bool)} {x y : Operand} {T T' : TypeId} {k : IntKind} {a : Int} (hx : ev L x = some (.int k a)) (hy : ev L y = some (.int k a)) : Yl P L H w0 bs ⟨d, .binOp .eql T x y T', ty, pos, aft, g⟩ (.bool true) :=
  (Yl.eql hx hy).cast (by rw [decide_eq_true rfl])
/-- What Build returns. -/
def BuiltC (x : List Value) (H' : Hp) : Prop := ∃ e : Ex, Rep H' (dEx .i64 e) x ∧ goodE 1 e
set_option maxRecDepth 100000 in
theorem buildR_any (H : Hp) (l : List Nd) (v : Value) (h0 : Rep H (.seq 5 (l.map dNd)) [v]) (w : World) (hA : Agr H w) :
    Calls Tryd.prog 7 #[v] w fun r w' => ∃ (x : List Value) (H' : Hp), BuiltC x H' ∧ r = .returned (.agg x.toArray) ∧ Grow H w H' w' := by
  obtain ⟨p, c, e, _⟩ := h0.sl
  simp only [List.cons.injEq, and_true, List.length_map] at e
  subst e
  have h := h0
  have hcap := h.cap
  refine Sx.enter (H := H) Tryd.func7 rfl Tryd.ntmps7 rfl hA ?_
  refine .sq <| .rg <| .al Fx.zero26 rfl fun b2 => .nl <| .tN <| .sq <| .rg <| .m rfl rfl <| .m rfl rfl <| .yv (.lenSl Fx.sl22 rfl) rfl <| .yv (.min2 rfl rfl (c := ((min l.length 60 : Nat) : Int)) (by omega)) rfl <|
    .yv (.cutHi2 Fx.sl22 rfl rfl (h := min l.length 60) rfl (by have := h.len.2.1; omega)) rfl <| .ct (X := List Value × Value) Fx.call25 rfl (fun W s => build_any 30 1 rfl H (l.take (min l.length 60)) _ W (by rw [List.map_take]; exact rep_take2 h (by omega)) s.agr) rfl fun y H1 hc u1 => ?_
  obtain ⟨x, y⟩ := y
  obtain ⟨e, rest, hx, hg, _⟩ := hc
  dsimp only at hx
  refine .m rfl rfl <| .yv (.extract rfl rfl) rfl <| .yv (.extract rfl rfl) rfl <| .al Fx.zero26 rfl fun b3 => .sV .head rfl rfl Fx.size26 (ex_len hx) hx.one rfl <|
    .a rfl rfl <| .nl <| .tN <| .sq <| .rg <| .yv (.loadW rfl Fx.agg26 (.head _) (ex_len hx)) rfl <| .sV (.tail <| .head) rfl rfl Fx.size26 (ex_len hx) hx.one rfl <|
    .nl <| .tN <| .rt <| ?_
  exact Sx.ret1 (.inl rfl) rfl (.cell rfl Fx.agg26 (.tail _ <| .head _) (ex_len hx)) fun W t => ⟨x, H1, ⟨e, hx, hg⟩, rfl, u1.grow t⟩
end Go.Proofs.YtmbiojpcidccjaaDoor
/- Facts on types and functions. -/
namespace Go.Proofs.YtmbiojpcidccjaaDoor
open Go.RowKit Go.Par Go.Sx
theorem Fx.agg22 : aggN Tryd.prog 22 = Option.some Option.none := by kernel_rfl
theorem Fx.call76 : callN Tryd.prog 76 = Bool.true := by kernel_rfl
theorem Fx.field101_0 : fieldN Tryd.prog 101 0 = Option.some 0 := by kernel_rfl
theorem Fx.field101_2 : fieldN Tryd.prog 101 2 = Option.some 2 := by kernel_rfl
theorem Fx.field101_3 : fieldN Tryd.prog 101 3 = Option.some 3 := by kernel_rfl
theorem Fx.field101_4 : fieldN Tryd.prog 101 4 = Option.some 4 := by kernel_rfl
theorem Fx.field104_0 : fieldN Tryd.prog 104 0 = Option.some 0 := by kernel_rfl
theorem Fx.field104_1 : fieldN Tryd.prog 104 1 = Option.some 1 := by kernel_rfl
theorem Fx.field104_2 : fieldN Tryd.prog 104 2 = Option.some 2 := by kernel_rfl
theorem Fx.field104_3 : fieldN Tryd.prog 104 3 = Option.some 3 := by kernel_rfl
theorem Fx.int2 : intN Tryd.prog 2 = Option.some Go.IntKind.i64 := by kernel_rfl
theorem Fx.int146 : intN Tryd.prog 146 = Option.some Go.IntKind.u64 := by kernel_rfl
theorem Fx.bsl24_0  : bslN Tryd.prog 24 0 [] = some (26, []) := by kernel_rfl
end Go.Proofs.YtmbiojpcidccjaaDoor
/- Contracts: wrap, change. -/
namespace Go.Proofs.YtmbiojpcidccjaaDoor
open Go.RowKit Go.Par Go.Sx
theorem qu8 (a : Nat) {b : Nat} (h : a < 256) (hb : 0 < b) : IntKind.u8.wrap (Int.tdiv (a : Int) (b : Int)) = ((a / b : Nat) : Int) := by
  rw [Int.tdiv_eq_ediv_of_nonneg (Int.natCast_nonneg _), show (a : Int) / (b : Int) = ((a / b : Nat) : Int) from rfl]
  have h3 : ∀ n : Nat, n < 256 → IntKind.u8.wrap (n : Int) = (n : Int) := fun n hn => by
    have key : ∀ i ∈ List.range 256, IntKind.u8.wrap (i : Int) = (i : Int) := by decide +kernel
    exact key n (List.mem_range.2 hn)
  exact h3 _ (Nat.lt_of_le_of_lt (Nat.div_le_self _ _) h)
theorem wu64 (i : Int) : ∃ m : Nat, IntKind.u64.wrap i = (m : Int) := ⟨(IntKind.u64.wrap i).toNat, by
  have : 0 ≤ IntKind.u64.wrap i := by simp only [IntKind.wrap, IntKind.signed, IntKind.bits]; simp; omega
  omega⟩
theorem ofN13 {m : Nat} (h : m < 13) : (UInt8.ofNat m).toNat = m := by rw [UInt8.toNat_ofNat']; omega
theorem sm_len {H : Hp} {k : IntKind} {s : Sm} {cs : List Value} (h : Rep H (dSm k s) cs) : cs.length = 6 := by
  obtain ⟨kd, nm, hd, ex, th, el⟩ := s
  obtain ⟨p1, c1, p2, c2, p3, c3, rfl, _⟩ := sm_open h
  rfl
set_option maxRecDepth 100000 in
theorem wrap_any (H : Hp) (s : Sm) (n : Nat) (hn : n ≤ 100) (cs : List Value) (w : World) (h : Rep H (dSm .i64 s) cs) (hA : Agr H w) : Calls Tryd.prog 76 #[.agg cs.toArray, .int .i64 (n : Nat)] w fun r w' => ∃ (v : List Value) (H' : Hp), Rep H' (dSm .i64 (wrapS n s)) v ∧ r = .returned (.agg v.toArray) ∧ Grow H w H' w' := by
  refine Sx.enter (H := H) Tryd.func76 rfl Tryd.ntmps76 rfl hA ?_
  refine .sq <| .rg <| .bx rfl rfl rfl fun b2 => .al Fx.zero104 rfl fun b4 => .nl <| .tN <| .sq <| .sq <| .rg <| .a rfl rfl <| .nl <| .tN <| .bk <| .pm [1, 0] [_, _] rfl rfl <|
    .lp (X := Nat × Hp × List Value) [(1, _), (2, _), (4, _)] ⟨rfl, rfl, rfl, trivial⟩ [_] (fun z => [(5, .int .i64 (z.1 : Nat))]) (fun z => z.2.1) (fun z => [.box b2 z.2.2 104]) (fun z => z.1 ≤ n ∧ HUp w H z.2.1 ∧ Rep z.2.1 (dSm .i64 (wrapS z.1 s)) z.2.2) (fun z => n - z.1) (0, H, _) (fun _ s => s) ⟨rfl, trivial⟩ ⟨by simp, .refl, h⟩ fun z hC => ?_
  obtain ⟨k, H1, xs⟩ := z
  dsimp only at hC ⊢
  obtain ⟨hk0, u1, hr⟩ := hC
  generalize hw : wrapS k s = s1 at hr
  obtain ⟨kd, nm, hd, ex, th, el⟩ := s1
  obtain ⟨p1, c1, p2, c2, p3, c3, rfl, hs1, hs2, hs3, hn1, hn2⟩ := sm_open hr
  refine .sq <| .sq <| .rg <| .m rfl rfl <| .m rfl rfl <| .yv (.lss rfl rfl) rfl <| .nl <| .tN <| .cd rfl (fun h8 => ?_) (fun h8 => ?_)
  · try simp only [decide_eq_true_eq] at h8
    have hk : k < n := by omega
    refine .sk <| .tN <| .sq <| .bk <| .rg <| .yv (.build rfl (Fx.bld26_0 _)) rfl <| .bl rfl (Fx.bsl24_1 _ _ _ _) rfl fun b12 => .yv (.loadW rfl Fx.agg104 (.tail _ <|
      .head _) rfl) rfl <| .bl rfl (Fx.bsl57_1 _ _ _ _ _ _) rfl fun b14 => .yv (.build rfl (Fx.bld104_0_3_4 _ _ _ _ _ _ _)) rfl <| .sW (.tail <| .tail <| .head) rfl rfl Fx.size104 (by simp [Value.oneCell', strV]) rfl <|
      ?_
    refine Sx.freezeBox fun Ha ua ma => ?_
    refine Sx.freezeBox fun Hb ub mb => ?_
    exact .nl <| .bN <| .tN <| .rg <| .m rfl rfl <| .yv (.add rfl rfl (w64 (by omega) (by omega))) rfl <| .a rfl rfl <| .nl <| .tN <| .ag (x := (k, H1, [.int .i64 kd.toNat, strV nm, strV hd, .slice p1 ex.length c1, .slice p2 th.length c2, .slice p3 el.length c3])) (k + 1, Hb, [.int .i64 4, .string ⟨#[]⟩, .string ⟨#[]⟩, .slice (some ⟨b12, 0, none⟩) 1 1, .slice (some ⟨b14, 0, none⟩) 1 1, .slice none 0 0]) ⟨rfl, trivial⟩ ⟨rfl, rfl, rfl, trivial⟩ (fun _ s => (s.pick [0, 1] _ rfl rfl)) ⟨by dsimp only; omega, u1.trans (ua.trans ub), by dsimp only; rw [wrapS, hw]; exact sm_shut (kd := 4) (nm := []) (hd := []) (ex := [.mk 2 [] 0 []]) (el := []) (by decide) (by decide) (Rep.mk (n := 1) (c := 1) mb (.single (ex_shut (op := 2) (nm := []) (n := 0) (args := []) (by decide) (Rep.empty (by decide))) rfl) rfl (Nat.le_refl _) (by decide)) (Rep.mk (n := 1) (c := 1) (ma.up ub.up) (.single (hr.up (ua.trans ub).up) rfl) rfl (Nat.le_refl _) (by decide)) (Rep.empty (by decide))⟩ (by dsimp only; omega)
  · try simp only [decide_eq_false_iff_not] at h8
    obtain rfl : k = n := by omega
    refine .ex <| .tE <| .tE <| .bE <| .tN <| .sq <| .rg <| .yv (.loadW rfl Fx.agg104 (.head _) rfl) rfl <| .sW (.tail <| .head) rfl rfl Fx.size104 (by simp [Value.oneCell', strV]) rfl <|
      .nl <| .tN <| .rt <| ?_
    exact Sx.ret1 (.inl rfl) rfl (.cell rfl Fx.agg104 (.tail _ <| .head _) rfl) fun W t => ⟨_, H1, by rw [hw]; exact hr, rfl, u1.grow t⟩
set_option maxRecDepth 100000 in
theorem change_any (H : Hp) (s : Sm) (x : Sp) (cs xs : List Value) (w : World) (h : Rep H (dSm .i64 s) cs) (hX : Rep H (dSp x) xs) (hs : s.ex.length ≤ 1000000) (hA : Agr H w) : Calls Tryd.prog 77 #[.agg cs.toArray, .agg xs.toArray] w fun r w' => ∃ (v : List Value) (H' : Hp), (∃ s', Rep H' (dSm .i64 s') v ∧ Grew s s') ∧ r = .returned (.agg v.toArray) ∧ Grow H w H' w' := by
  obtain ⟨kd, nm, hd, ex, th, el⟩ := s
  obtain ⟨p1, c1, p2, c2, p3, c3, rfl, hs1, hs2, hs3, hn1, hn2⟩ := sm_open h
  obtain ⟨pN, cN, rfl, hN⟩ := sp_open hX
  have hs : ex.length ≤ 1000000 := hs
  obtain ⟨m0, hm0⟩ := wu64 x.n.toInt
  obtain ⟨m, hmm⟩ : ∃ m, m = m0 % 13 := ⟨_, rfl⟩
  have hm13 : m < 13 := by omega
  refine Sx.enter (H := H) Tryd.func77 rfl Tryd.ntmps77 rfl hA ?_
  refine .sq <| .rg <| .bx rfl rfl rfl fun b2 => .bx rfl rfl rfl fun b3 => .al Fx.zero104 rfl fun b4 => .nl <| .tN <| .sq <| .rg <| .yv (.fieldAddr rfl Fx.field101_3) rfl <|
    .yv (.load rfl Fx.agg2 (.tail _ <| .head _) rfl) rfl <| .yv (.conv rfl Fx.int2 Fx.int146 hm0) rfl <| .yv (.rem rfl rfl (by decide) (c := ((m : Nat) : Int)) (by rw [hmm]; exact tm2 _ 13)) rfl <|
    .yv (.conv rfl Fx.int146 Fx.int3 (c := ((m : Nat) : Int)) (w64 (by omega) (by omega))) rfl <| .a rfl rfl <| .nl <| .tN <| .sq <| .sq <| .rg <| .yv (.fieldAddr rfl Fx.field101_0) rfl <|
    .yv (.load rfl Fx.agg5 (.tail _ <| .head _) rfl) rfl <| .yv (.rem rfl rfl (by decide) (c := ((x.wh.toNat % 26 : Nat) : Int)) (by rw [Int.tmod_eq_emod_of_nonneg (by omega)]; omega)) rfl <|
    .nl <| .tN <| .bk <| .sq <| .rg <| .yv (.eql rfl rfl) rfl <| .a rfl rfl <| .nl <| .tN <| .cd rfl (fun h14 => ?_) (fun h14 => ?_)
  · skip
    refine .rg <| .m rfl rfl <| .yv (.fieldAddr rfl Fx.field104_0) rfl <| .st (.tail <| .tail <| .head) rfl rfl Fx.size3 rfl (Nat.le_of_ble_eq_true rfl) rfl <| .nl <|
      .bN <| .tN <| .sq <| .rg <| .yv (.loadW rfl Fx.agg104 (.tail _ <| .tail _ <| .head _) rfl) rfl <| .sW .head rfl rfl Fx.size104 (by show ∀ u ∈ [_, _, _, _, _, _], Value.oneCell' u = true; simp [Value.oneCell', strV]) rfl <|
      .nl <| .tN <| .rt <| ?_
    exact Sx.ret1 (.inl rfl) rfl (.cell rfl Fx.agg104 (.head _) rfl) fun W t => ⟨_, H, ⟨_, by have := sm_shut (kd := UInt8.ofNat m) (nm := nm) (hd := hd) (by omega) (by omega) hs1 hs2 hs3; rw [ofN13 hm13] at this; exact this, grew_kind⟩, rfl, (.refl : HUp w H H).grow t⟩
  · skip
    refine .sq <| .rg <| .yv (.eql rfl rfl) rfl <| .a rfl rfl <| .nl <| .tN <| .cd rfl (fun h18 => ?_) (fun h18 => ?_)
    · skip
      refine .rg <| .yv (.fieldAddr rfl Fx.field101_2) rfl <| .yv (.load rfl Fx.agg5 (.tail _ <| .head _) rfl) rfl <| .yv (.call Fx.call48 rfl (fun W s => word_any H x.nm W s.agr)) rfl <|
        .yv (.fieldAddr rfl Fx.field104_1) rfl <| .st (.tail <| .tail <| .head) rfl rfl Fx.size9 rfl (Nat.le_of_ble_eq_true rfl) rfl <| .nl <| .bN <| .tN <| .sq <| .rg <|
        .yv (.loadW rfl Fx.agg104 (.tail _ <| .tail _ <| .head _) rfl) rfl <| .sW .head rfl rfl Fx.size104 (by show ∀ u ∈ [_, _, _, _, _, _], Value.oneCell' u = true; simp [Value.oneCell', strV]) rfl <|
        .nl <| .tN <| .rt <| ?_
      exact Sx.ret1 (.inl rfl) rfl (.cell rfl Fx.agg104 (.head _) rfl) fun W t => ⟨_, H, ⟨_, sm_shut (kd := kd) (nm := wordR x.nm) (hd := hd) (by exact Nat.le_trans (word_len _) (by decide)) (by omega) hs1 hs2 hs3, grew_kind⟩, rfl, (.refl : HUp w H H).grow t⟩
    · skip
      refine .sq <| .rg <| .yv (.eql rfl rfl) rfl <| .a rfl rfl <| .nl <| .tN <| .cd rfl (fun h24 => ?_) (fun h24 => ?_)
      · skip
        refine .rg <| .yv (.fieldAddr rfl Fx.field101_2) rfl <| .yv (.load rfl Fx.agg5 (.tail _ <| .head _) rfl) rfl <| .yv (.call Fx.call48 rfl (fun W s => word_any H x.nm W s.agr)) rfl <|
          .yv (.fieldAddr rfl Fx.field104_2) rfl <| .st (.tail <| .tail <| .head) rfl rfl Fx.size9 rfl (Nat.le_of_ble_eq_true rfl) rfl <| .nl <| .bN <| .tN <| .sq <| .rg <|
          .yv (.loadW rfl Fx.agg104 (.tail _ <| .tail _ <| .head _) rfl) rfl <| .sW .head rfl rfl Fx.size104 (by show ∀ u ∈ [_, _, _, _, _, _], Value.oneCell' u = true; simp [Value.oneCell', strV]) rfl <|
          .nl <| .tN <| .rt <| ?_
        exact Sx.ret1 (.inl rfl) rfl (.cell rfl Fx.agg104 (.head _) rfl) fun W t => ⟨_, H, ⟨_, sm_shut (kd := kd) (nm := nm) (hd := wordR x.nm) (by omega) (by exact Nat.le_trans (word_len _) (by decide)) hs1 hs2 hs3, grew_kind⟩, rfl, (.refl : HUp w H H).grow t⟩
      · skip
        refine .sq <| .rg <| .yv (.eql rfl rfl) rfl <| .a rfl rfl <| .nl <| .tN <| .cd rfl (fun h30 => ?_) (fun h30 => ?_)
        · skip
          refine .fl (trip := [(_, _, _), (_, _, _), (_, _, _), (_, _, _), (_, _, _), (_, _, _), (_, _, _), (_, _, _)]) 8 [(1, 0), (2, 0), (4, 0), (5, 0), (0, 1), (3, 3), (6, 1), (7, 1)] (by kernel_rfl) (by kernel_rfl) rfl <|
            .yv (.fieldAddr rfl Fx.field104_3) rfl <| .yv (.load rfl Fx.agg24 (.tail _ <| .tail _ <| .head _) rfl) rfl <| .yv (.fieldAddr rfl Fx.field101_4) rfl <| .yv (.load rfl Fx.agg22 (.tail _ <|
            .head _) rfl) rfl <| .blR rfl Fx.bsl24_0 rfl (z := 4) rfl (by decide) fun b32 => .apD Fx.row24 rfl (fun _ _ => .head) rfl hs1 (by simp [maxLen]; omega) (by omega) rfl (fun _ _ => (.yv (.load rfl Fx.agg22 (.tail _ <|
            .tail _ <| .head _) rfl) <| .yv (.fieldAddr rfl Fx.field101_4) <| .done (by kernel_rfl) <| .done (by kernel_rfl) <| .nl)) fun xs35 p35 c35 hz35 => .ct (X := List Value) Fx.call7 rfl (fun W s => buildR_any H x.nodes _ hN W s.agr) rfl fun y H1 hc u1 => ?_
          obtain ⟨e, hx, hg⟩ := hc
          obtain ⟨op, enm, en, args⟩ := e
          obtain ⟨pe, ce, rfl, hes, hen⟩ := ex_open hx
          refine .bl rfl (Fx.bsl24_1 _ _ _ _) rfl fun b39 => .fn (tl := [_, _, _]) rfl <| .ap (news := [.int .i64 op.toNat, strV enm, .int .i64 en.toInt, .slice pe args.length ce]) Fx.row24 rfl (fun _ => (.tail <|
            .head)) rfl (.box (.head _) (fun j u h => by rw [Nat.zero_add]; exact h)) rfl (by simp [Value.oneCell', strV]) (by simp [maxLen]; omega) (by omega) rfl fun r40 _ => .ra (.tail _ <|
            .head _) fun p40 c40 e40 => .yv (.fieldAddr rfl Fx.field104_3) rfl <| .st (.tail <| .tail <| .tail <| .tail <| .head) rfl rfl Fx.size24 (by rw [e40]; rfl) (Nat.le_of_ble_eq_true rfl) rfl <|
            ?_
          refine At.pm [1, 0, 2, 3, 4] [_, _, _, _, _] rfl rfl ?_
          refine Sx.freezeSeq (ds := (ex ++ [Ex.mk op enm en args]).map (dEx .i64)) (by simp) (by rw [List.map_append]; exact ((hz35.up u1.up).snoc hx rfl)) fun H3 p3 c3 u3 e3 hE => ?_
          subst e3
          have v3 := u1.trans u3
          have v2 := v3.up
          refine .nl <| .bN <| .tN <| .sq <| .rg <| .yv (.loadW rfl Fx.agg104 (.tail _ <| .tail _ <| .tail _ <| .head _) rfl) rfl <| .sW (.tail <| .head) rfl rfl Fx.size104 (by show ∀ u ∈ [_, _, _, _, _, _], Value.oneCell' u = true; simp [Value.oneCell', strV]) rfl <|
            .nl <| .tN <| .rt <| ?_
          exact Sx.ret1 (.inl rfl) rfl (.cell rfl Fx.agg104 (.tail _ <| .head _) rfl) fun W t => ⟨_, H3, ⟨_, sm_shut (kd := kd) (nm := nm) (hd := hd) (by omega) (by omega) hE (hs2.up v2) (hs3.up v2), grew_add hg⟩, rfl, (v3 : HUp w H H3).grow t⟩
        · skip
          refine .sq <| .rg <| .yv (.eql rfl rfl) rfl <| .a rfl rfl <| .nl <| .tN <| .cd rfl (fun h42 => ?_) (fun h42 => ?_)
          · skip
            refine .rg <| .yv (.fieldAddr rfl Fx.field101_4) rfl <| .yv (.load rfl Fx.agg22 (.tail _ <| .head _) rfl) rfl <| .ct (X := List Value) Fx.call7 rfl (fun W s => buildR_any H x.nodes _ hN W s.agr) rfl fun y H1 hc u1 => ?_
            obtain ⟨e, hx, hg⟩ := hc
            obtain ⟨op, enm, en, args⟩ := e
            obtain ⟨pe, ce, rfl, hes, hen⟩ := ex_open hx
            refine .bl rfl (Fx.bsl24_1 _ _ _ _) rfl fun b47 => ?_
            refine Sx.freezeBox fun H3 u3 m3 => ?_
            have v3 := u1.trans u3
            have v2 := v3.up
            have hE : Rep H3 (.seq 4 (([.mk op enm en args] : List Ex).map (dEx .i64))) [.slice (some ⟨b47, 0, none⟩) 1 1] := Rep.mk (n := 1) (c := 1) m3 (.single (hx.up u3.up) rfl) rfl (Nat.le_refl _) (by decide)
            refine .yv (.fieldAddr rfl Fx.field104_3) rfl <| .st (.tail <| .tail <| .head) rfl rfl Fx.size24 rfl (Nat.le_of_ble_eq_true rfl) rfl <| .nl <| .bN <| .tN <| .sq <|
              .rg <| .yv (.loadW rfl Fx.agg104 (.tail _ <| .tail _ <| .head _) rfl) rfl <| .sW .head rfl rfl Fx.size104 (by show ∀ u ∈ [_, _, _, _, _, _], Value.oneCell' u = true; simp [Value.oneCell', strV]) rfl <|
              .nl <| .tN <| .rt <| ?_
            exact Sx.ret1 (.inl rfl) rfl (.cell rfl Fx.agg104 (.head _) rfl) fun W t => ⟨_, H3, ⟨_, sm_shut (kd := kd) (nm := nm) (hd := hd) (by omega) (by omega) hE (hs2.up v2) (hs3.up v2), grew_one hg⟩, rfl, (v3 : HUp w H H3).grow t⟩
          · skip
            refine .sq <| .rg <| .yv (.eql rfl rfl) rfl <| .a rfl rfl <| .nl <| .tN <| .cd rfl (fun h49 => ?_) (fun h49 => ?_)
            · skip
              refine .rg <| .yv (.build rfl (Fx.bld104_0 _)) rfl <| .bl rfl (Fx.bsl57_1 _ _ _ _ _ _) rfl fun b52 => ?_
              refine Sx.freezeBox fun Ha ua ma => ?_
              have hST : Rep Ha (.seq 6 (([stopS] : List Sm).map (dSm .i64))) [.slice (some ⟨b52, 0, none⟩) 1 1] := (Rep.mk (n := 1) (c := 1) ma (.single (sm_shut (kd := 10) (nm := []) (hd := []) (ex := []) (th := []) (el := []) (by decide) (by decide) (Rep.empty (by decide)) (Rep.empty (by decide)) (Rep.empty (by decide))) rfl) rfl (Nat.le_refl _) (by decide))
              refine .yv (.fieldAddr rfl Fx.field104_4) rfl <| .st (.tail <| .tail <| .head) rfl rfl Fx.size24 rfl (Nat.le_of_ble_eq_true rfl) rfl <| .nl <| .bN <| .tN <| .sq <|
                .rg <| .yv (.loadW rfl Fx.agg104 (.tail _ <| .tail _ <| .head _) rfl) rfl <| .sW .head rfl rfl Fx.size104 (by show ∀ u ∈ [_, _, _, _, _, _], Value.oneCell' u = true; simp [Value.oneCell', strV]) rfl <|
                .nl <| .tN <| .rt <| ?_
              exact Sx.ret1 (.inl rfl) rfl (.cell rfl Fx.agg104 (.head _) rfl) fun W t => ⟨_, Ha, ⟨_, sm_shut (kd := kd) (nm := nm) (hd := hd) (by omega) (by omega) (hs1.up ua.up) hST (hs3.up ua.up), grew_then⟩, rfl, (ua : HUp w H Ha).grow t⟩
            · skip
              refine .sq <| .rg <| .yv (.eql rfl rfl) rfl <| .a rfl rfl <| .nl <| .tN <| .cd rfl (fun h54 => ?_) (fun h54 => ?_)
              · skip
                refine .rg <| .yv (.build rfl (Fx.bld104_0 _)) rfl <| .bl rfl (Fx.bsl57_1 _ _ _ _ _ _) rfl fun b57 => ?_
                refine Sx.freezeBox fun Ha ua ma => ?_
                have hST : Rep Ha (.seq 6 (([stopS] : List Sm).map (dSm .i64))) [.slice (some ⟨b57, 0, none⟩) 1 1] := (Rep.mk (n := 1) (c := 1) ma (.single (sm_shut (kd := 10) (nm := []) (hd := []) (ex := []) (th := []) (el := []) (by decide) (by decide) (Rep.empty (by decide)) (Rep.empty (by decide)) (Rep.empty (by decide))) rfl) rfl (Nat.le_refl _) (by decide))
                refine .yv (.fieldAddr rfl Fx.field104_5) rfl <| .st (.tail <| .tail <| .head) rfl rfl Fx.size24 rfl (Nat.le_of_ble_eq_true rfl) rfl <| .nl <| .bN <| .tN <| .sq <|
                  .rg <| .yv (.loadW rfl Fx.agg104 (.tail _ <| .tail _ <| .head _) rfl) rfl <| .sW .head rfl rfl Fx.size104 (by show ∀ u ∈ [_, _, _, _, _, _], Value.oneCell' u = true; simp [Value.oneCell', strV]) rfl <|
                  .nl <| .tN <| .rt <| ?_
                exact Sx.ret1 (.inl rfl) rfl (.cell rfl Fx.agg104 (.head _) rfl) fun W t => ⟨_, Ha, ⟨_, sm_shut (kd := kd) (nm := nm) (hd := hd) (by omega) (by omega) (hs1.up ua.up) (hs2.up ua.up) hST, grew_else⟩, rfl, (ua : HUp w H Ha).grow t⟩
              · skip
                refine .sq <| .rg <| .yv (.eql rfl rfl) rfl <| .a rfl rfl <| .nl <| .tN <| .cd rfl (fun h59 => ?_) (fun h59 => ?_)
                · skip
                  refine .rg <| .yv (.loadW rfl Fx.agg104 (.tail _ <| .tail _ <| .head _) rfl) rfl <| .m rfl rfl <| .ct (X := List Value) Fx.call76 rfl (fun W s => wrap_any H _ m (by omega) _ W h s.agr) rfl fun y1 H1 hwr u1 => .sV (.tail <|
                    .tail <| .head) rfl rfl Fx.size104 (sm_len hwr) hwr.one rfl <| .nl <| .bN <| .tN <| .sq <| .rg <| .yv (.loadW rfl Fx.agg104 (.tail _ <| .tail _ <| .head _) (sm_len hwr)) rfl <|
                    .sV .head rfl rfl Fx.size104 (sm_len hwr) hwr.one rfl <| .nl <| .tN <| .rt <| ?_
                  exact Sx.ret1 (.inl rfl) rfl (.cell rfl Fx.agg104 (.head _) (sm_len hwr)) fun W t => ⟨_, H1, ⟨_, hwr, grew_wrap hm13⟩, rfl, (u1 : HUp w H H1).grow t⟩
                · skip
                  refine .sk <| .bN <| .tN <| .sq <| .rg <| .yv (.loadW rfl Fx.agg104 (.tail _ <| .tail _ <| .head _) rfl) rfl <| .sW .head rfl rfl Fx.size104 (by show ∀ u ∈ [_, _, _, _, _, _], Value.oneCell' u = true; simp [Value.oneCell', strV]) rfl <|
                    .nl <| .tN <| .rt <| ?_
                  exact Sx.ret1 (.inl rfl) rfl (.cell rfl Fx.agg104 (.head _) rfl) fun W t => ⟨_, H, ⟨_, h, grew_refl _⟩, rfl, (.refl : HUp w H H).grow t⟩
end Go.Proofs.YtmbiojpcidccjaaDoor
/- Facts on types and functions. -/
namespace Go.Proofs.YtmbiojpcidccjaaDoor
open Go.RowKit Go.Par Go.Sx
theorem Fx.agg59 : aggN Tryd.prog 59 = Option.some (Option.some 3) := by kernel_rfl
theorem Fx.agg101 : aggN Tryd.prog 101 = Option.some (Option.some 5) := by kernel_rfl
theorem Fx.call77 : callN Tryd.prog 77 = Bool.true := by kernel_rfl
theorem Fx.field59_0 : fieldN Tryd.prog 59 0 = Option.some 0 := by kernel_rfl
theorem Fx.field59_1 : fieldN Tryd.prog 59 1 = Option.some 1 := by kernel_rfl
theorem Fx.field59_2 : fieldN Tryd.prog 59 2 = Option.some 2 := by kernel_rfl
theorem Fx.field101_1 : fieldN Tryd.prog 101 1 = Option.some 1 := by kernel_rfl
theorem Fx.size56 : sizeN Tryd.prog 56 = Option.some 1 := by kernel_rfl
theorem Fx.size57 : sizeN Tryd.prog 57 = Option.some 1 := by kernel_rfl
theorem Fx.size59 : sizeN Tryd.prog 59 = Option.some 3 := by kernel_rfl
theorem Fx.sl55 : slN Tryd.prog 55 = Option.some 3 := by kernel_rfl
theorem Fx.zero59 : zeroN Tryd.prog 59 = Option.some
  [Go.Value.string { data := { toList := [] } }, Go.Value.slice Option.none 0 0, Go.Value.slice Option.none 0 0] := by kernel_rfl
theorem Fx.bld59_0 (x0 : ByteArray) : buildN Tryd.prog 59 [(0, .string x0)] = some [.string x0, .slice none 0 0, .slice none 0 0] := by kernel_rfl
theorem Fx.bsl55_0  : bslN Tryd.prog 55 0 [] = some (59, []) := by kernel_rfl
theorem Fx.bsl56_0  : bslN Tryd.prog 56 0 [] = some (9, []) := by kernel_rfl
theorem Fx.bsl57_0  : bslN Tryd.prog 57 0 [] = some (104, []) := by kernel_rfl
end Go.Proofs.YtmbiojpcidccjaaDoor
