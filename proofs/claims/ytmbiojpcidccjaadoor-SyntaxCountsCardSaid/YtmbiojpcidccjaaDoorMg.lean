/- Texts of the proof, one behind the other. -/
import Derived.Test.YtmbiojpcidccjaaDoorMf
/- Contracts: handlersOf. -/
namespace Go.Proofs.YtmbiojpcidccjaaDoor
open Go.RowKit Go.Par Go.Sx
def gsP (n : Nat) : List Hd := (List.range n).map fun (j : Nat) => ⟨[103] ++ Lib.itoa (j : Nat), [], []⟩
theorem gsP_succ (n : Nat) : gsP (n + 1) = gsP n ++ [⟨[103] ++ Lib.itoa (n : Nat), [], []⟩] := by simp [gsP, List.range_succ]
theorem itoaN_len (j : Nat) (h : j < 100) : (Lib.itoa (j : Nat)).length ≤ 21 := Lib.itoa_length_le _ (by omega) (by omega)
theorem itoaN_any (j : Nat) : (Lib.itoa (j : Nat)).length ≤ j + 2 := by
  unfold Lib.itoa
  rw [if_neg (by omega), Lib.decDigits_length, Int.toNat_natCast]
  have : ∀ u, Lib.nDigits u ≤ u + 2 := fun u => by
    induction u using Nat.strongRecOn with
    | _ u ih =>
      by_cases h : u < 10
      · rw [Lib.nDigits_small h]; omega
      · rw [Lib.nDigits_big h]; have := ih (u / 10) (by omega); omega
  exact this j
theorem sl_inj {p q : Option Addr} {n m c d : Nat} (h : Value.slice p n c = .slice q m d) : p = q ∧ c = d := by injection h with a _ b; exact ⟨a, b⟩
theorem rep0 {H : Hp} {z n c : Nat} {ds : List D} {p : Option Addr} (h : Rep H (.seq z ds) [.slice p (0 + n) c]) : Rep H (.seq z ds) [.slice p (0 + n) c] := h
theorem hd_len {H : Hp} {k : IntKind} {x : Hd} {cs : List Value} (h : Rep H (dHd k x) cs) : cs.length = 3 := by
  obtain ⟨_, _, _, _, rfl, _⟩ := hd_open h; rfl
theorem stop_shut {H : Hp} : Rep H (dSm .i64 stopS) [.int .i64 10, .string ⟨#[]⟩, .string ⟨#[]⟩, .slice none 0 0, .slice none 0 0, .slice none 0 0] :=
  sm_shut (kd := 10) (nm := []) (hd := []) (ex := []) (th := []) (el := []) (by decide) (by decide) (Rep.empty (by decide)) (Rep.empty (by decide)) (Rep.empty (by decide))
theorem okL_reps : ∀ n, okL n (List.replicate n stopS)
  | 0 => .nil
  | n + 1 => by rw [List.replicate_succ']; exact (okL_reps n).app (okL_stop (Nat.le_refl 1))
theorem get_app {xs more : List Value} {i : Nat} {u : Value} (h : xs[i]? = some u) : (xs ++ more)[i]? = some u := by rw [List.getElem?_append_left (List.getElem?_eq_some_iff.1 h).1]; exact h
theorem ex_bnd {N M : Nat} {l : List Sm} (h : okL N l) {j : Nat} (hj : j < l.length) (hN : N ≤ M) : (l[j]).ex.length ≤ M := by
  have h2 := h.at hj
  generalize l[j] = s at h2
  obtain ⟨kd, nm, hd, ex, th, el⟩ := s
  have := (okL_one.1 h2).2.2.2.1
  exact Nat.le_trans this hN
theorem okV_gs {N m : Nat} {l : List Hd} (h : okV2 N l) (hm : m < 13) : okV2 (2 * N + 100) (l ++ gsP m) := by
  refine ⟨by have := h.len; simp [gsP]; omega, fun x hx => ?_⟩
  rcases List.mem_append.1 hx with hx | hx
  · exact (h.all x hx).mono (by omega)
  · obtain ⟨j, _, rfl⟩ := List.mem_map.1 hx
    exact ⟨by simp, .nil⟩
theorem okV_set {N k : Nat} {l : List Hd} {h1 : Hd} (h : okV2 N l) (k1 : okHd (2 * N + 100) h1) : okV2 (2 * N + 100) (l.set k h1) := by
  refine ⟨by have := h.len; simp; omega, fun x hx => ?_⟩
  rcases List.mem_or_eq_of_mem_set hx with hx | rfl
  · exact (h.all x hx).mono (by omega)
  · exact k1
theorem num_name {j : Nat} {c : UInt8} (h : j < 100) : ([c] ++ Lib.itoa (j : Nat)).length ≤ 1000000 := by
  have := itoaN_len j h; simp; omega
set_option maxHeartbeats 4000000 in
set_option maxRecDepth 100000 in
theorem handlersOf_any (H : Hp) (l : List Hd) (x : Sp) (v : Value) (xs : List Value) (N : Nat) (hN1 : N ≤ 100000) (w : World) (h : Rep H (.seq 3 (l.map (dHd .i64))) [v]) (hX : Rep H (dSp x) xs) (hpos : 0 < l.length) (hok : okV2 N l) (hA : Agr H w) :
    Calls Tryd.prog 58 #[v, .agg xs.toArray] w fun r w' => ∃ (v' : Value) (H' : Hp), (∃ l', Rep H' (.seq 3 (l'.map (dHd .i64))) [v'] ∧ okV2 (2 * N + 100) l') ∧ r = .returned v' ∧ Grow H w H' w' := by
  obtain ⟨pl, cl, el, _⟩ := h.sl
  simp only [List.cons.injEq, and_true, List.length_map] at el
  subst el
  have hl := h
  have hll := hok.len
  have hi256 := x.i.toNat_lt
  obtain ⟨pN, cN, rfl, hN⟩ := sp_open hX
  obtain ⟨m0, hm0⟩ := wu64 x.n.toInt
  obtain ⟨m, hmm⟩ : ∃ m, m = m0 % 13 := ⟨_, rfl⟩
  have hm13 : m < 13 := by omega
  refine Sx.enter (H := H) Tryd.func58 rfl Tryd.ntmps58 rfl hA ?_
  refine .sq <| .rg <| .bx rfl rfl rfl fun b3 => .a rfl rfl <| .nl <| .tN <| .sq <| .rg <| .yv (.fieldAddr rfl Fx.field101_3) rfl <| .yv (.load rfl Fx.agg2 (.head _) rfl) rfl <|
    .yv (.conv rfl Fx.int2 Fx.int146 hm0) rfl <| .yv (.rem rfl rfl (by decide) (c := ((m : Nat) : Int)) (by rw [hmm]; exact tm2 _ 13)) rfl <| .yv (.conv rfl Fx.int146 Fx.int3 (c := ((m : Nat) : Int)) (w64 (by omega) (by omega))) rfl <|
    .a rfl rfl <| .nl <| .tN <| .sq <| .rg <| .blR rfl Fx.bsl55_0 rfl (z := 3) rfl (by decide) fun g18 => .m rfl rfl <| .apD Fx.row55 rfl (fun _ _ => .head) rfl hl (by simp [maxLen]; omega) (by omega) rfl fun xs20 r20 hz20 => ?_
  refine At.rs (.head _) (by omega) fun g20 c20 e20 => ?_
  subst e20
  refine .a rfl rfl <| .nl <| .tN <| .sq <| .rg <| .yv (.fieldAddr rfl Fx.field101_1) rfl <| .yv (.load rfl Fx.agg5 (.tail _ <| .head _) rfl) rfl <| .yv (.quo rfl rfl (by decide) (c := ((x.i.toNat / 8 : Nat) : Int)) (qu8 _ (by have := (x.i).toNat_lt; omega) (by decide))) rfl <|
    .yv (.conv rfl Fx.int5 Fx.int3 (c := ((x.i.toNat / 8 : Nat) : Int)) (w64 (by omega) (by omega))) rfl <| .m rfl rfl <| .yv (.lenSl Fx.sl55 rfl) rfl <| .yv (.rem rfl rfl (by omega) (c := ((x.i.toNat / 8 % (0 + l.length) : Nat) : Int)) (tm2 _ _)) rfl <|
    ?_
  have hk : x.i.toNat / 8 % (0 + l.length) < l.length := by have := Nat.mod_lt (x.i.toNat / 8) (show 0 < 0 + l.length by omega); omega
  generalize x.i.toNat / 8 % (0 + l.length) = k at hk ⊢
  obtain ⟨cE, rE, lE, mE⟩ := hz20.at (i := k) (map_at (f := dHd .i64) hk)
  have ok0 := hok.all _ (List.getElem_mem hk)
  generalize hh0 : l[k] = h0 at rE ok0
  obtain ⟨nm0, ps0, bd0⟩ := h0
  obtain ⟨q1, d1, q2, d2, rfl, k0, k1, k2⟩ := hd_open rE
  dsimp only at k0 k1 k2 mE
  have hbd : bd0.length ≤ N := ok0.body.len
  have hpl : ps0.length ≤ N := ok0.ps
  refine .a rfl rfl <| .nl <| .tN <| .sq <| .rg <| .m rfl rfl <| .m rfl rfl <| .yv (.indexSl Fx.sl55 rfl rfl (i := k) rfl (by omega) (q := k * 3) (by omega)) rfl <|
    .yv (.loadR (vs := [strV nm0, .slice q1 ps0.length d1, .slice q2 bd0.length d2]) rfl Fx.agg59 (.head _) rfl mE) rfl <| .al Fx.zero59 rfl fun b8 => .sW .head rfl rfl Fx.size59 (by simp [Value.oneCell', strV]) rfl <|
    .nl <| .tN <| .sq <| .rg <| .blR rfl Fx.bsl57_0 rfl (z := 6) rfl (by decide) fun g32 => .yv (.fieldAddr rfl Fx.field59_2) rfl <| .yv (.load rfl Fx.agg57 (.tail _ <|
    .head _) rfl) rfl <| .apD Fx.row57 rfl (fun _ _ => .head) rfl k2 (by simp [maxLen]; omega) (by omega) rfl fun xs35 r35 hz35 => ?_
  refine At.ra (.head _) fun p35 c35 e35 => ?_
  subst e35
  refine .yv (.fieldAddr rfl Fx.field59_2) rfl <| .st (.tail <| .head) rfl rfl Fx.size57 rfl (Nat.le_of_ble_eq_true rfl) rfl <| .nl <| .tN <| .cu (X := Hp × Hd × List Value) [(7, _), (8, _)] ⟨rfl, rfl, trivial⟩ (fun z => [(6, .slice (some ⟨g20, 0, none⟩) (0 + l.length) c20)]) (fun z => z.1) (fun z => [.row 59 3 (.slice (some ⟨g20, 0, none⟩) (0 + l.length) c20) (0 + l.length) ([] ++ xs20), .box b8 z.2.2 59]) (fun z => HUp w H z.1 ∧ Rep z.1 (dHd .i64 z.2.1) z.2.2 ∧ okHd (2 * N + 100) z.2.1) ?_ fun z hC => ?_
  ·
    refine .sq <| .rg <| .yv (.fieldAddr rfl Fx.field101_0) rfl <| .yv (.load rfl Fx.agg5 (.tail _ <| .tail _ <| .tail _ <| .head _) rfl) rfl <| .yv (.rem rfl rfl (by decide) (c := ((x.wh.toNat % 26 : Nat) : Int)) (by rw [Int.tmod_eq_emod_of_nonneg (by omega)]; omega)) rfl <|
      .nl <| .tN <| .bk <| .sq <| .rg <| .yv (.eql rfl rfl) rfl <| .a rfl rfl <| .nl <| .tN <| .cd rfl (fun h66 => ?_) (fun h66 => ?_)
    · skip
      refine .sq <| .sq <| .rg <| .a rfl rfl <| .nl <| .tN <| .bk <| .pm [2, 0, 1, 3] [_, _, _, _] rfl rfl <| .lp (X := Nat × Value × List Value) [(5, _), (7, _), (8, _)] ⟨rfl, rfl, rfl, trivial⟩ [_, _, _] (fun z => [(6, z.2.1), (9, .int .i64 (z.1 : Nat))]) (fun z => H) (fun z => [.row 59 3 z.2.1 (0 + l.length + z.1) z.2.2]) (fun z => z.1 ≤ m ∧ RepZ H 3 ((l ++ gsP z.1).map (dHd .i64)) z.2.2) (fun z => m - z.1) (0, _, _) (fun _ s => s) ⟨rfl, rfl, trivial⟩ ⟨by simp, by rw [show gsP 0 = [] from rfl, List.append_nil]; exact hz20⟩ fun z hC => ?_
      obtain ⟨j, ro, ys⟩ := z
      dsimp only at hC ⊢
      obtain ⟨hj0, hzg⟩ := hC
      refine .sq <| .sq <| .rg <| .m rfl rfl <| .m rfl rfl <| .yv (.lss rfl rfl) rfl <| .nl <| .tN <| .cd rfl (fun h70 => ?_) (fun h70 => ?_)
      · try simp only [decide_eq_true_eq] at h70
        have hj : j < m := by omega
        exact .sk <| .tN <| .sq <| .bk <| .rg <| .m rfl rfl <| .m rfl rfl <| .yv (.call Fx.call28 rfl (fun W s => number_any H ((j : Nat) : Int) (by omega) (by omega) W s.agr)) rfl <|
          .yv (.app rfl rfl (by have := itoaN_len j (by omega); simp; omega)) rfl <| .yv (.build rfl (Fx.bld59_0 _)) rfl <| .bl rfl (Fx.bsl55_1 _ _ _) rfl fun b78 => .ap (news := [strV ([103] ++ Lib.itoa (j : Nat)), .slice none 0 0, .slice none 0 0]) Fx.row55 rfl (fun _ => (.tail <|
          .head)) rfl (.box (.head _) (fun j u h => by rw [Nat.zero_add]; exact h)) rfl (by simp [Value.oneCell', strV]) (by simp [maxLen]; omega) (by omega) rfl fun r79 _ => .a rfl rfl <|
          .nl <| .bN <| .tN <| .rg <| .m rfl rfl <| .yv (.add rfl rfl (w64 (by omega) (by omega))) rfl <| .a rfl rfl <| .nl <| .tN <| .ag (x := (j, ro, ys)) (j + 1, r79, ys ++ [strV ([103] ++ Lib.itoa (j : Nat)), .slice none 0 0, .slice none 0 0]) ⟨rfl, rfl, trivial⟩ ⟨rfl, rfl, rfl, trivial⟩ (fun _ s => (s.pick [1, 2, 3, 4] _ rfl rfl)) ⟨by dsimp only; omega, by dsimp only; rw [gsP_succ, ← List.append_assoc, List.map_append]; exact hzg.snoc (hd_shut (x := ⟨[103] ++ Lib.itoa (j : Nat), [], []⟩) (num_name (by omega)) (Rep.empty (by decide)) (Rep.empty (by decide))) rfl⟩ (by dsimp only; omega)
      · try simp only [decide_eq_false_iff_not] at h70
        obtain rfl : m = j := by omega
        refine .ex <| .tE <| .tE <| .bE <| .tN <| .sq <| .rg <| .m rfl rfl <| .a rfl rfl <| .nl <| .tN <| .rt <| .bR <| .tR <| ?_
        refine Sx.freezeSeq (ds := (l ++ gsP m).map (dHd .i64)) (by simp [gsP]) hzg fun HB pB cB uB eB hB => ?_
        exact Sx.ret1 (.inl rfl) rfl (.tmp rfl) fun W t => ⟨ro, HB, ⟨l ++ gsP m, hB, okV_gs hok (by omega)⟩, rfl, uB.grow t⟩
    · skip
      refine .sq <| .rg <| .yv (.eql rfl rfl) rfl <| .a rfl rfl <| .nl <| .tN <| .cd rfl (fun h81 => ?_) (fun h81 => ?_)
      · skip
        refine .rg <| .yv (.fieldAddr rfl Fx.field101_2) rfl <| .yv (.load rfl Fx.agg5 (.tail _ <| .tail _ <| .tail _ <| .head _) rfl) rfl <| .yv (.call Fx.call48 rfl (fun W s => word_any H x.nm W s.agr)) rfl <|
          .yv (.fieldAddr rfl Fx.field59_0) rfl <| .st (.tail <| .head) rfl rfl Fx.size9 rfl (Nat.le_of_ble_eq_true rfl) rfl <| ?_
        refine Sx.freezeSeq (ds := bd0.map (dSm .i64)) (by simp) hz35 fun HB pB cB uB eB hB => ?_
        obtain ⟨rfl, rfl⟩ := sl_inj eB
        exact .nl <| .bN <| .tN <| .me (HB, ⟨wordR x.nm, ps0, bd0⟩, _) ⟨rfl, trivial⟩ ⟨rfl, rfl, trivial⟩ (fun _ s => s.pick [1, 0] [_, _] rfl rfl) ⟨uB, hd_shut (x := ⟨wordR x.nm, ps0, bd0⟩) (Nat.le_trans (word_len _) (by decide)) (k1.up uB.up) (rep0 hB), ⟨by have := ok0.ps; show ps0.length ≤ _; have h : ps0.length ≤ N := this; omega, ok0.body.mono (by omega)⟩⟩
      · skip
        refine .sq <| .rg <| .yv (.eql rfl rfl) rfl <| .a rfl rfl <| .nl <| .tN <| .cd rfl (fun h87 => ?_) (fun h87 => ?_)
        · skip
          refine .sq <| .rg <| .a rfl rfl <| .nl <| .tN <| .bk <| .pm [1, 0, 2, 3] [_, _, _, _] rfl rfl <| .lp (X := Nat × Hp × Option Addr × Nat × Nat) [(5, _), (6, _), (7, _), (8, _)] ⟨rfl, rfl, rfl, rfl, trivial⟩ [_, _, _] (fun z => [(10, .int .i64 (z.1 : Nat))]) (fun z => z.2.1) (fun z => [.box b8 [strV nm0, .slice z.2.2.1 z.2.2.2.1 z.2.2.2.2, .slice p35 (0 + bd0.length) c35] 59]) (fun z => z.1 ≤ m ∧ HUp w H z.2.1 ∧ ∃ ps : List Str, ps.length = ps0.length + z.1 ∧ Rep z.2.1 (.seq 1 (ps.map dStr)) [.slice z.2.2.1 z.2.2.2.1 z.2.2.2.2]) (fun z => m - z.1) (0, H, _, _, _) (fun _ s => s) ⟨rfl, trivial⟩ ⟨by simp, .refl, ps0, by simp, k1⟩ fun z hC => ?_
          obtain ⟨j, H1, pp, pn, pc⟩ := z
          dsimp only at hC ⊢
          obtain ⟨hj0, uP, ps, hpsl, hps⟩ := hC
          have hpn := hps.len.1
          rw [List.length_map] at hpn
          refine .sq <| .sq <| .rg <| .m rfl rfl <| .m rfl rfl <| .yv (.lss rfl rfl) rfl <| .nl <| .tN <| .cd rfl (fun h91 => ?_) (fun h91 => ?_)
          · try simp only [decide_eq_true_eq] at h91
            have hj : j < m := by omega
            refine .sk <| .tN <| .sq <| .bk <| .rg <| .blR rfl Fx.bsl56_0 rfl (z := 1) rfl (by decide) fun g94 => .yv (.fieldAddr rfl Fx.field59_1) rfl <| .yv (.load rfl Fx.agg56 (.tail _ <|
              .head _) rfl) rfl <| .apD Fx.row56 rfl (fun _ _ => .head) rfl hps (by simp [maxLen]; omega) (by omega) rfl fun xs97 r97 hz97 => .m rfl rfl <| .yv (.call Fx.call28 rfl (fun W s => number_any H1 ((j : Nat) : Int) (by omega) (by omega) W s.agr)) rfl <|
              .yv (.app rfl rfl (by have := itoaN_len j (by omega); simp; omega)) rfl <| .bl rfl (Fx.bsl56_1 _) rfl fun b101 => .ap (news := [strV ([113] ++ Lib.itoa (j : Nat))]) Fx.row56 rfl (fun _ => (.tail <|
              .head)) rfl (.box (.head _) (fun j u h => by rw [Nat.zero_add]; exact h)) rfl (by simp [Value.oneCell', strV]) (by simp [maxLen]; omega) (by omega) rfl fun r102 _ => ?_
            refine At.ra (.tail _ <| .head _) fun p102 c102 e102 => ?_
            subst e102
            refine .yv (.fieldAddr rfl Fx.field59_1) rfl <| .st (.tail <| .tail <| .head) rfl rfl Fx.size56 rfl (Nat.le_of_ble_eq_true rfl) rfl <| ?_
            refine At.pm [1, 0, 2, 3, 4, 5] [_, _, _, _, _, _] rfl rfl ?_
            refine Sx.freezeSeq (ds := (ps ++ [[113] ++ Lib.itoa (j : Nat)]).map dStr) (by simp; omega) (by rw [List.map_append]; exact hz97.snoc (str_shut (num_name (by omega))) rfl) fun H2 p2 c2 u2 e2 h2 => ?_
            obtain ⟨rfl, rfl⟩ := sl_inj e2
            exact .nl <| .bN <| .tN <| .rg <| .m rfl rfl <| .yv (.add rfl rfl (w64 (by omega) (by omega))) rfl <| .a rfl rfl <| .nl <| .tN <| .ag (x := (j, H1, pp, pn, pc)) (j + 1, H2, p102, 0 + pn + 1, c102) ⟨rfl, trivial⟩ ⟨rfl, rfl, rfl, rfl, trivial⟩ (fun _ s => (s.pick [1, 2, 3, 4] _ rfl rfl)) ⟨by dsimp only; omega, uP.trans u2, ps ++ [[113] ++ Lib.itoa (j : Nat)], by simp; omega, h2⟩ (by dsimp only; omega)
          · try simp only [decide_eq_false_iff_not] at h91
            obtain rfl : m = j := by omega
            refine At.pm [1, 0, 2, 3] [_, _, _, _] rfl rfl ?_
            refine Sx.freezeSeq (ds := bd0.map (dSm .i64)) (by simp) (RepZ.up uP.up hz35) fun HB pB cB uB eB hB => ?_
            obtain ⟨rfl, rfl⟩ := sl_inj eB
            exact .ex <| .tE <| .tE <| .bE <| .bN <| .tN <| .me (HB, ⟨nm0, ps, bd0⟩, _) ⟨rfl, trivial⟩ ⟨rfl, rfl, trivial⟩ (fun _ s => s.pick [1, 0] [_, _] rfl rfl) ⟨uP.trans uB, hd_shut (x := ⟨nm0, ps, bd0⟩) k0 (hps.up uB.up) (rep0 hB), ⟨by show ps.length ≤ _; have h : ps0.length ≤ N := ok0.ps; omega, ok0.body.mono (by omega)⟩⟩
        · skip
          refine .sq <| .rg <| .yv (.eql rfl rfl) rfl <| .a rfl rfl <| .nl <| .tN <| .cd rfl (fun h104 => ?_) (fun h104 => ?_)
          · skip
            refine .fl (trip := [(_, _, _), (_, _, _), (_, _, _), (_, _, _), (_, _, _), (_, _, _), (_, _, _), (_, _, _)]) 8 [(1, 0), (2, 0), (4, 0), (5, 0), (0, 1), (3, 3), (6, 0), (7, 1)] (by kernel_rfl) (by kernel_rfl) rfl <|
              .yv (.fieldAddr rfl Fx.field59_1) rfl <| .yv (.load rfl Fx.agg56 (.tail _ <| .head _) rfl) rfl <| .yv (.fieldAddr rfl Fx.field101_2) rfl <| .yv (.load rfl Fx.agg5 (.tail _ <|
              .tail _ <| .tail _ <| .head _) rfl) rfl <| .blR rfl Fx.bsl56_0 rfl (z := 1) rfl (by decide) fun g106 => .apD Fx.row56 rfl (fun _ _ => .head) rfl k1 (by simp [maxLen]; omega) (by omega) rfl (fun _ _ => (.yv (.load rfl Fx.agg5 (.tail _ <|
              .tail _ <| .tail _ <| .tail _ <| .head _) rfl) <| .yv (.fieldAddr rfl Fx.field101_2) <| .done (by kernel_rfl) <| .done (by kernel_rfl) <| .nl)) fun xs109 p109 c109 hz109 => .yv (.call Fx.call48 rfl (fun W s => word_any H x.nm W s.agr)) rfl <|
              .bl rfl (Fx.bsl56_1 _) rfl fun b113 => .fn (tl := [_, _, _]) rfl <| .ap (news := [strV (wordR x.nm)]) Fx.row56 rfl (fun _ => (.tail <| .head)) rfl (.box (.head _) (fun j u h => by rw [Nat.zero_add]; exact h)) rfl (by simp [Value.oneCell', strV]) (by simp [maxLen]; omega) (by omega) rfl fun r114 _ => ?_
            refine At.ra (.tail _ <| .head _) fun p114 c114 e114 => ?_
            subst e114
            refine .yv (.fieldAddr rfl Fx.field59_1) rfl <| .st (.tail <| .tail <| .tail <| .head) rfl rfl Fx.size56 rfl (Nat.le_of_ble_eq_true rfl) rfl <| ?_
            refine At.pm [1, 0, 2, 3, 4, 5] [_, _, _, _, _, _] rfl rfl ?_
            refine Sx.freezeSeq (ds := (ps0 ++ [wordR x.nm]).map dStr) (by simp) (by rw [List.map_append]; exact hz109.snoc (str_shut (Nat.le_trans (word_len _) (by decide))) rfl) fun H2 p2 c2 uP e2 hps => ?_
            obtain ⟨rfl, rfl⟩ := sl_inj e2
            refine At.pm [1, 0, 2, 3, 4] [_, _, _, _, _] rfl rfl ?_
            refine Sx.freezeSeq (ds := bd0.map (dSm .i64)) (by simp) (RepZ.up uP.up hz35) fun HB pB cB uB eB hB => ?_
            obtain ⟨rfl, rfl⟩ := sl_inj eB
            exact .nl <| .bN <| .tN <| .me (HB, ⟨nm0, ps0 ++ [wordR x.nm], bd0⟩, _) ⟨rfl, trivial⟩ ⟨rfl, rfl, trivial⟩ (fun _ s => s.pick [2, 1] [_, _] rfl rfl) ⟨uP.trans uB, hd_shut (x := ⟨nm0, ps0 ++ [wordR x.nm], bd0⟩) k0 (hps.up uB.up) (rep0 hB), ⟨by show (ps0 ++ [wordR x.nm]).length ≤ _; have h : ps0.length ≤ N := ok0.ps; rw [List.length_append, List.length_singleton]; omega, ok0.body.mono (by omega)⟩⟩
          · skip
            refine .sq <| .rg <| .yv (.eql rfl rfl) rfl <| .a rfl rfl <| .nl <| .tN <| .cd rfl (fun h116 => ?_) (fun h116 => ?_)
            · skip
              refine .sq <| .rg <| .a rfl rfl <| .nl <| .tN <| .bk <| .lp (X := Nat × Value × List Value) [(5, _), (6, _), (7, _), (8, _)] ⟨rfl, rfl, rfl, rfl, trivial⟩ [_, _] (fun z => [(11, .int .i64 (z.1 : Nat))]) (fun z => H) (fun z => [.row 104 6 z.2.1 (0 + bd0.length + z.1) z.2.2, .box b8 [strV nm0, .slice q1 ps0.length d1, z.2.1] 59]) (fun z => z.1 ≤ 4 * m ∧ RepZ H 6 ((bd0 ++ List.replicate z.1 stopS).map (dSm .i64)) z.2.2) (fun z => 4 * m - z.1) (0, _, _) (fun _ s => s) ⟨rfl, trivial⟩ ⟨by simp, by simpa using hz35⟩ fun z hC => ?_
              obtain ⟨j, rb, ys⟩ := z
              dsimp only at hC ⊢
              obtain ⟨hj0, hzb⟩ := hC
              refine .sq <| .sq <| .rg <| .m rfl rfl <| .m rfl rfl <| .yv (.mul rfl rfl (c := ((4 * m : Nat) : Int)) ((w64 (by omega) (by omega)).trans (by omega))) rfl <| .yv (.lss rfl rfl) rfl <|
                .nl <| .tN <| .cd rfl (fun h121 => ?_) (fun h121 => ?_)
              · try simp only [decide_eq_true_eq] at h121
                have hj : j < 4 * m := by omega
                refine .sk <| .tN <| .sq <| .bk <| .rg <| .yv (.fieldAddr rfl Fx.field59_2) rfl <| .yv (.load rfl Fx.agg57 (.tail _ <| .head _) rfl) rfl <| .yv (.build rfl (Fx.bld104_0 _)) rfl <|
                  .bl rfl (Fx.bsl57_1 _ _ _ _ _ _) rfl fun b127 => .ap (news := [.int .i64 10, .string ⟨#[]⟩, .string ⟨#[]⟩, .slice none 0 0, .slice none 0 0, .slice none 0 0]) Fx.row57 rfl (fun _ => (.tail <|
                  .head)) rfl (.box (.head _) (fun j u h => by rw [Nat.zero_add]; exact h)) rfl (by simp [Value.oneCell', strV]) (by simp [maxLen]; omega) (by omega) rfl fun r128 _ => ?_
                refine At.ra (.tail _ <| .head _) fun p128 c128 e128 => ?_
                exact .yv (.fieldAddr rfl Fx.field59_2) rfl <| .st (.tail <| .tail <| .head) rfl rfl Fx.size57 (by rw [e128]; rfl) (Nat.le_of_ble_eq_true rfl) rfl <| .nl <| .bN <|
                  .tN <| .rg <| .m rfl rfl <| .yv (.add rfl rfl (w64 (by omega) (by omega))) rfl <| .a rfl rfl <| .nl <| .tN <| .ag (x := (j, rb, ys)) (j + 1, r128, ys ++ [.int .i64 10, .string ⟨#[]⟩, .string ⟨#[]⟩, .slice none 0 0, .slice none 0 0, .slice none 0 0]) ⟨rfl, trivial⟩ ⟨rfl, rfl, rfl, rfl, trivial⟩ (fun _ s => (s.pick [1, 2, 3, 4] _ rfl rfl)) ⟨by dsimp only; omega, by dsimp only; rw [List.replicate_succ', ← List.append_assoc, List.map_append]; exact hzb.snoc stop_shut rfl⟩ (by dsimp only; omega)
              · try simp only [decide_eq_false_iff_not] at h121
                obtain rfl : j = 4 * m := by omega
                refine Sx.freezeSeq (ds := (bd0 ++ List.replicate (4 * m) stopS).map (dSm .i64)) (by simp) hzb fun HB pB cB uB eB hB => ?_
                subst eB
                exact .ex <| .tE <| .tE <| .bE <| .bN <| .tN <| .me (HB, ⟨nm0, ps0, bd0 ++ List.replicate (4 * m) stopS⟩, _) ⟨rfl, trivial⟩ ⟨rfl, rfl, trivial⟩ (fun _ s => s.pick [1, 0] [_, _] rfl rfl) ⟨uB, hd_shut (x := ⟨nm0, ps0, bd0 ++ List.replicate (4 * m) stopS⟩) k0 (k1.up uB.up) hB, ⟨by show ps0.length ≤ _; have h : ps0.length ≤ N := ok0.ps; omega, (ok0.body.app (okL_reps (4 * m))).mono (by omega)⟩⟩
            · skip
              refine .sq <| .rg <| .yv (.eql rfl rfl) rfl <| .a rfl rfl <| .nl <| .tN <| .cd rfl (fun h130 => ?_) (fun h130 => ?_)
              · skip
                refine .fl (trip := [(_, _, _), (_, _, _), (_, _, _), (_, _, _), (_, _, _), (_, _, _)]) 6 [(0, 0), (1, 0), (2, 0), (3, 0), (4, 1), (5, 1)] (by kernel_rfl) (by kernel_rfl) rfl <|
                  .yv (.fieldAddr rfl Fx.field59_2) rfl <| .yv (.load rfl Fx.agg57 (.tail _ <| .head _) rfl) rfl <| .yv (.build rfl (Fx.bld104_0 _)) rfl <| .m rfl rfl <| .ct (X := List Value) Fx.call76 rfl (fun W s => wrap_any H stopS m (by omega) _ W stop_shut s.agr) rfl fun y136 H136 hw136 u136 => ?_
                generalize hws : wrapS m stopS = sw at hw136
                obtain ⟨kd, snm, shd, ex, th, el⟩ := sw
                obtain ⟨p1, c1, p2, c2, p3, c3, rfl, hs1, hs2, hs3, hn1, hn2⟩ := sm_open hw136
                refine .bl rfl (Fx.bsl57_1 _ _ _ _ _ _) rfl fun b137 => .fn (tl := [_, _, _]) rfl <| .ap (news := [.int .i64 kd.toNat, strV snm, strV shd, .slice p1 ex.length c1, .slice p2 th.length c2, .slice p3 el.length c3]) Fx.row57 rfl (fun _ => (.tail <|
                  .head)) rfl (.box (.head _) (fun j u h => by rw [Nat.zero_add]; exact h)) rfl (by simp [Value.oneCell', strV]) (by simp [maxLen]; omega) (by omega) rfl fun r138 _ => ?_
                refine At.ra (.tail _ <| .head _) fun p138 c138 e138 => ?_
                subst e138
                refine .yv (.fieldAddr rfl Fx.field59_2) rfl <| .st (.tail <| .tail <| .head) rfl rfl Fx.size57 rfl (Nat.le_of_ble_eq_true rfl) rfl <| ?_
                refine At.pm [1, 0, 2, 3, 4] [_, _, _, _, _] rfl rfl ?_
                refine Sx.freezeSeq (ds := (bd0 ++ [wrapS m stopS]).map (dSm .i64)) (by simp) (by rw [List.map_append, hws]; exact (RepZ.up u136.up hz35).snoc hw136 rfl) fun HB pB cB uB eB hB => ?_
                obtain ⟨rfl, rfl⟩ := sl_inj eB
                exact .nl <| .bN <| .tN <| .me (HB, ⟨nm0, ps0, bd0 ++ [wrapS m stopS]⟩, _) ⟨rfl, trivial⟩ ⟨rfl, rfl, trivial⟩ (fun _ s => s.pick [2, 1] [_, _] rfl rfl) ⟨u136.trans uB, hd_shut (x := ⟨nm0, ps0, bd0 ++ [wrapS m stopS]⟩) k0 (k1.up (u136.trans uB).up) hB, ⟨by show ps0.length ≤ _; have h : ps0.length ≤ N := ok0.ps; omega, (ok0.body.app (okL_wrap (okL_stop (Nat.le_refl 1)) m)).mono (by omega)⟩⟩
              · skip
                refine .cu (X := List Sm × Value × List Value) [(3, _), (6, _), (7, _), (8, _)] ⟨rfl, rfl, rfl, rfl, trivial⟩ (fun z => []) (fun z => H) (fun z => [.row 104 6 z.2.1 z.1.length z.2.2, .box b8 [strV nm0, .slice q1 ps0.length d1, z.2.1] 59, .row 59 3 (.slice (some ⟨g20, 0, none⟩) (0 + l.length) c20) (0 + l.length) ([] ++ xs20), .box b3 [.int .u8 x.wh.toNat, .int .u8 x.i.toNat, .int .u8 x.nm.toNat, .int .i64 x.n.toInt, .slice pN x.nodes.length cN] 101]) (fun z => 0 < z.1.length ∧ RepZ H 6 (z.1.map (dSm .i64)) z.2.2 ∧ okL (N + 1) z.1) ?_ fun z hC => ?_
                ·
                  refine .sq <| .rg <| .yv (.fieldAddr rfl Fx.field59_2) rfl <| .yv (.load rfl Fx.agg57 (.tail _ <| .head _) rfl) rfl <| .yv (.lenSl Fx.sl57 rfl) rfl <| .yv (.eql rfl rfl) rfl <|
                    .nl <| .tN <| .cd rfl (fun h43 => ?_) (fun h43 => ?_)
                  · try simp only [decide_eq_true_eq] at h43
                    have hb0 : bd0.length = 0 := by omega
                    exact .rg <| .yv (.build rfl (Fx.bld104_0 _)) rfl <| .blR rfl (Fx.bsl57_1 _ _ _ _ _ _) rfl (z := 6) rfl (by decide) fun g45 => .yv (.fieldAddr rfl Fx.field59_2) rfl <|
                      .st (.tail <| .tail <| .head) rfl rfl Fx.size57 rfl (Nat.le_of_ble_eq_true rfl) rfl <| .nl <| .tN <| .me ([stopS], _, _) trivial ⟨rfl, rfl, rfl, rfl, trivial⟩ (fun _ s => s.pick [0, 2, 3, 4] [_, _, _, _] rfl rfl) ⟨by simp, .single stop_shut rfl, okL_stop (by omega)⟩
                  · try simp only [decide_eq_false_iff_not] at h43
                    have hb0 : 0 < bd0.length := by omega
                    exact .sk <| .tN <| .me (bd0, _, _) trivial ⟨rfl, rfl, rfl, rfl, trivial⟩ (fun _ s => by rw [Nat.zero_add] at s; exact (s.pick [0, 1, 2, 3] _ rfl rfl)) ⟨hb0, hz35, ok0.body.mono (by omega)⟩
                ·
                  obtain ⟨bs, rb, ys⟩ := z
                  dsimp only at hC ⊢
                  obtain ⟨hb0, hzb, okb⟩ := hC
                  have hbl : bs.length ≤ N + 1 := okb.len
                  refine At.rb hb0 fun gB capB moreB eB hcB1 hcB2 => ?_
                  subst eB
                  refine .sq <| .rg <| .yv (.fieldAddr rfl Fx.field101_1) rfl <| .yv (.load rfl Fx.agg5 (.tail _ <| .tail _ <| .tail _ <| .head _) rfl) rfl <| .yv (.quo rfl rfl (by decide) (c := ((x.i.toNat / 4 : Nat) : Int)) (qu8 _ (by have := (x.i).toNat_lt; omega) (by decide))) rfl <|
                    .yv (.conv rfl Fx.int5 Fx.int3 (c := ((x.i.toNat / 4 : Nat) : Int)) (w64 (by omega) (by omega))) rfl <| .yv (.fieldAddr rfl Fx.field59_2) rfl <| .yv (.load rfl Fx.agg57 (.tail _ <|
                    .head _) rfl) rfl <| .yv (.lenSl Fx.sl57 rfl) rfl <| .yv (.rem rfl rfl (by omega) (c := ((x.i.toNat / 4 % bs.length : Nat) : Int)) (tm2 _ _)) rfl <| ?_
                  have hj : x.i.toNat / 4 % bs.length < bs.length := Nat.mod_lt _ hb0
                  generalize x.i.toNat / 4 % bs.length = j at hj ⊢
                  obtain ⟨cS, rS, lS, mS⟩ := hzb.at (i := j) (map_at (f := dSm .i64) hj)
                  refine .a rfl rfl <| .nl <| .tN <| .fl (trip := [(_, _, _), (_, _, _), (_, _, _), (_, _, _), (_, _, _), (_, _, _), (_, _, _), (_, _, _), (_, _, _), (_, _, _)]) 10 [(0, 0), (1, 0), (2, 0), (3, 0), (4, 0), (5, 0), (6, 0), (7, 0), (8, 0), (9, 1)] (by kernel_rfl) (by kernel_rfl) rfl <|
                    .yv (.fieldAddr rfl Fx.field59_2) rfl <| .yv (.load rfl Fx.agg57 (.tail _ <| .head _) rfl) rfl <| .m rfl rfl <| .yv (.fieldAddr rfl Fx.field59_2) rfl <| .yv (.load rfl Fx.agg57 (.tail _ <|
                    .head _) rfl) rfl <| .m rfl rfl <| .yv (.indexSl Fx.sl57 rfl rfl (i := j) rfl (by omega) (q := j * 6) (by omega)) rfl <| .yv (.loadS (vs := cS) rfl Fx.agg104 (.head _) lS (fun j u e => get_app (mS j u e))) rfl <|
                    .yv (.loadW rfl Fx.agg101 (.tail _ <| .tail _ <| .tail _ <| .head _) rfl) rfl <| .ct (X := List Value) Fx.call77 rfl (fun W s => change_any H _ x cS _ W rS hX (ex_bnd okb hj (by omega)) s.agr) rfl fun y64 H64 hc64 u64 => ?_
                  obtain ⟨s2, hs2, gs⟩ := hc64
                  refine .fn (tl := [_, _]) rfl <| .yv (.indexSl Fx.sl57 rfl rfl (i := j) rfl (by omega) (q := j * 6) (by omega)) rfl <| .sE (vs := y64) .head rfl rfl (by rw [sm_len hs2]; exact Fx.size104) hs2.one (by rw [sm_len hs2, List.length_append, hzb.len, List.length_map]; omega) <|
                    ?_
                  refine Sx.freezeBox fun HB uB mB => ?_
                  rw [setsL_app _ _ _ _ (by rw [sm_len hs2, hzb.len, List.length_map]; omega)] at mB
                  have hB : Rep HB (.seq 6 ((bs.set j s2).map (dSm .i64))) [.slice (some ⟨gB, 0, none⟩) bs.length capB] := Rep.mk mB.pre (by rw [List.map_set]; exact RepZ.put (hs2.up uB.up) (sm_len hs2) (hzb.up (u64.trans uB).up) (by simpa using hj)) (by simp) hcB1 hcB2
                  exact .nl <| .bN <| .tN <| .me (HB, ⟨nm0, ps0, bs.set j s2⟩, _) ⟨rfl, trivial⟩ ⟨rfl, rfl, trivial⟩ (fun _ s => s.pick [1, 0] [_, _] rfl rfl) ⟨u64.trans uB, hd_shut (x := ⟨nm0, ps0, bs.set j s2⟩) k0 (k1.up (u64.trans uB).up) hB, ⟨by show ps0.length ≤ _; have h : ps0.length ≤ N := ok0.ps; omega, (okb.put hj (gs _ (okb.at hj))).mono (by omega)⟩⟩
  ·
    obtain ⟨H1, h1, ch⟩ := z
    dsimp only at hC ⊢
    obtain ⟨u1, hch, ok1⟩ := hC
    refine At.rc (by omega) fun more hc1 hc2 => ?_
    refine .sq <| .rg <| .m rfl rfl <| .m rfl rfl <| .yv (.loadW rfl Fx.agg59 (.tail _ <| .head _) (hd_len hch)) rfl <| .yv (.indexSl Fx.sl55 rfl rfl (i := k) rfl (by omega) (q := k * 3) (by omega)) rfl <|
      .sE (vs := ch) .head rfl rfl (by rw [hd_len hch]; exact Fx.size59) hch.one (by rw [hd_len hch, List.length_append, List.length_append, hz20.len, List.length_map]; simp; omega) <|
      .nl <| .tN <| .sq <| .rg <| .m rfl rfl <| .a rfl rfl <| .nl <| .tN <| .rt <| ?_
    refine Sx.freezeBox fun HB uB mB => ?_
    rw [setsL_app _ _ _ _ (by rw [hd_len hch, List.length_append, hz20.len, List.length_map]; simp; omega)] at mB
    exact Sx.ret1 (.inl rfl) rfl (.tmp rfl) fun W t => ⟨_, HB, ⟨l.set k h1, Rep.mk mB.pre (by rw [List.map_set]; exact RepZ.put (hch.up uB.up) (hd_len hch) (hz20.up (u1.trans uB).up) (by simpa using hk)) (by simp) hc1 hc2, okV_set hok ok1⟩, rfl, (u1.trans uB).grow t⟩
end Go.Proofs.YtmbiojpcidccjaaDoor
/- Facts on types and functions. -/
namespace Go.Proofs.YtmbiojpcidccjaaDoor
open Go.RowKit Go.Par Go.Sx
theorem Fx.agg55 : aggN Tryd.prog 55 = Option.some Option.none := by kernel_rfl
theorem Fx.call58 : callN Tryd.prog 58 = Bool.true := by kernel_rfl
theorem Fx.field49_0 : fieldN Tryd.prog 49 0 = Option.some 0 := by kernel_rfl
theorem Fx.field54_0 : fieldN Tryd.prog 54 0 = Option.some 0 := by kernel_rfl
theorem Fx.size55 : sizeN Tryd.prog 55 = Option.some 1 := by kernel_rfl
theorem Fx.sl47 : slN Tryd.prog 47 = Option.some 3 := by kernel_rfl
theorem Fx.sl52 : slN Tryd.prog 52 = Option.some 1 := by kernel_rfl
theorem Fx.bld134_0 (x0 : ByteArray) : buildN Tryd.prog 134 [(0, .string x0)] = some [.string x0, .bool false] := by kernel_rfl
theorem Fx.bld140_0_1 (x0 : ByteArray) (x1 : Int) : buildN Tryd.prog 140 [(0, .string x0), (1, .int .i64 x1)] = some [.string x0, .int .i64 x1, .int .i64 0] := by kernel_rfl
theorem Fx.bsl45_0  : bslN Tryd.prog 45 0 [] = some (134, []) := by kernel_rfl
theorem Fx.bsl46_0  : bslN Tryd.prog 46 0 [] = some (135, []) := by kernel_rfl
theorem Fx.bsl47_0  : bslN Tryd.prog 47 0 [] = some (54, []) := by kernel_rfl
theorem Fx.bsl51_0  : bslN Tryd.prog 51 0 [] = some (140, []) := by kernel_rfl
theorem Fx.bsl52_0  : bslN Tryd.prog 52 0 [] = some (55, []) := by kernel_rfl
end Go.Proofs.YtmbiojpcidccjaaDoor
/- Contracts: Apply. -/
namespace Go.Proofs.YtmbiojpcidccjaaDoor
open Go.RowKit Go.Par Go.Sx
theorem one_at {v : Value} {xs : List Value} {o : Nat} (h : xs[o]? = some v) : ∀ (j : Nat) u, [v][j]? = some u → xs[o + j]? = some u := fun j u e => by
  match j, e with
  | 0, e => simp at e; rw [Nat.add_zero, h, e]
def wvar (n : UInt8) : Vr := ⟨wordR n, 1, 0⟩
theorem yvar_shut {H : Hp} (n : UInt8) (i : Int64) : Rep H (dVr .i64 ⟨[121], UInt8.ofNat (n.toNat % 5), i⟩) [strV [121], .int .i64 (n.toNat % 5 : Nat), .int .i64 i.toInt] := by
  have := vr_shut (H := H) (k := .i64) (x := ⟨[121], UInt8.ofNat (n.toNat % 5), i⟩) (show [(121 : UInt8)].length ≤ 1000000 by decide)
  have e : (UInt8.ofNat (n.toNat % 5)).toNat = n.toNat % 5 := by rw [UInt8.toNat_ofNat']; omega
  simp only [e] at this
  exact this
theorem cp_len {H : Hp} {k : IntKind} {x : Cp} {cs : List Value} (h : Rep H (dCp k x) cs) : cs.length = 3 := by
  obtain ⟨_, _, _, _, rfl, _⟩ := cp_open h; rfl
theorem okC_set {N k : Nat} {c : Cp} {l : List Hd} (h : okCp N c) (k1 : okV2 (2 * N + 100) l) : okCp (2 * N + 100) ⟨c.nm, c.vars, c.vers.set k l⟩ := by
  refine ⟨by have := h.vars; show c.vars.length ≤ _; omega, by have := h.vers; simp; omega, fun v hv => ?_⟩
  rcases List.mem_or_eq_of_mem_set hv with hv | rfl
  · exact (h.all v hv).mono (by omega)
  · exact k1
theorem okF_set {N k : Nat} {f : Ft} {c : Cp} (h : okFt N f) (k1 : okCp (2 * N + 100) c) : okFt (2 * N + 100) ⟨f.nm, f.flags, f.links, f.comps.set k c⟩ := by
  refine ⟨by have := h.flags; show f.flags.length ≤ _; omega, by have := h.links; show f.links.length ≤ _; omega, by have := h.comps; simp; omega, by have := h.pos; simp; omega, fun v hv => ?_⟩
  rcases List.mem_or_eq_of_mem_set hv with hv | rfl
  · exact (h.all v hv).mono (by omega)
  · exact k1
set_option maxHeartbeats 4000000 in
set_option maxRecDepth 100000 in
theorem apply_any (H : Hp) (f : Ft) (x : Sp) (cs xs : List Value) (N : Nat) (hN1 : N ≤ 50000) (w : World) (h : Rep H (dFt .i64 f) cs) (hX : Rep H (dSp x) xs) (hok : okFt N f) (hA : Agr H w) :
    Calls Tryd.prog 37 #[.agg cs.toArray, .agg xs.toArray] w fun r w' => ∃ (v : List Value) (H' : Hp), (∃ f', Rep H' (dFt .i64 f') v ∧ okFt (2 * (N + 100) + 100) f') ∧ r = .returned (.agg v.toArray) ∧ Grow H w H' w' := by
  obtain ⟨p1, c1, p2, c2, p3, c3, rfl, n00, k1, k2, k3⟩ := ft_open h
  have hi256 := x.i.toNat_lt
  have hn256 := x.nm.toNat_lt
  have hcap := k3.cap
  obtain ⟨pN, cN, rfl, hNd⟩ := sp_open hX
  obtain ⟨m0, hm0⟩ := wu64 x.n.toInt
  obtain ⟨m, hmm⟩ : ∃ m, m = m0 % 13 := ⟨_, rfl⟩
  have hm13 : m < 13 := by omega
  refine Sx.enter (H := H) Tryd.func37 rfl Tryd.ntmps37 rfl hA ?_
  refine .sq <| .rg <| .bx rfl rfl rfl fun b2 => .bx rfl rfl rfl fun b3 => .al Fx.zero49 rfl fun b4 => .nl <| .tN <| .sq <| .rg <| .yv (.fieldAddr rfl Fx.field101_3) rfl <|
    .yv (.load rfl Fx.agg2 (.tail _ <| .head _) rfl) rfl <| .yv (.conv rfl Fx.int2 Fx.int146 hm0) rfl <| .yv (.rem rfl rfl (by decide) (c := ((m : Nat) : Int)) (by rw [hmm]; exact tm2 _ 13)) rfl <|
    .yv (.conv rfl Fx.int146 Fx.int3 (c := ((m : Nat) : Int)) (w64 (by omega) (by omega))) rfl <| .a rfl rfl <| .nl <| .tN <| .sq <| .rg <| .yv (.fieldAddr rfl Fx.field101_2) rfl <|
    .yv (.load rfl Fx.agg5 (.tail _ <| .head _) rfl) rfl <| .yv (.call Fx.call48 rfl (fun W s => word_any H x.nm W s.agr)) rfl <| .a rfl rfl <| .nl <| .tN <| .sq <|
    .rg <| .yv (.fieldAddr rfl Fx.field101_1) rfl <| .yv (.load rfl Fx.agg5 (.tail _ <| .head _) rfl) rfl <| .yv (.conv rfl Fx.int5 Fx.int3 (c := ((x.i.toNat : Nat) : Int)) (w64 (by omega) (by omega))) rfl <|
    .yv (.fieldAddr rfl Fx.field49_3) rfl <| .yv (.load rfl Fx.agg47 (.tail _ <| .tail _ <| .head _) rfl) rfl <| .yv (.lenSl Fx.sl47 rfl) rfl <| .yv (.rem rfl rfl (by have := hok.pos; omega) (c := ((x.i.toNat % f.comps.length : Nat) : Int)) (tm2 _ _)) rfl <|
    ?_
  have hi : x.i.toNat % f.comps.length < f.comps.length := Nat.mod_lt _ hok.pos
  generalize x.i.toNat % f.comps.length = i at hi ⊢
  obtain ⟨bE, oE, cE, hpE, rE, lE, mE⟩ := k3.elem (map_at (f := dCp .i64) hi)
  cases hpE
  have ok0 := hok.all _ (List.getElem_mem hi)
  generalize hc0 : f.comps[i] = c0 at rE ok0
  obtain ⟨nm0, vs0, vr0⟩ := c0
  obtain ⟨q1, d1, q2, d2, rfl, n0, g1, g2⟩ := cp_open rE
  dsimp only at n0 g1 g2 mE
  have hvl : vs0.length ≤ N := ok0.vars
  have hrl : vr0.length ≤ N := ok0.vers
  have hfl := hok.flags
  have hll := hok.links
  have hcl := hok.comps
  refine .a rfl rfl <| .nl <| .tN <| .sq <| .rg <| .yv (.fieldAddr rfl Fx.field49_3) rfl <| .yv (.load rfl Fx.agg47 (.tail _ <| .tail _ <| .head _) rfl) rfl <| .m rfl rfl <|
    .yv (.indexSl Fx.sl47 rfl rfl (i := i) rfl hi (q := oE + i * 3) rfl) rfl <| .yv (.loadMW rfl Fx.agg54 mE rfl) rfl <| .al Fx.zero54 rfl fun b8 => .sW .head rfl rfl Fx.size54 (by show ∀ u ∈ [_, _, _], Value.oneCell' u = true; simp [Value.oneCell', strV]) rfl <|
    .nl <| .tN <| .sq <| .ft (p := .light _ _ (.light _ _ (.light _ _ (.light _ _ (.alt _ _ _ (.alt _ _ _ (.light _ _ (.alt _ _ _ (.alt _ _ _ (.done) (.no)) (.no))) (.alt _ _ _ (.alt _ _ _ (.light _ _ (.alt _ _ _ (.done) (.no))) (.no)) (.no))) (.alt _ _ _ (.alt _ _ _ (.alt _ _ _ (.light _ _ (.alt _ _ _ (.done) (.no))) (.no)) (.no)) (.no))))))) 9 (.light 1 (.light 2 (.light 5 (.light 6 (.alt 0 0 (.alt 3 2 (.light 8 (.alt 4 0 (.alt 7 2 (.done) (.no)) (.no))) (.alt 4 0 (.alt 3 2 (.light 8 (.alt 7 2 (.done) (.no))) (.no)) (.no))) (.alt 4 0 (.alt 0 0 (.alt 3 2 (.light 8 (.alt 7 2 (.done) (.no))) (.no)) (.no)) (.no))))))) (by kernel_rfl) (by kernel_rfl) rfl <|
    .yv (.fieldAddr rfl Fx.field54_1) rfl <| .yv (.load rfl Fx.agg51 (.head _) rfl) rfl <| .yv (.fieldAddr rfl Fx.field54_2) rfl <| .yv (.load rfl Fx.agg52 (.head _) rfl) rfl <|
    .h ?_ (.h ?_ .nn)
  ·
    refine .blR rfl Fx.bsl51_0 rfl (z := 3) rfl (by decide) fun g34 => .h ?_ (.h ?_ .nn)
    ·
      refine .apD0 Fx.row51 rfl (fun _ _ => .head) rfl g1 (by simp [maxLen]; omega) (by omega) rfl (fun _ _ => (.yv (.load rfl Fx.agg52 (.tail _ <| .head _) rfl) <| .yv (.fieldAddr rfl Fx.field54_2) <|
        .done (by kernel_rfl) <| .done (by kernel_rfl) <| .nl)) fun xs37 p37 c37 hz37 => .yv (.fieldAddr rfl Fx.field54_1) rfl <| .h1 <| .blR rfl Fx.bsl52_0 rfl (z := 1) rfl (by decide) fun g38 => .h1 <|
        .apD0 Fx.row52 rfl (fun _ _ => .head) rfl g2 (by simp [maxLen]; omega) (by omega) rfl (fun _ _ => (.yv (.fieldAddr rfl Fx.field54_1) <| .done (by kernel_rfl) <|
        .done (by kernel_rfl) <| .done (by kernel_rfl) <| .done (by kernel_rfl) <| .nl)) fun xs41 p41 c41 hz41 => .fn (tl := [_, _, _]) rfl <| .st (.tail <| .tail <| .head) rfl rfl Fx.size51 rfl (Nat.le_of_ble_eq_true rfl) rfl <|
        .yv (.fieldAddr rfl Fx.field54_2) rfl <| .st (.tail <| .tail <| .head) rfl rfl Fx.size52 rfl (Nat.le_of_ble_eq_true rfl) rfl <| .nl <| .tN <| .cu (X := Hp × Ft × List Value × Cp × Value × List Value × Value × List Value) [(2, _), (3, _), (4, _), (7, _), (8, _)] ⟨rfl, rfl, rfl, rfl, rfl, trivial⟩ (fun z => []) (fun z => z.1) (fun z => [.row 140 3 z.2.2.2.2.1 z.2.2.2.1.vars.length z.2.2.2.2.2.1, .row 55 1 z.2.2.2.2.2.2.1 z.2.2.2.1.vers.length z.2.2.2.2.2.2.2, .box b8 [strV z.2.2.2.1.nm, z.2.2.2.2.1, z.2.2.2.2.2.2.1] 54, .box b2 z.2.2.1 49, .box b3 [.int .u8 x.wh.toNat, .int .u8 x.i.toNat, .int .u8 x.nm.toNat, .int .i64 x.n.toInt, .slice pN x.nodes.length cN] 101, .box b4 [.string ⟨#[]⟩, .slice none 0 0, .slice none 0 0, .slice none 0 0] 49]) (fun z => HUp w H z.1 ∧ Rep z.1 (dFt .i64 z.2.1) z.2.2.1 ∧ okFt (N + 100) z.2.1 ∧ f.comps.length ≤ z.2.1.comps.length ∧ z.2.2.2.1.nm.length ≤ 1000000 ∧ RepZ z.1 3 (z.2.2.2.1.vars.map (dVr .i64)) z.2.2.2.2.2.1 ∧ RepZ z.1 1 (z.2.2.2.1.vers.map (dVs .i64)) z.2.2.2.2.2.2.2 ∧ okCp (N + 100) z.2.2.2.1) ?_ fun z hC => ?_
      ·
        refine .sq <| .rg <| .yv (.fieldAddr rfl Fx.field101_0) rfl <| .yv (.load rfl Fx.agg5 (.tail _ <| .tail _ <| .tail _ <| .tail _ <| .head _) rfl) rfl <| .yv (.rem rfl rfl (by decide) (c := ((x.wh.toNat % 26 : Nat) : Int)) (by rw [Int.tmod_eq_emod_of_nonneg (by omega)]; omega)) rfl <|
          .nl <| .tN <| .bk <| .sq <| .rg <| .yv (.eql rfl rfl) rfl <| .a rfl rfl <| .nl <| .tN <| .cd rfl (fun h47 => ?_) (fun h47 => ?_)
        · skip
          exact .rg <| .m rfl rfl <| .yv (.fieldAddr rfl Fx.field49_0) rfl <| .st (.tail <| .tail <| .tail <| .tail <| .tail <| .head) rfl rfl Fx.size9 rfl (Nat.le_of_ble_eq_true rfl) rfl <|
            .nl <| .bN <| .tN <| .me (H, ⟨wordR x.nm, f.flags, f.links, f.comps⟩, _, ⟨nm0, vs0, vr0⟩, _, _, _, _) trivial ⟨rfl, rfl, rfl, rfl, rfl, trivial⟩ (fun _ s => s.pick [1, 0, 2, 5, 4, 3] [_, _, _, _, _, _] rfl rfl) ⟨.refl, ft_shut (x := ⟨wordR x.nm, f.flags, f.links, f.comps⟩) (Nat.le_trans (word_len _) (by decide)) k1 k2 k3, ⟨(hok.mono (M := N + 100) (by omega)).flags, (hok.mono (M := N + 100) (by omega)).links, (hok.mono (M := N + 100) (by omega)).comps, hok.pos, (hok.mono (M := N + 100) (by omega)).all⟩, Nat.le_refl _, n0, hz37, hz41, ok0.mono (by omega)⟩
        · skip
          refine .sq <| .rg <| .yv (.eql rfl rfl) rfl <| .a rfl rfl <| .nl <| .tN <| .cd rfl (fun h51 => ?_) (fun h51 => ?_)
          · skip
            refine .sq <| .rg <| .a rfl rfl <| .nl <| .tN <| .bk <| .pm [5, 0, 1, 2, 3, 4] [_, _, _, _, _, _] rfl rfl <| .lp (X := Nat × Hp × Option Addr × Nat × Nat) [(2, _), (3, _), (4, _), (5, _), (7, _), (8, _)] ⟨rfl, rfl, rfl, rfl, rfl, rfl, trivial⟩ [_, _, _, _, _] (fun z => [(9, .int .i64 (z.1 : Nat))]) (fun z => z.2.1) (fun z => [.box b2 [strV f.nm, .slice p1 f.flags.length c1, .slice p2 f.links.length c2, .slice z.2.2.1 z.2.2.2.1 z.2.2.2.2] 49]) (fun z => z.1 ≤ m ∧ HUp w H z.2.1 ∧ ∃ L : List Cp, L.length = f.comps.length + z.1 ∧ Rep z.2.1 (.seq 3 (L.map (dCp .i64))) [.slice z.2.2.1 z.2.2.2.1 z.2.2.2.2] ∧ ∀ c ∈ L, okCp N c) (fun z => m - z.1) (0, H, _, _, _) (fun _ s => s) ⟨rfl, trivial⟩ ⟨by simp, .refl, f.comps, by simp, k3, fun c m => (hok.all c m)⟩ fun z hC => ?_
            obtain ⟨j, H1, pp, pn, pc⟩ := z
            dsimp only at hC ⊢
            obtain ⟨hj0, uP, L, hL, hr, hall⟩ := hC
            have hpn := hr.len.1
            rw [List.length_map] at hpn
            have hrc := hr.cap
            refine .sq <| .sq <| .rg <| .m rfl rfl <| .m rfl rfl <| .yv (.lss rfl rfl) rfl <| .nl <| .tN <| .cd rfl (fun h55 => ?_) (fun h55 => ?_)
            · try simp only [decide_eq_true_eq] at h55
              have hj : j < m := by omega
              have hL0 : 0 < L.length := by have := hok.pos; omega
              obtain ⟨bF, oF, cF, hpF, rF, lF, mF⟩ := hr.elem (map_at (f := dCp .i64) hL0)
              cases hpF
              generalize hcx : L[0] = cx at rF
              obtain ⟨nmx, vsx, vrx⟩ := cx
              obtain ⟨qx1, dx1, qx2, dx2, rfl, nx0, kx1, kx2⟩ := cp_open rF
              dsimp only at mF
              refine .sk <| .tN <| .sq <| .bk <| .ft (p := .light _ _ (.light _ _ (.light _ _ (.light _ _ (.light _ _ (.light _ _ (.alt _ _ _ (.alt _ _ _ (.alt _ _ _ (.done) (.no)) (.alt _ _ _ (.alt _ _ _ (.done) (.no)) (.no))) (.alt _ _ _ (.alt _ _ _ (.alt _ _ _ (.done) (.no)) (.no)) (.no))))))))) 9 (.light 1 (.light 2 (.light 4 (.light 5 (.light 6 (.light 7 (.alt 0 0 (.alt 3 2 (.alt 8 0 (.done) (.no)) (.alt 8 0 (.alt 3 2 (.done) (.no)) (.no))) (.alt 8 0 (.alt 0 0 (.alt 3 2 (.done) (.no)) (.no)) (.no))))))))) (by kernel_rfl) (by kernel_rfl) rfl <|
                .yv (.fieldAddr rfl Fx.field49_3) rfl <| .yv (.load rfl Fx.agg47 (.head _) rfl) rfl <| .yv (.fieldAddr rfl Fx.field49_3) rfl <| .yv (.load rfl Fx.agg47 (.head _) rfl) rfl <|
                .yv (.indexSl Fx.sl47 rfl rfl (i := 0) rfl (by omega) (q := oF + 0 * 3) rfl) rfl <| .yv (.loadMW rfl Fx.agg54 mF rfl) rfl <| .h ?_ (.h ?_ .nn)
              ·
                refine .blR rfl Fx.bsl47_0 rfl (z := 3) rfl (by decide) fun g58 => .h ?_ (.h ?_ .nn)
                ·
                  refine .apD0 Fx.row47 rfl (fun _ _ => .head) rfl hr (by simp [maxLen]; omega) (by omega) rfl (fun _ _ => (.yv (.loadMW rfl Fx.agg54 mF rfl) <| .yv (.indexSl Fx.sl47 rfl rfl (i := 0) rfl (by omega) (q := oF + 0 * 3) rfl) <|
                    .yv (.load rfl Fx.agg47 (.tail _ <| .head _) rfl) <| .yv (.fieldAddr rfl Fx.field49_3) <| .done (by kernel_rfl) <| .done (by kernel_rfl) <| .nl)) fun xs61 p61 c61 hz61 => .h1 <|
                    .bl rfl (Fx.bsl47_1 _ _ _) rfl fun b66 => .fn (tl := [_, _, _]) rfl <| .ap (news := [strV nmx, .slice qx1 vsx.length dx1, .slice qx2 vrx.length dx2]) Fx.row47 rfl (fun _ => (.tail <|
                    .head)) rfl (.box (.head _) (fun j u h => by rw [Nat.zero_add]; exact h)) rfl (by simp [Value.oneCell', strV]) (by simp [maxLen]; omega) (by omega) rfl fun r67 _ => ?_
                  refine At.ra (.tail _ <| .head _) fun p67 c67 e67 => ?_
                  subst e67
                  refine .yv (.fieldAddr rfl Fx.field49_3) rfl <| .st (.tail <| .tail <| .head) rfl rfl Fx.size47 rfl (Nat.le_of_ble_eq_true rfl) rfl <| ?_
                  refine At.pm [1, 0, 2, 3, 4, 5, 6, 7] [_, _, _, _, _, _, _, _] rfl rfl ?_
                  refine Sx.freezeSeq (ds := (L ++ [L[0]]).map (dCp .i64)) (by simp <;> omega) (by rw [List.map_append, hcx]; exact hz61.snoc rF rfl) fun H2 p2 c2 u2 e2 h2 => ?_
                  obtain ⟨rfl, rfl⟩ := sl_inj e2
                  exact .nl <| .bN <| .tN <| .rg <| .m rfl rfl <| .yv (.add rfl rfl (w64 (by omega) (by omega))) rfl <| .a rfl rfl <| .nl <| .tN <| .ag (x := (j, H1, some ⟨bF, oF, none⟩, pn, pc)) (j + 1, H2, p67, pn + 1, c67) ⟨rfl, trivial⟩ ⟨rfl, rfl, rfl, rfl, rfl, rfl, trivial⟩ (fun _ s => (s.pick [1, 2, 3, 4, 5, 6] _ rfl rfl)) ⟨by dsimp only; omega, uP.trans u2, L ++ [L[0]], by simp; omega, h2, fun c m => (List.mem_append.1 m).elim (hall c) (fun m => by rw [List.mem_singleton.1 m]; exact hall _ (List.getElem_mem hL0))⟩ (by dsimp only; omega)
                ·
                  refine .bl rfl (Fx.bsl47_1 _ _ _) rfl fun b66 => .h1 <| .apD0 Fx.row47 rfl (fun _ _ => (.tail <| .head)) rfl hr (by simp [maxLen]; omega) (by omega) rfl (fun _ _ => (.yv (.loadMW rfl Fx.agg54 mF rfl) <|
                    .yv (.indexSl Fx.sl47 rfl rfl (i := 0) rfl (by omega) (q := oF + 0 * 3) rfl) <| .yv (.load rfl Fx.agg47 (.tail _ <| .tail _ <| .head _) rfl) <| .yv (.fieldAddr rfl Fx.field49_3) <|
                    .done (by kernel_rfl) <| .done (by kernel_rfl) <| .nl)) fun xs61 p61 c61 hz61 => .fn (tl := [_, _, _]) rfl <| .ap (news := [strV nmx, .slice qx1 vsx.length dx1, .slice qx2 vrx.length dx2]) Fx.row47 rfl (fun _ => (.tail <|
                    .head)) rfl (.box (.head _) (fun j u h => by rw [Nat.zero_add]; exact h)) rfl (by simp [Value.oneCell', strV]) (by simp [maxLen]; omega) (by omega) rfl fun r67 _ => ?_
                  refine At.ra (.tail _ <| .head _) fun p67 c67 e67 => ?_
                  subst e67
                  refine .yv (.fieldAddr rfl Fx.field49_3) rfl <| .st (.tail <| .tail <| .head) rfl rfl Fx.size47 rfl (Nat.le_of_ble_eq_true rfl) rfl <| ?_
                  refine At.pm [1, 0, 2, 3, 4, 5, 6, 7] [_, _, _, _, _, _, _, _] rfl rfl ?_
                  refine Sx.freezeSeq (ds := (L ++ [L[0]]).map (dCp .i64)) (by simp <;> omega) (by rw [List.map_append, hcx]; exact hz61.snoc rF rfl) fun H2 p2 c2 u2 e2 h2 => ?_
                  obtain ⟨rfl, rfl⟩ := sl_inj e2
                  exact .nl <| .bN <| .tN <| .rg <| .m rfl rfl <| .yv (.add rfl rfl (w64 (by omega) (by omega))) rfl <| .a rfl rfl <| .nl <| .tN <| .ag (x := (j, H1, some ⟨bF, oF, none⟩, pn, pc)) (j + 1, H2, p67, pn + 1, c67) ⟨rfl, trivial⟩ ⟨rfl, rfl, rfl, rfl, rfl, rfl, trivial⟩ (fun _ s => (s.pick [1, 2, 3, 4, 5, 6] _ rfl rfl)) ⟨by dsimp only; omega, uP.trans u2, L ++ [L[0]], by simp; omega, h2, fun c m => (List.mem_append.1 m).elim (hall c) (fun m => by rw [List.mem_singleton.1 m]; exact hall _ (List.getElem_mem hL0))⟩ (by dsimp only; omega)
              ·
                refine .bl rfl (Fx.bsl47_1 _ _ _) rfl fun b66 => .h1 <| .blR rfl Fx.bsl47_0 rfl (z := 3) rfl (by decide) fun g58 => .h1 <| .apD0 Fx.row47 rfl (fun _ _ => .head) rfl hr (by simp [maxLen]; omega) (by omega) rfl (fun _ _ => (.yv (.loadMW rfl Fx.agg54 mF rfl) <|
                  .yv (.indexSl Fx.sl47 rfl rfl (i := 0) rfl (by omega) (q := oF + 0 * 3) rfl) <| .yv (.load rfl Fx.agg47 (.tail _ <| .tail _ <| .head _) rfl) <| .yv (.fieldAddr rfl Fx.field49_3) <|
                  .done (by kernel_rfl) <| .done (by kernel_rfl) <| .nl)) fun xs61 p61 c61 hz61 => .fn (tl := [_, _, _]) rfl <| .ap (news := [strV nmx, .slice qx1 vsx.length dx1, .slice qx2 vrx.length dx2]) Fx.row47 rfl (fun _ => .head) rfl (.box (.tail _ <|
                  .head _) (fun j u h => by rw [Nat.zero_add]; exact h)) rfl (by simp [Value.oneCell', strV]) (by simp [maxLen]; omega) (by omega) rfl fun r67 _ => ?_
                refine At.ra (.head _) fun p67 c67 e67 => ?_
                subst e67
                refine .yv (.fieldAddr rfl Fx.field49_3) rfl <| .st (.tail <| .tail <| .head) rfl rfl Fx.size47 rfl (Nat.le_of_ble_eq_true rfl) rfl <| ?_
                refine Sx.freezeSeq (ds := (L ++ [L[0]]).map (dCp .i64)) (by simp <;> omega) (by rw [List.map_append, hcx]; exact hz61.snoc rF rfl) fun H2 p2 c2 u2 e2 h2 => ?_
                obtain ⟨rfl, rfl⟩ := sl_inj e2
                exact .nl <| .bN <| .tN <| .rg <| .m rfl rfl <| .yv (.add rfl rfl (w64 (by omega) (by omega))) rfl <| .a rfl rfl <| .nl <| .tN <| .ag (x := (j, H1, some ⟨bF, oF, none⟩, pn, pc)) (j + 1, H2, p67, pn + 1, c67) ⟨rfl, trivial⟩ ⟨rfl, rfl, rfl, rfl, rfl, rfl, trivial⟩ (fun _ s => (s.pick [1, 2, 3, 4, 5, 6] _ rfl rfl)) ⟨by dsimp only; omega, uP.trans u2, L ++ [L[0]], by simp; omega, h2, fun c m => (List.mem_append.1 m).elim (hall c) (fun m => by rw [List.mem_singleton.1 m]; exact hall _ (List.getElem_mem hL0))⟩ (by dsimp only; omega)
            · skip
              exact .ex <| .tE <| .tE <| .bE <| .bN <| .tN <| .me (H1, ⟨f.nm, f.flags, f.links, L⟩, _, ⟨nm0, vs0, vr0⟩, _, _, _, _) trivial ⟨rfl, rfl, rfl, rfl, rfl, trivial⟩ (fun _ s => s.pick [2, 1, 3, 0, 5, 4] [_, _, _, _, _, _] rfl rfl) ⟨uP, ft_shut (x := ⟨f.nm, f.flags, f.links, L⟩) n00 (k1.up uP.up) (k2.up uP.up) hr, ⟨(hok.mono (M := N + 100) (by omega)).flags, (hok.mono (M := N + 100) (by omega)).links, by show L.length ≤ _; have := hok.comps; omega, by show 0 < L.length; have := hok.pos; omega, fun c m => (hall c m).mono (by omega)⟩, (by show f.comps.length ≤ L.length; omega), n0, RepZ.up uP.up hz37, RepZ.up uP.up hz41, ok0.mono (by omega)⟩
          · skip
            refine .sq <| .rg <| .yv (.eql rfl rfl) rfl <| .a rfl rfl <| .nl <| .tN <| .cd rfl (fun h69 => ?_) (fun h69 => ?_)
            · skip
              refine .sq <| .rg <| .a rfl rfl <| .nl <| .tN <| .bk <| .pm [5, 0, 1, 2, 3, 4] [_, _, _, _, _, _] rfl rfl <| .lp (X := Nat × Hp × Option Addr × Nat × Nat) [(2, _), (3, _), (4, _), (5, _), (6, _), (7, _), (8, _)] ⟨rfl, rfl, rfl, rfl, rfl, rfl, rfl, trivial⟩ [_, _, _, _, _] (fun z => [(10, .int .i64 (z.1 : Nat))]) (fun z => z.2.1) (fun z => [.box b2 [strV f.nm, .slice z.2.2.1 z.2.2.2.1 z.2.2.2.2, .slice p2 f.links.length c2, .slice (some ⟨bE, oE, none⟩) f.comps.length c3] 49]) (fun z => z.1 ≤ m ∧ HUp w H z.2.1 ∧ ∃ L : List Fg, L.length = f.flags.length + z.1 ∧ Rep z.2.1 (.seq 2 (L.map dFg)) [.slice z.2.2.1 z.2.2.2.1 z.2.2.2.2]) (fun z => m - z.1) (0, H, _, _, _) (fun _ s => s) ⟨rfl, trivial⟩ ⟨by simp, .refl, f.flags, by simp, k1⟩ fun z hC => ?_
              obtain ⟨j, H1, pp, pn, pc⟩ := z
              dsimp only at hC ⊢
              obtain ⟨hj0, uP, L, hL, hr⟩ := hC
              have hpn := hr.len.1
              rw [List.length_map] at hpn
              have hrc := hr.cap
              refine .sq <| .sq <| .rg <| .m rfl rfl <| .m rfl rfl <| .yv (.lss rfl rfl) rfl <| .nl <| .tN <| .cd rfl (fun h73 => ?_) (fun h73 => ?_)
              · try simp only [decide_eq_true_eq] at h73
                have hj : j < m := by omega
                refine .sk <| .tN <| .sq <| .bk <| .rg <| .blR rfl Fx.bsl45_0 rfl (z := 2) rfl (by decide) fun g76 => .yv (.fieldAddr rfl Fx.field49_1) rfl <| .yv (.load rfl Fx.agg45 (.tail _ <|
                  .head _) rfl) rfl <| .apD0 Fx.row45 rfl (fun _ _ => .head) rfl hr (by simp [maxLen]; omega) (by omega) rfl fun xs79 r79 hz79 => .m rfl rfl <| .yv (.build rfl (Fx.bld134_0 _)) rfl <|
                  .bl rfl (Fx.bsl45_1 _ _) rfl fun b82 => .ap (news := [strV (wordR x.nm), .bool false]) Fx.row45 rfl (fun _ => (.tail <| .head)) rfl (.box (.head _) (fun j u h => by rw [Nat.zero_add]; exact h)) rfl (by simp [Value.oneCell', strV]) (by simp [maxLen]; omega) (by omega) rfl fun r83 _ => ?_
                refine At.ra (.tail _ <| .head _) fun p83 c83 e83 => ?_
                subst e83
                refine .yv (.fieldAddr rfl Fx.field49_1) rfl <| .st (.tail <| .tail <| .head) rfl rfl Fx.size45 rfl (Nat.le_of_ble_eq_true rfl) rfl <| ?_
                refine At.pm [1, 0, 2, 3, 4, 5, 6, 7] [_, _, _, _, _, _, _, _] rfl rfl ?_
                refine Sx.freezeSeq (ds := (L ++ [(⟨wordR x.nm, false⟩ : Fg)]).map dFg) (by simp <;> omega) (by rw [List.map_append]; exact hz79.snoc (fg_shut (x := ⟨wordR x.nm, false⟩) (Nat.le_trans (word_len _) (by decide))) rfl) fun H2 p2 c2 u2 e2 h2 => ?_
                obtain ⟨rfl, rfl⟩ := sl_inj e2
                exact .nl <| .bN <| .tN <| .rg <| .m rfl rfl <| .yv (.add rfl rfl (w64 (by omega) (by omega))) rfl <| .a rfl rfl <| .nl <| .tN <| .ag (x := (j, H1, pp, pn, pc)) (j + 1, H2, p83, pn + 1, c83) ⟨rfl, trivial⟩ ⟨rfl, rfl, rfl, rfl, rfl, rfl, rfl, trivial⟩ (fun _ s => (s.pick [1, 2, 3, 4, 5, 6] _ rfl rfl)) ⟨by dsimp only; omega, uP.trans u2, L ++ [⟨wordR x.nm, false⟩], by simp; omega, h2⟩ (by dsimp only; omega)
              · skip
                exact .ex <| .tE <| .tE <| .bE <| .bN <| .tN <| .me (H1, ⟨f.nm, L, f.links, f.comps⟩, _, ⟨nm0, vs0, vr0⟩, _, _, _, _) trivial ⟨rfl, rfl, rfl, rfl, rfl, trivial⟩ (fun _ s => s.pick [2, 1, 3, 0, 5, 4] [_, _, _, _, _, _] rfl rfl) ⟨uP, ft_shut (x := ⟨f.nm, L, f.links, f.comps⟩) n00 hr (k2.up uP.up) (k3.up uP.up), ⟨by show L.length ≤ _; have := hok.flags; omega, (hok.mono (M := N + 100) (by omega)).links, (hok.mono (M := N + 100) (by omega)).comps, hok.pos, (hok.mono (M := N + 100) (by omega)).all⟩, Nat.le_refl _, n0, RepZ.up uP.up hz37, RepZ.up uP.up hz41, ok0.mono (by omega)⟩
            · skip
              refine .sq <| .rg <| .yv (.eql rfl rfl) rfl <| .a rfl rfl <| .nl <| .tN <| .cd rfl (fun h85 => ?_) (fun h85 => ?_)
              · skip
                refine .sq <| .rg <| .a rfl rfl <| .nl <| .tN <| .bk <| .pm [5, 0, 1, 2, 3, 4] [_, _, _, _, _, _] rfl rfl <| .lp (X := Nat × Hp × Option Addr × Nat × Nat) [(2, _), (3, _), (4, _), (5, _), (6, _), (7, _), (8, _)] ⟨rfl, rfl, rfl, rfl, rfl, rfl, rfl, trivial⟩ [_, _, _, _, _] (fun z => [(11, .int .i64 (z.1 : Nat))]) (fun z => z.2.1) (fun z => [.box b2 [strV f.nm, .slice p1 f.flags.length c1, .slice z.2.2.1 z.2.2.2.1 z.2.2.2.2, .slice (some ⟨bE, oE, none⟩) f.comps.length c3] 49]) (fun z => z.1 ≤ 6 * m ∧ HUp w H z.2.1 ∧ ∃ L : List Lk, L.length = f.links.length + z.1 ∧ Rep z.2.1 (.seq 3 (L.map dLk)) [.slice z.2.2.1 z.2.2.2.1 z.2.2.2.2]) (fun z => 6 * m - z.1) (0, H, _, _, _) (fun _ s => s) ⟨rfl, trivial⟩ ⟨by simp, .refl, f.links, by simp, k2⟩ fun z hC => ?_
                obtain ⟨j, H1, pp, pn, pc⟩ := z
                dsimp only at hC ⊢
                obtain ⟨hj0, uP, L, hL, hr⟩ := hC
                have hpn := hr.len.1
                rw [List.length_map] at hpn
                have hrc := hr.cap
                refine .sq <| .sq <| .rg <| .m rfl rfl <| .m rfl rfl <| .yv (.mul rfl rfl (c := ((6 * m : Nat) : Int)) ((w64 (by omega) (by omega)).trans (by omega))) rfl <| .yv (.lss rfl rfl) rfl <|
                  .nl <| .tN <| .cd rfl (fun h90 => ?_) (fun h90 => ?_)
                · try simp only [decide_eq_true_eq] at h90
                  have hj : j < 6 * m := by omega
                  refine .sk <| .tN <| .sq <| .bk <| .rg <| .blR rfl Fx.bsl46_0 rfl (z := 3) rfl (by decide) fun g93 => .yv (.fieldAddr rfl Fx.field49_2) rfl <| .yv (.load rfl Fx.agg46 (.tail _ <|
                    .head _) rfl) rfl <| .apD0 Fx.row46 rfl (fun _ _ => .head) rfl hr (by simp [maxLen]; omega) (by omega) rfl fun xs96 r96 hz96 => .m rfl rfl <| .yv (.build rfl (Fx.bld135_0_1_2 _ _ _)) rfl <|
                    .bl rfl (Fx.bsl46_1 _ _ _) rfl fun b99 => .ap (news := [strV [97], strV (wordR x.nm), .int .i64 1]) Fx.row46 rfl (fun _ => (.tail <| .head)) rfl (.box (.head _) (fun j u h => by rw [Nat.zero_add]; exact h)) rfl (by simp [Value.oneCell', strV]) (by simp [maxLen]; omega) (by omega) rfl fun r100 _ => ?_
                  refine At.ra (.tail _ <| .head _) fun p100 c100 e100 => ?_
                  subst e100
                  refine .yv (.fieldAddr rfl Fx.field49_2) rfl <| .st (.tail <| .tail <| .head) rfl rfl Fx.size46 rfl (Nat.le_of_ble_eq_true rfl) rfl <| ?_
                  refine At.pm [1, 0, 2, 3, 4, 5, 6, 7] [_, _, _, _, _, _, _, _] rfl rfl ?_
                  refine Sx.freezeSeq (ds := (L ++ [(⟨[97], wordR x.nm, 1⟩ : Lk)]).map dLk) (by simp <;> omega) (by rw [List.map_append]; exact hz96.snoc (lk_shut (x := ⟨[97], wordR x.nm, 1⟩) (show [(97 : UInt8)].length ≤ 1000000 by decide) (Nat.le_trans (word_len _) (by decide))) rfl) fun H2 p2 c2 u2 e2 h2 => ?_
                  obtain ⟨rfl, rfl⟩ := sl_inj e2
                  exact .nl <| .bN <| .tN <| .rg <| .m rfl rfl <| .yv (.add rfl rfl (w64 (by omega) (by omega))) rfl <| .a rfl rfl <| .nl <| .tN <| .ag (x := (j, H1, pp, pn, pc)) (j + 1, H2, p100, pn + 1, c100) ⟨rfl, trivial⟩ ⟨rfl, rfl, rfl, rfl, rfl, rfl, rfl, trivial⟩ (fun _ s => (s.pick [1, 2, 3, 4, 5, 6] _ rfl rfl)) ⟨by dsimp only; omega, uP.trans u2, L ++ [⟨[97], wordR x.nm, 1⟩], by simp; omega, h2⟩ (by dsimp only; omega)
                · skip
                  exact .ex <| .tE <| .tE <| .bE <| .bN <| .tN <| .me (H1, ⟨f.nm, f.flags, L, f.comps⟩, _, ⟨nm0, vs0, vr0⟩, _, _, _, _) trivial ⟨rfl, rfl, rfl, rfl, rfl, trivial⟩ (fun _ s => s.pick [2, 1, 3, 0, 5, 4] [_, _, _, _, _, _] rfl rfl) ⟨uP, ft_shut (x := ⟨f.nm, f.flags, L, f.comps⟩) n00 (k1.up uP.up) hr (k3.up uP.up), ⟨(hok.mono (M := N + 100) (by omega)).flags, by show L.length ≤ _; have := hok.links; omega, (hok.mono (M := N + 100) (by omega)).comps, hok.pos, (hok.mono (M := N + 100) (by omega)).all⟩, Nat.le_refl _, n0, RepZ.up uP.up hz37, RepZ.up uP.up hz41, ok0.mono (by omega)⟩
              · skip
                refine .sq <| .rg <| .yv (.eql rfl rfl) rfl <| .a rfl rfl <| .nl <| .tN <| .cd rfl (fun h102 => ?_) (fun h102 => ?_)
                · skip
                  refine .ft (p := .light _ _ (.light _ _ (.light _ _ (.light _ _ (.light _ _ (.alt _ _ _ (.alt _ _ _ (.alt _ _ _ (.done) (.no)) (.alt _ _ _ (.alt _ _ _ (.done) (.no)) (.no))) (.alt _ _ _ (.alt _ _ _ (.alt _ _ _ (.done) (.no)) (.no)) (.no)))))))) 8 (.light 1 (.light 2 (.light 4 (.light 5 (.light 6 (.alt 0 0 (.alt 3 2 (.alt 7 0 (.done) (.no)) (.alt 7 0 (.alt 3 2 (.done) (.no)) (.no))) (.alt 7 0 (.alt 0 0 (.alt 3 2 (.done) (.no)) (.no)) (.no)))))))) (by kernel_rfl) (by kernel_rfl) rfl <|
                    .yv (.fieldAddr rfl Fx.field49_2) rfl <| .yv (.load rfl Fx.agg46 (.tail _ <| .tail _ <| .tail _ <| .tail _ <| .tail _ <| .head _) rfl) rfl <| .yv (.fieldAddr rfl Fx.field101_3) rfl <|
                    .yv (.load rfl Fx.agg2 (.tail _ <| .tail _ <| .tail _ <| .tail _ <| .head _) rfl) rfl <| .yv (.build rfl (Fx.bld135_0_1_2 _ _ _)) rfl <| .h ?_ (.h ?_ .nn)
                  ·
                    refine .blR rfl Fx.bsl46_0 rfl (z := 3) rfl (by decide) fun g104 => .h ?_ (.h ?_ .nn)
                    ·
                      refine .apD0 Fx.row46 rfl (fun _ _ => .head) rfl k2 (by simp [maxLen]; omega) (by omega) rfl (fun _ _ => (.yv (.build rfl (Fx.bld135_0_1_2 _ _ _)) <| .yv (.load rfl Fx.agg2 (.tail _ <|
                        .tail _ <| .tail _ <| .tail _ <| .tail _ <| .head _) rfl) <| .yv (.fieldAddr rfl Fx.field101_3) <| .done (by kernel_rfl) <| .done (by kernel_rfl) <| .nl)) fun xs107 p107 c107 hz107 => .h1 <|
                        .bl rfl (Fx.bsl46_1 _ _ _) rfl fun b111 => .fn (tl := [_, _, _]) rfl <| .ap (news := [strV [97], strV [97], .int .i64 x.n.toInt]) Fx.row46 rfl (fun _ => (.tail <|
                        .head)) rfl (.box (.head _) (fun j u h => by rw [Nat.zero_add]; exact h)) rfl (by simp [Value.oneCell', strV]) (by simp [maxLen]; omega) (by omega) rfl fun r112 _ => ?_
                      refine At.ra (.tail _ <| .head _) fun p112 c112 e112 => ?_
                      subst e112
                      refine .yv (.fieldAddr rfl Fx.field49_2) rfl <| .st (.tail <| .tail <| .tail <| .tail <| .tail <| .tail <| .tail <| .head) rfl rfl Fx.size46 rfl (Nat.le_of_ble_eq_true rfl) rfl <|
                        ?_
                      refine At.pm [1, 0, 2, 3, 4, 5, 6, 7] [_, _, _, _, _, _, _, _] rfl rfl ?_
                      refine Sx.freezeSeq (ds := (f.links ++ [(⟨[97], [97], x.n⟩ : Lk)]).map dLk) (by simp <;> omega) (by rw [List.map_append]; exact hz107.snoc (lk_shut (x := ⟨[97], [97], x.n⟩) (show [(97 : UInt8)].length ≤ 1000000 by decide) (show [(97 : UInt8)].length ≤ 1000000 by decide)) rfl) fun H2 p2 c2 u2 e2 h2 => ?_
                      obtain ⟨rfl, rfl⟩ := sl_inj e2
                      exact .nl <| .bN <| .tN <| .me (H2, ⟨f.nm, f.flags, f.links ++ [⟨[97], [97], x.n⟩], f.comps⟩, _, ⟨nm0, vs0, vr0⟩, _, _, _, _) trivial ⟨rfl, rfl, rfl, rfl, rfl, trivial⟩ (fun _ s => s.pick [2, 1, 3, 6, 5, 4] [_, _, _, _, _, _] rfl rfl) ⟨u2, ft_shut (x := ⟨f.nm, f.flags, f.links ++ [⟨[97], [97], x.n⟩], f.comps⟩) n00 (k1.up u2.up) h2 (k3.up u2.up), ⟨(hok.mono (M := N + 100) (by omega)).flags, by show (f.links ++ [_]).length ≤ _; have := hok.links; rw [List.length_append, List.length_singleton]; omega, (hok.mono (M := N + 100) (by omega)).comps, hok.pos, (hok.mono (M := N + 100) (by omega)).all⟩, Nat.le_refl _, n0, RepZ.up u2.up hz37, RepZ.up u2.up hz41, ok0.mono (by omega)⟩
                    ·
                      refine .bl rfl (Fx.bsl46_1 _ _ _) rfl fun b111 => .h1 <| .apD0 Fx.row46 rfl (fun _ _ => (.tail <| .head)) rfl k2 (by simp [maxLen]; omega) (by omega) rfl (fun _ _ => (.yv (.build rfl (Fx.bld135_0_1_2 _ _ _)) <|
                        .yv (.load rfl Fx.agg2 (.tail _ <| .tail _ <| .tail _ <| .tail _ <| .tail _ <| .tail _ <| .head _) rfl) <| .yv (.fieldAddr rfl Fx.field101_3) <| .done (by kernel_rfl) <|
                        .done (by kernel_rfl) <| .nl)) fun xs107 p107 c107 hz107 => .fn (tl := [_, _, _]) rfl <| .ap (news := [strV [97], strV [97], .int .i64 x.n.toInt]) Fx.row46 rfl (fun _ => (.tail <|
                        .head)) rfl (.box (.head _) (fun j u h => by rw [Nat.zero_add]; exact h)) rfl (by simp [Value.oneCell', strV]) (by simp [maxLen]; omega) (by omega) rfl fun r112 _ => ?_
                      refine At.ra (.tail _ <| .head _) fun p112 c112 e112 => ?_
                      subst e112
                      refine .yv (.fieldAddr rfl Fx.field49_2) rfl <| .st (.tail <| .tail <| .tail <| .tail <| .tail <| .tail <| .tail <| .head) rfl rfl Fx.size46 rfl (Nat.le_of_ble_eq_true rfl) rfl <|
                        ?_
                      refine At.pm [1, 0, 2, 3, 4, 5, 6, 7] [_, _, _, _, _, _, _, _] rfl rfl ?_
                      refine Sx.freezeSeq (ds := (f.links ++ [(⟨[97], [97], x.n⟩ : Lk)]).map dLk) (by simp <;> omega) (by rw [List.map_append]; exact hz107.snoc (lk_shut (x := ⟨[97], [97], x.n⟩) (show [(97 : UInt8)].length ≤ 1000000 by decide) (show [(97 : UInt8)].length ≤ 1000000 by decide)) rfl) fun H2 p2 c2 u2 e2 h2 => ?_
                      obtain ⟨rfl, rfl⟩ := sl_inj e2
                      exact .nl <| .bN <| .tN <| .me (H2, ⟨f.nm, f.flags, f.links ++ [⟨[97], [97], x.n⟩], f.comps⟩, _, ⟨nm0, vs0, vr0⟩, _, _, _, _) trivial ⟨rfl, rfl, rfl, rfl, rfl, trivial⟩ (fun _ s => s.pick [2, 1, 3, 6, 5, 4] [_, _, _, _, _, _] rfl rfl) ⟨u2, ft_shut (x := ⟨f.nm, f.flags, f.links ++ [⟨[97], [97], x.n⟩], f.comps⟩) n00 (k1.up u2.up) h2 (k3.up u2.up), ⟨(hok.mono (M := N + 100) (by omega)).flags, by show (f.links ++ [_]).length ≤ _; have := hok.links; rw [List.length_append, List.length_singleton]; omega, (hok.mono (M := N + 100) (by omega)).comps, hok.pos, (hok.mono (M := N + 100) (by omega)).all⟩, Nat.le_refl _, n0, RepZ.up u2.up hz37, RepZ.up u2.up hz41, ok0.mono (by omega)⟩
                  ·
                    refine .bl rfl (Fx.bsl46_1 _ _ _) rfl fun b111 => .h1 <| .blR rfl Fx.bsl46_0 rfl (z := 3) rfl (by decide) fun g104 => .h1 <| .apD0 Fx.row46 rfl (fun _ _ => .head) rfl k2 (by simp [maxLen]; omega) (by omega) rfl (fun _ _ => (.yv (.build rfl (Fx.bld135_0_1_2 _ _ _)) <|
                      .yv (.load rfl Fx.agg2 (.tail _ <| .tail _ <| .tail _ <| .tail _ <| .tail _ <| .tail _ <| .head _) rfl) <| .yv (.fieldAddr rfl Fx.field101_3) <| .done (by kernel_rfl) <|
                      .done (by kernel_rfl) <| .nl)) fun xs107 p107 c107 hz107 => .fn (tl := [_, _, _]) rfl <| .ap (news := [strV [97], strV [97], .int .i64 x.n.toInt]) Fx.row46 rfl (fun _ => .head) rfl (.box (.tail _ <|
                      .head _) (fun j u h => by rw [Nat.zero_add]; exact h)) rfl (by simp [Value.oneCell', strV]) (by simp [maxLen]; omega) (by omega) rfl fun r112 _ => ?_
                    refine At.ra (.head _) fun p112 c112 e112 => ?_
                    subst e112
                    refine .yv (.fieldAddr rfl Fx.field49_2) rfl <| .st (.tail <| .tail <| .tail <| .tail <| .tail <| .tail <| .tail <| .head) rfl rfl Fx.size46 rfl (Nat.le_of_ble_eq_true rfl) rfl <|
                      ?_
                    refine Sx.freezeSeq (ds := (f.links ++ [(⟨[97], [97], x.n⟩ : Lk)]).map dLk) (by simp <;> omega) (by rw [List.map_append]; exact hz107.snoc (lk_shut (x := ⟨[97], [97], x.n⟩) (show [(97 : UInt8)].length ≤ 1000000 by decide) (show [(97 : UInt8)].length ≤ 1000000 by decide)) rfl) fun H2 p2 c2 u2 e2 h2 => ?_
                    obtain ⟨rfl, rfl⟩ := sl_inj e2
                    exact .nl <| .bN <| .tN <| .me (H2, ⟨f.nm, f.flags, f.links ++ [⟨[97], [97], x.n⟩], f.comps⟩, _, ⟨nm0, vs0, vr0⟩, _, _, _, _) trivial ⟨rfl, rfl, rfl, rfl, rfl, trivial⟩ (fun _ s => s.pick [2, 1, 3, 6, 5, 4] [_, _, _, _, _, _] rfl rfl) ⟨u2, ft_shut (x := ⟨f.nm, f.flags, f.links ++ [⟨[97], [97], x.n⟩], f.comps⟩) n00 (k1.up u2.up) h2 (k3.up u2.up), ⟨(hok.mono (M := N + 100) (by omega)).flags, by show (f.links ++ [_]).length ≤ _; have := hok.links; rw [List.length_append, List.length_singleton]; omega, (hok.mono (M := N + 100) (by omega)).comps, hok.pos, (hok.mono (M := N + 100) (by omega)).all⟩, Nat.le_refl _, n0, RepZ.up u2.up hz37, RepZ.up u2.up hz41, ok0.mono (by omega)⟩
                · skip
                  refine .sq <| .rg <| .yv (.eql rfl rfl) rfl <| .a rfl rfl <| .nl <| .tN <| .cd rfl (fun h114 => ?_) (fun h114 => ?_)
                  · skip
                    exact .rg <| .m rfl rfl <| .yv (.fieldAddr rfl Fx.field54_0) rfl <| .st (.tail <| .tail <| .head) rfl rfl Fx.size9 rfl (Nat.le_of_ble_eq_true rfl) rfl <| .nl <|
                      .bN <| .tN <| .me (H, f, _, ⟨wordR x.nm, vs0, vr0⟩, _, _, _, _) trivial ⟨rfl, rfl, rfl, rfl, rfl, trivial⟩ (fun _ s => s.pick [1, 0, 2, 5, 4, 3] [_, _, _, _, _, _] rfl rfl) ⟨.refl, h, hok.mono (by omega), Nat.le_refl _, (Nat.le_trans (word_len _) (by decide)), hz37, hz41, ⟨(ok0.mono (M := N + 100) (by omega)).vars, (ok0.mono (M := N + 100) (by omega)).vers, (ok0.mono (M := N + 100) (by omega)).all⟩⟩
                  · skip
                    refine .sq <| .rg <| .yv (.eql rfl rfl) rfl <| .a rfl rfl <| .nl <| .tN <| .cd rfl (fun h118 => ?_) (fun h118 => ?_)
                    · skip
                      refine .sq <| .rg <| .a rfl rfl <| .nl <| .tN <| .bk <| .pm [1, 2, 0, 3, 4, 5] [_, _, _, _, _, _] rfl rfl <| .lp (X := Nat × Value × List Value) [(2, _), (3, _), (4, _), (5, _), (6, _), (7, _), (8, _)] ⟨rfl, rfl, rfl, rfl, rfl, rfl, rfl, trivial⟩ [_, _, _, _] (fun z => [(12, .int .i64 (z.1 : Nat))]) (fun z => H) (fun z => [.row 140 3 z.2.1 (vs0.length + z.1) z.2.2, .box b8 [strV nm0, z.2.1, .slice p41 vr0.length c41] 54]) (fun z => z.1 ≤ m ∧ RepZ H 3 ((vs0 ++ List.replicate z.1 (wvar x.nm)).map (dVr .i64)) z.2.2) (fun z => m - z.1) (0, _, _) (fun _ s => s) ⟨rfl, trivial⟩ ⟨by simp, by simpa using hz37⟩ fun z hC => ?_
                      obtain ⟨j, rv, ys⟩ := z
                      dsimp only at hC ⊢
                      obtain ⟨hj0, hzv⟩ := hC
                      refine .sq <| .sq <| .rg <| .m rfl rfl <| .m rfl rfl <| .yv (.lss rfl rfl) rfl <| .nl <| .tN <| .cd rfl (fun h122 => ?_) (fun h122 => ?_)
                      · try simp only [decide_eq_true_eq] at h122
                        have hj : j < m := by omega
                        refine .sk <| .tN <| .sq <| .bk <| .rg <| .yv (.fieldAddr rfl Fx.field54_1) rfl <| .yv (.load rfl Fx.agg51 (.tail _ <| .head _) rfl) rfl <| .m rfl rfl <| .yv (.build rfl (Fx.bld140_0_1 _ _)) rfl <|
                          .bl rfl (Fx.bsl51_1 _ _ _) rfl fun b129 => .ap (news := [strV (wordR x.nm), .int .i64 1, .int .i64 0]) Fx.row51 rfl (fun _ => (.tail <| .head)) rfl (.box (.head _) (fun j u h => by rw [Nat.zero_add]; exact h)) rfl (by simp [Value.oneCell', strV]) (by simp [maxLen]; omega) (by omega) rfl fun r130 _ => ?_
                        refine At.ra (.tail _ <| .head _) fun p130 c130 e130 => ?_
                        exact .yv (.fieldAddr rfl Fx.field54_1) rfl <| .st (.tail <| .tail <| .head) rfl rfl Fx.size51 (by rw [e130]; rfl) (Nat.le_of_ble_eq_true rfl) rfl <| .nl <| .bN <|
                          .tN <| .rg <| .m rfl rfl <| .yv (.add rfl rfl (w64 (by omega) (by omega))) rfl <| .a rfl rfl <| .nl <| .tN <| .ag (x := (j, rv, ys)) (j + 1, r130, ys ++ [strV (wordR x.nm), .int .i64 1, .int .i64 0]) ⟨rfl, trivial⟩ ⟨rfl, rfl, rfl, rfl, rfl, rfl, rfl, trivial⟩ (fun _ s => (s.pick [1, 2, 3, 4, 5, 6] _ rfl rfl)) ⟨by dsimp only; omega, by dsimp only; rw [List.replicate_succ', ← List.append_assoc, List.map_append]; exact hzv.snoc (vr_shut (x := wvar x.nm) (Nat.le_trans (word_len _) (by decide))) rfl⟩ (by dsimp only; omega)
                      · try simp only [decide_eq_false_iff_not] at h122
                        obtain rfl : m = j := by omega
                        exact .ex <| .tE <| .tE <| .bE <| .bN <| .tN <| .me (H, f, _, ⟨nm0, vs0 ++ List.replicate m (wvar x.nm), vr0⟩, _, _, _, _) trivial ⟨rfl, rfl, rfl, rfl, rfl, trivial⟩ (fun _ s => by rw [show (vs0 ++ List.replicate m (wvar x.nm)).length = vs0.length + m by simp]; exact (s.pick [0, 2, 1, 5, 4, 3] _ rfl rfl)) ⟨.refl, h, hok.mono (by omega), Nat.le_refl _, n0, hzv, hz41, ⟨by show (vs0 ++ _).length ≤ _; have : vs0.length ≤ N := ok0.vars; simp; omega, (ok0.mono (M := N + 100) (by omega)).vers, (ok0.mono (M := N + 100) (by omega)).all⟩⟩
                    · skip
                      refine .sq <| .rg <| .yv (.eql rfl rfl) rfl <| .a rfl rfl <| .nl <| .tN <| .cd rfl (fun h132 => ?_) (fun h132 => ?_)
                      · skip
                        refine .rg <| .yv (.fieldAddr rfl Fx.field54_1) rfl <| .yv (.load rfl Fx.agg51 (.tail _ <| .tail _ <| .head _) rfl) rfl <| .yv (.fieldAddr rfl Fx.field101_2) rfl <|
                          .yv (.load rfl Fx.agg5 (.tail _ <| .tail _ <| .tail _ <| .tail _ <| .head _) rfl) rfl <| .yv (.rem rfl rfl (by decide) (c := ((x.nm.toNat % 5 : Nat) : Int)) (by rw [Int.tmod_eq_emod_of_nonneg (by omega)]; omega)) rfl <|
                          .yv (.conv rfl Fx.int5 Fx.int3 (c := ((x.nm.toNat % 5 : Nat) : Int)) (w64 (by omega) (by omega))) rfl <| .yv (.fieldAddr rfl Fx.field101_3) rfl <| .yv (.load rfl Fx.agg2 (.tail _ <|
                          .tail _ <| .tail _ <| .tail _ <| .head _) rfl) rfl <| .yv (.build rfl (Fx.bld140_0_1_2 _ _ _)) rfl <| .bl rfl (Fx.bsl51_1 _ _ _) rfl fun b143 => .ap (news := [strV [121], .int .i64 (x.nm.toNat % 5 : Nat), .int .i64 x.n.toInt]) Fx.row51 rfl (fun _ => (.tail <|
                          .tail <| .head)) rfl (.box (.head _) (fun j u h => by rw [Nat.zero_add]; exact h)) rfl (by simp [Value.oneCell', strV]) (by simp [maxLen]; omega) (by omega) rfl fun r144 _ => ?_
                        refine At.ra (.tail _ <| .tail _ <| .head _) fun p144 c144 e144 => ?_
                        subst e144
                        exact .yv (.fieldAddr rfl Fx.field54_1) rfl <| .st (.tail <| .tail <| .tail <| .head) rfl rfl Fx.size51 rfl (Nat.le_of_ble_eq_true rfl) rfl <| .nl <| .bN <| .tN <|
                          .me (H, f, _, ⟨nm0, vs0 ++ [⟨[121], UInt8.ofNat (x.nm.toNat % 5), x.n⟩], vr0⟩, _, _, _, _) trivial ⟨rfl, rfl, rfl, rfl, rfl, trivial⟩ (fun _ s => by rw [show (vs0 ++ [⟨[121], UInt8.ofNat (x.nm.toNat % 5), x.n⟩] : List Vr).length = vs0.length + 1 by simp]; exact (s.pick [2, 1, 3, 6, 5, 4] _ rfl rfl)) ⟨.refl, h, hok.mono (by omega), Nat.le_refl _, n0, (by rw [List.map_append]; exact hz37.snoc (yvar_shut _ _) rfl), hz41, ⟨by show (vs0 ++ [_]).length ≤ _; have : vs0.length ≤ N := ok0.vars; simp; omega, (ok0.mono (M := N + 100) (by omega)).vers, (ok0.mono (M := N + 100) (by omega)).all⟩⟩
                      · skip
                        refine .sq <| .rg <| .yv (.eql rfl rfl) rfl <| .a rfl rfl <| .nl <| .tN <| .cd rfl (fun h146 => ?_) (fun h146 => ?_)
                        · skip
                          refine .rg <| .yv (.fieldAddr rfl Fx.field54_2) rfl <| .st (.tail <| .tail <| .head) rfl rfl Fx.size52 rfl (Nat.le_of_ble_eq_true rfl) rfl <| ?_
                          refine Sx.row0 55 1 ?_
                          exact .nl <| .bN <| .tN <| .me (H, f, _, ⟨nm0, vs0, []⟩, _, _, _, _) trivial ⟨rfl, rfl, rfl, rfl, rfl, trivial⟩ (fun _ s => s.pick [2, 0, 3, 6, 5, 4] [_, _, _, _, _, _] rfl rfl) ⟨.refl, h, hok.mono (by omega), Nat.le_refl _, n0, hz37, .nil, ⟨(ok0.mono (M := N + 100) (by omega)).vars, by simp, fun _ h => by cases h⟩⟩
                        · skip
                          refine .sq <| .rg <| .yv (.eql rfl rfl) rfl <| .a rfl rfl <| .nl <| .tN <| .cd rfl (fun h149 => ?_) (fun h149 => ?_)
                          · skip
                            refine .sq <| .rg <| .a rfl rfl <| .nl <| .tN <| .bk <| .pm [0, 2, 1, 3, 4, 5] [_, _, _, _, _, _] rfl rfl <| .lp (X := Nat × Value × List Value) [(2, _), (3, _), (4, _), (5, _), (7, _), (8, _)] ⟨rfl, rfl, rfl, rfl, rfl, rfl, trivial⟩ [_, _, _, _] (fun z => [(13, .int .i64 (z.1 : Nat))]) (fun z => H) (fun z => [.row 55 1 z.2.1 (vr0.length + z.1) z.2.2, .box b8 [strV nm0, .slice p37 vs0.length c37, z.2.1] 54]) (fun z => z.1 ≤ m ∧ RepZ H 1 ((vr0 ++ List.replicate z.1 []).map (dVs .i64)) z.2.2) (fun z => m - z.1) (0, _, _) (fun _ s => s) ⟨rfl, trivial⟩ ⟨by simp, by simpa using hz41⟩ fun z hC => ?_
                            obtain ⟨j, rv, ys⟩ := z
                            dsimp only at hC ⊢
                            obtain ⟨hj0, hzv⟩ := hC
                            refine .sq <| .sq <| .rg <| .m rfl rfl <| .m rfl rfl <| .yv (.lss rfl rfl) rfl <| .nl <| .tN <| .cd rfl (fun h153 => ?_) (fun h153 => ?_)
                            · try simp only [decide_eq_true_eq] at h153
                              have hj : j < m := by omega
                              refine .sk <| .tN <| .sq <| .bk <| .rg <| .yv (.fieldAddr rfl Fx.field54_2) rfl <| .yv (.load rfl Fx.agg52 (.tail _ <| .head _) rfl) rfl <| .bl rfl (Fx.bsl52_1 _ _ _) rfl fun b158 => .ap (news := [.slice none 0 0]) Fx.row52 rfl (fun _ => (.tail <|
                                .head)) rfl (.box (.head _) (fun j u h => by rw [Nat.zero_add]; exact h)) rfl (by simp [Value.oneCell', strV]) (by simp [maxLen]; omega) (by omega) rfl fun r159 _ => ?_
                              refine At.ra (.tail _ <| .head _) fun p159 c159 e159 => ?_
                              exact .yv (.fieldAddr rfl Fx.field54_2) rfl <| .st (.tail <| .tail <| .head) rfl rfl Fx.size52 (by rw [e159]; rfl) (Nat.le_of_ble_eq_true rfl) rfl <| .nl <| .bN <|
                                .tN <| .rg <| .m rfl rfl <| .yv (.add rfl rfl (w64 (by omega) (by omega))) rfl <| .a rfl rfl <| .nl <| .tN <| .ag (x := (j, rv, ys)) (j + 1, r159, ys ++ [.slice none 0 0]) ⟨rfl, trivial⟩ ⟨rfl, rfl, rfl, rfl, rfl, rfl, trivial⟩ (fun _ s => (s.pick [1, 2, 3, 4, 5, 6] _ rfl rfl)) ⟨by dsimp only; omega, by dsimp only; rw [List.replicate_succ', ← List.append_assoc, List.map_append]; exact hzv.snoc (Rep.empty (by decide)) rfl⟩ (by dsimp only; omega)
                            · try simp only [decide_eq_false_iff_not] at h153
                              obtain rfl : m = j := by omega
                              exact .ex <| .tE <| .tE <| .bE <| .bN <| .tN <| .me (H, f, _, ⟨nm0, vs0, vr0 ++ List.replicate m []⟩, _, _, _, _) trivial ⟨rfl, rfl, rfl, rfl, rfl, trivial⟩ (fun _ s => by rw [show (vr0 ++ List.replicate m ([] : List Hd)).length = vr0.length + m by simp]; exact (s.pick [2, 0, 1, 5, 4, 3] _ rfl rfl)) ⟨.refl, h, hok.mono (by omega), Nat.le_refl _, n0, hz37, hzv, ⟨(ok0.mono (M := N + 100) (by omega)).vars, by show (vr0 ++ _).length ≤ _; have : vr0.length ≤ N := ok0.vers; simp; omega, fun v hv => (List.mem_append.1 hv).elim ((ok0.mono (M := N + 100) (by omega)).all v) (fun hv => by rw [List.eq_of_mem_replicate hv]; exact .nil)⟩⟩
                          · skip
                            exact .sk <| .bN <| .tN <| .me (H, f, _, ⟨nm0, vs0, vr0⟩, _, _, _, _) trivial ⟨rfl, rfl, rfl, rfl, rfl, trivial⟩ (fun _ s => s.pick [1, 0, 2, 5, 4, 3] [_, _, _, _, _, _] rfl rfl) ⟨.refl, h, hok.mono (by omega), Nat.le_refl _, n0, hz37, hz41, ok0.mono (by omega)⟩
      ·
        obtain ⟨H1, f1, cs1, c1, rv, xv, rs, xs⟩ := z
        dsimp only at hC ⊢
        obtain ⟨u1, hf1, okf, hle, nc, hzv, hzs, okc⟩ := hC
        obtain ⟨p11, c11, p12, c12, p13, c13, rfl, nf1, kf1, kf2, kf3⟩ := ft_open hf1
        have hi1 : i < f1.comps.length := by omega
        refine At.ra (.head _) fun p177 c177 e177 => ?_
        subst e177
        refine At.ra (.tail _ (.head _)) fun p178 c178 e178 => ?_
        subst e178
        have hvl1 : c1.vers.length ≤ N + 100 := okc.vers
        have hcl1 := okf.comps
        refine .cu (X := Hp × Cp × List Value) [(2, _), (3, _), (4, _), (7, _), (8, _)] ⟨rfl, rfl, rfl, rfl, rfl, trivial⟩ (fun z => []) (fun z => z.1) (fun z => [.box b8 z.2.2 54, .box b2 [strV f1.nm, .slice p11 f1.flags.length c11, .slice p12 f1.links.length c12, .slice p13 f1.comps.length c13] 49, .box b3 [.int .u8 x.wh.toNat, .int .u8 x.i.toNat, .int .u8 x.nm.toNat, .int .i64 x.n.toInt, .slice pN x.nodes.length cN] 101, .box b4 [.string ⟨#[]⟩, .slice none 0 0, .slice none 0 0, .slice none 0 0] 49]) (fun z => HUp w H1 z.1 ∧ Rep z.1 (dCp .i64 z.2.1) z.2.2 ∧ okCp (2 * (N + 100) + 100) z.2.1) ?_ fun z hC => ?_
        ·
          refine .sq <| .rg <| .yv (.fieldAddr rfl Fx.field101_0) rfl <| .yv (.load rfl Fx.agg5 (.tail _ <| .tail _ <| .tail _ <| .tail _ <| .head _) rfl) rfl <| .yv (.rem rfl rfl (by decide) (c := ((x.wh.toNat % 26 : Nat) : Int)) (by rw [Int.tmod_eq_emod_of_nonneg (by omega)]; omega)) rfl <|
            .yv (.gtr rfl rfl) rfl <| .m rfl rfl <| .b2 (fun h165 => ?_) (fun h165 => ?_)
          · skip
            refine .gd rfl rfl <| .yv (.fieldAddr rfl Fx.field54_2) rfl <| .gd rfl rfl <| .yv (.load rfl Fx.agg52 (.tail _ <| .tail _ <| .head _) rfl) rfl <| .gd rfl rfl <|
              .yv (.lenSl Fx.sl52 rfl) rfl <| .gd rfl rfl <| .yv (.gtr rfl rfl) rfl <| .yv (.pickT rfl rfl) rfl <| .m rfl rfl <| .b2 (fun h171 => ?_) (fun h171 => ?_)
            · try simp only [decide_eq_true_eq] at h171
              have hv0 : 0 < c1.vers.length := by omega
              refine At.rs (.tail _ (.head _)) hv0 fun gS cS eS => ?_
              obtain ⟨rfl, rfl⟩ := sl_inj eS
              obtain ⟨cV, rV, lV, mV⟩ := hzs.at (i := 0) (map_at (f := dVs .i64) hv0)
              have okv := okc.all _ (List.getElem_mem hv0)
              generalize hl0 : c1.vers[0] = l0 at rV okv
              obtain ⟨pz, cz, rfl, rz⟩ := vs_open rV
              have hmz : xs[0]? = some (.slice pz l0.length cz) := mV 0 _ rfl
              refine .gd rfl rfl <| .yv (.fieldAddr rfl Fx.field54_2) rfl <| .gd rfl rfl <| .yv (.load rfl Fx.agg52 (.tail _ <| .tail _ <| .head _) rfl) rfl <| .gd rfl rfl <|
                .yv (.indexSl Fx.sl52 rfl rfl (i := 0) rfl hv0 (q := 0) rfl) rfl <| .gd rfl rfl <| .yv (.loadSrc rfl Fx.agg55 (.row (.tail _ <| .head _) (one_at hmz))) rfl <|
                .gd rfl rfl <| .yv (.lenSl Fx.sl55 rfl) rfl <| .gd rfl rfl <| .yv (.gtr rfl rfl) rfl <| .yv (.pickT rfl rfl) rfl <| .nl <| .tN <| .cd rfl (fun h178 => ?_) (fun h178 => ?_)
              · try simp only [decide_eq_true_eq] at h178
                have hl0p : 0 < l0.length := by omega
                refine At.pm [1, 0, 2, 3, 4, 5] [_, _, _, _, _, _] rfl rfl ?_
                refine At.rc hv0 fun moreS hcS1 hcS2 => ?_
                refine .fl (trip := [(_, _, _), (_, _, _), (_, _, _), (_, _, _), (_, _, _), (_, _, _), (_, _, _), (_, _, _)]) 8 [(0, 0), (1, 0), (2, 0), (3, 0), (4, 0), (5, 0), (6, 0), (7, 1)] (by kernel_rfl) (by kernel_rfl) rfl <|
                  .yv (.fieldAddr rfl Fx.field54_2) rfl <| .yv (.load rfl Fx.agg52 (.tail _ <| .tail _ <| .head _) rfl) rfl <| .yv (.fieldAddr rfl Fx.field54_2) rfl <| .yv (.load rfl Fx.agg52 (.tail _ <|
                  .tail _ <| .head _) rfl) rfl <| .yv (.indexSl Fx.sl52 rfl rfl (i := 0) rfl hv0 (q := 0) rfl) rfl <| .yv (.load (v := .slice pz l0.length cz) rfl Fx.agg55 (.head _) (get_app hmz)) rfl <|
                  .yv (.loadW rfl Fx.agg101 (.tail _ <| .tail _ <| .tail _ <| .tail _ <| .head _) rfl) rfl <| .ct (X := Value) Fx.call58 rfl (fun W s => handlersOf_any H1 l0 x _ _ (N + 100) (by omega) W rz (hX.up u1.up) hl0p okv s.agr) rfl fun v186 H186 hc186 u186 => ?_
                obtain ⟨l2, hl2, okl2⟩ := hc186
                obtain ⟨pl2, cl2, el2, _⟩ := hl2.sl
                simp only [List.cons.injEq, and_true, List.length_map] at el2
                subst el2
                refine .fn (tl := [_, _]) rfl <| .yv (.indexSl Fx.sl52 rfl rfl (i := 0) rfl hv0 (q := 0) rfl) rfl <| .st (l' := ((xs ++ moreS).set 0 (.slice pl2 l2.length cl2))) .head rfl rfl Fx.size55 rfl (by rw [List.length_append, hzs.len, List.length_map]; omega) rfl <|
                  ?_
                refine Sx.freezeBox fun HS uS mS0 => ?_
                have mS1 : MemAt HS gS 0 (setsL xs (0 * 1) [.slice pl2 l2.length cl2] ++ moreS) := by rw [← setsL_app [.slice pl2 l2.length cl2] xs moreS (0 * 1) (by rw [hzs.len, List.length_map]; simp; omega)]; exact mS0
                have hSx0 : Rep HS (.seq 1 ((c1.vers.set 0 l2).map (dVs .i64))) [.slice (some ⟨gS, 0, none⟩) c1.vers.length c178] := Rep.mk mS1.pre (by rw [List.map_set]; exact RepZ.put (i := 0) (hl2.up uS.up) rfl (hzs.up (u186.trans uS).up) (by simpa using hv0)) (by simp) hcS1 hcS2
                refine Sx.freezeSeq (ds := c1.vars.map (dVr .i64)) (by simp) (hzv.up (u186.trans uS).up) fun HV pV cV uV eV hV => ?_
                obtain ⟨rfl, rfl⟩ := sl_inj eV
                have uu := u186.trans (uS.trans uV)
                have hSx := hSx0.up uV.up
                exact .nl <| .tN <| .me (HV, ⟨c1.nm, c1.vars, c1.vers.set 0 l2⟩, _) trivial ⟨rfl, rfl, rfl, rfl, rfl, trivial⟩ (fun _ s => s) ⟨uu, cp_shut (x := ⟨c1.nm, c1.vars, c1.vers.set 0 l2⟩) nc hV hSx, okC_set okc okl2⟩
              · skip
                refine .sk <| .tN <| ?_
                refine At.pm [1, 0, 2, 3, 4, 5] [_, _, _, _, _, _] rfl rfl ?_
                refine Sx.freezeSeq (ds := c1.vers.map (dVs .i64)) (by simp) hzs fun HS pS cS uS eS hS0 => ?_
                obtain ⟨rfl, rfl⟩ := sl_inj eS
                refine Sx.freezeSeq (ds := c1.vars.map (dVr .i64)) (by simp) (hzv.up uS.up) fun HV pV cV uV eV hV => ?_
                obtain ⟨rfl, rfl⟩ := sl_inj eV
                have uu := uS.trans uV
                have hS := hS0.up uV.up
                exact .me (HV, c1, _) trivial ⟨rfl, rfl, rfl, rfl, rfl, trivial⟩ (fun _ s => s) ⟨uu, cp_shut nc hV hS, okc.mono (by omega)⟩
            · skip
              refine .gF rfl rfl rfl rfl <| .gF rfl rfl rfl rfl <| .gF rfl rfl rfl rfl <| .gF rfl rfl rfl rfl <| .gF rfl rfl rfl rfl <| .gF rfl rfl rfl rfl <| .yv (.pickF rfl rfl) rfl <|
                .nl <| .tN <| .cF rfl <| .sk <| .tN <| ?_
              refine At.pm [1, 0, 2, 3, 4, 5] [_, _, _, _, _, _] rfl rfl ?_
              refine Sx.freezeSeq (ds := c1.vers.map (dVs .i64)) (by simp) hzs fun HS pS cS uS eS hS0 => ?_
              obtain ⟨rfl, rfl⟩ := sl_inj eS
              refine Sx.freezeSeq (ds := c1.vars.map (dVr .i64)) (by simp) (hzv.up uS.up) fun HV pV cV uV eV hV => ?_
              obtain ⟨rfl, rfl⟩ := sl_inj eV
              have uu := uS.trans uV
              have hS := hS0.up uV.up
              exact .me (HV, c1, _) trivial ⟨rfl, rfl, rfl, rfl, rfl, trivial⟩ (fun _ s => s) ⟨uu, cp_shut nc hV hS, okc.mono (by omega)⟩
          · skip
            refine .gF rfl rfl rfl rfl <| .gF rfl rfl rfl rfl <| .gF rfl rfl rfl rfl <| .gF rfl rfl rfl rfl <| .yv (.pickF rfl rfl) rfl <| .m rfl rfl <| .gF rfl rfl rfl rfl <|
              .gF rfl rfl rfl rfl <| .gF rfl rfl rfl rfl <| .gF rfl rfl rfl rfl <| .gF rfl rfl rfl rfl <| .gF rfl rfl rfl rfl <| .yv (.pickF rfl rfl) rfl <| .nl <| .tN <| .cF rfl <|
              .sk <| .tN <| ?_
            refine At.pm [1, 0, 2, 3, 4, 5] [_, _, _, _, _, _] rfl rfl ?_
            refine Sx.freezeSeq (ds := c1.vers.map (dVs .i64)) (by simp) hzs fun HS pS cS uS eS hS0 => ?_
            obtain ⟨rfl, rfl⟩ := sl_inj eS
            refine Sx.freezeSeq (ds := c1.vars.map (dVr .i64)) (by simp) (hzv.up uS.up) fun HV pV cV uV eV hV => ?_
            obtain ⟨rfl, rfl⟩ := sl_inj eV
            have uu := uS.trans uV
            have hS := hS0.up uV.up
            exact .me (HV, c1, _) trivial ⟨rfl, rfl, rfl, rfl, rfl, trivial⟩ (fun _ s => s) ⟨uu, cp_shut nc hV hS, okc.mono (by omega)⟩
        ·
          obtain ⟨H2, c2, cs2⟩ := z
          dsimp only at hC ⊢
          obtain ⟨u2, hc2, okc2⟩ := hC
          refine .sq <| .sq <| .rg <| .yv (.fieldAddr rfl Fx.field101_0) rfl <| .yv (.load rfl Fx.agg5 (.tail _ <| .tail _ <| .head _) rfl) rfl <| .yv (.rem rfl rfl (by decide) (c := ((x.wh.toNat % 26 : Nat) : Int)) (by rw [Int.tmod_eq_emod_of_nonneg (by omega)]; omega)) rfl <|
            .yv (.gtr rfl rfl) rfl <| .nl <| .tN <| .cd rfl (fun h191 => ?_) (fun h191 => ?_)
          · skip
            refine .sq <| .rg <| .blR rfl Fx.bsl47_0 rfl (z := 3) rfl (by decide) fun g192 => .yv (.fieldAddr rfl Fx.field49_3) rfl <| .yv (.load rfl Fx.agg47 (.tail _ <| .tail _ <|
              .head _) rfl) rfl <| .apD0 Fx.row47 rfl (fun _ _ => .head) rfl (kf3.up u2.up) (by simp [maxLen]; omega) (by omega) rfl fun xs195 r195 hz195 => ?_
            refine At.ra (.head _) fun p195 c195 e195 => ?_
            refine .yv (.fieldAddr rfl Fx.field49_3) rfl <| .st (.tail <| .tail <| .head) rfl rfl Fx.size47 (by rw [e195]; rfl) (Nat.le_of_ble_eq_true rfl) rfl <| ?_
            refine At.rb (by omega) fun gB capB moreB eB hcB1 hcB2 => ?_
            subst eB
            refine .nl <| .tN <| .rg <| .yv (.fieldAddr rfl Fx.field49_3) rfl <| .yv (.load rfl Fx.agg47 (.tail _ <| .tail _ <| .head _) rfl) rfl <| .m rfl rfl <| .yv (.loadW rfl Fx.agg54 (.tail _ <|
              .head _) (cp_len hc2)) rfl <| .yv (.indexSl Fx.sl47 rfl rfl (i := i) rfl (by omega) (q := i * 3) (by omega)) rfl <| .sE (vs := cs2) .head rfl rfl (by rw [cp_len hc2]; exact Fx.size54) hc2.one (by rw [cp_len hc2, List.length_append, hz195.len, List.length_map]; omega) <|
              ?_
            refine Sx.freezeBox fun HB uB mB0 => ?_
            rw [setsL_app _ _ _ _ (by rw [cp_len hc2, hz195.len, List.length_map]; omega)] at mB0
            have hB : Rep HB (.seq 3 ((f1.comps.set i c2).map (dCp .i64))) [.slice (some ⟨gB, 0, none⟩) f1.comps.length capB] := Rep.mk mB0.pre (by rw [List.map_set]; exact RepZ.put (hc2.up uB.up) (cp_len hc2) (hz195.up uB.up) (by simpa using hi1)) (by simp) hcB1 hcB2
            refine .nl <| .tN <| .sq <| .rg <| .yv (.loadW rfl Fx.agg49 (.tail _ <| .head _) rfl) rfl <| .sW (.tail <| .tail <| .tail <| .head) rfl rfl Fx.size49 (by show ∀ u ∈ [_, _, _, _], Value.oneCell' u = true; simp [Value.oneCell', strV]) rfl <|
              .nl <| .tN <| .rt <| ?_
            exact Sx.ret1 (.inl rfl) rfl (.cell rfl Fx.agg49 (.tail _ <| .tail _ <| .tail _ <| .head _) rfl) fun W t => ⟨_, HB, ⟨⟨f1.nm, f1.flags, f1.links, f1.comps.set i c2⟩, ft_shut (x := ⟨f1.nm, f1.flags, f1.links, f1.comps.set i c2⟩) nf1 (kf1.up (u2.trans uB).up) (kf2.up (u2.trans uB).up) hB, okF_set okf okc2⟩, rfl, (u1.trans (u2.trans uB)).grow t⟩
          · skip
            refine .sk <| .tN <| .sq <| .rg <| .yv (.loadW rfl Fx.agg49 (.tail _ <| .head _) rfl) rfl <| .sW (.tail <| .tail <| .tail <| .head) rfl rfl Fx.size49 (by show ∀ u ∈ [_, _, _, _], Value.oneCell' u = true; simp [Value.oneCell', strV]) rfl <|
              .nl <| .tN <| .rt <| ?_
            exact Sx.ret1 (.inl rfl) rfl (.cell rfl Fx.agg49 (.tail _ <| .tail _ <| .tail _ <| .head _) rfl) fun W t => ⟨_, H2, ⟨f1, hf1.up u2.up, okf.mono (by omega)⟩, rfl, (u1.trans u2).grow t⟩
    ·
      refine .blR rfl Fx.bsl52_0 rfl (z := 1) rfl (by decide) fun g38 => .h1 <| .apD0 Fx.row51 rfl (fun _ _ => (.tail <| .head)) rfl g1 (by simp [maxLen]; omega) (by omega) rfl (fun _ _ => (.yv (.load rfl Fx.agg52 (.tail _ <|
        .tail _ <| .head _) rfl) <| .yv (.fieldAddr rfl Fx.field54_2) <| .done (by kernel_rfl) <| .yv (.fieldAddr rfl Fx.field54_1) <| .nl)) fun xs37 p37 c37 hz37 => .yv (.fieldAddr rfl Fx.field54_1) rfl <|
        .h1 <| .apD0 Fx.row52 rfl (fun _ _ => .head) rfl g2 (by simp [maxLen]; omega) (by omega) rfl (fun _ _ => (.yv (.fieldAddr rfl Fx.field54_1) <| .done (by kernel_rfl) <|
        .done (by kernel_rfl) <| .done (by kernel_rfl) <| .yv (.fieldAddr rfl Fx.field54_1) <| .nl)) fun xs41 p41 c41 hz41 => .fn (tl := [_, _, _]) rfl <| .st (.tail <|
        .tail <| .head) rfl rfl Fx.size51 rfl (Nat.le_of_ble_eq_true rfl) rfl <| .yv (.fieldAddr rfl Fx.field54_2) rfl <| .st (.tail <| .tail <| .head) rfl rfl Fx.size52 rfl (Nat.le_of_ble_eq_true rfl) rfl <|
        .nl <| .tN <| .cu (X := Hp × Ft × List Value × Cp × Value × List Value × Value × List Value) [(2, _), (3, _), (4, _), (7, _), (8, _)] ⟨rfl, rfl, rfl, rfl, rfl, trivial⟩ (fun z => []) (fun z => z.1) (fun z => [.row 140 3 z.2.2.2.2.1 z.2.2.2.1.vars.length z.2.2.2.2.2.1, .row 55 1 z.2.2.2.2.2.2.1 z.2.2.2.1.vers.length z.2.2.2.2.2.2.2, .box b8 [strV z.2.2.2.1.nm, z.2.2.2.2.1, z.2.2.2.2.2.2.1] 54, .box b2 z.2.2.1 49, .box b3 [.int .u8 x.wh.toNat, .int .u8 x.i.toNat, .int .u8 x.nm.toNat, .int .i64 x.n.toInt, .slice pN x.nodes.length cN] 101, .box b4 [.string ⟨#[]⟩, .slice none 0 0, .slice none 0 0, .slice none 0 0] 49]) (fun z => HUp w H z.1 ∧ Rep z.1 (dFt .i64 z.2.1) z.2.2.1 ∧ okFt (N + 100) z.2.1 ∧ f.comps.length ≤ z.2.1.comps.length ∧ z.2.2.2.1.nm.length ≤ 1000000 ∧ RepZ z.1 3 (z.2.2.2.1.vars.map (dVr .i64)) z.2.2.2.2.2.1 ∧ RepZ z.1 1 (z.2.2.2.1.vers.map (dVs .i64)) z.2.2.2.2.2.2.2 ∧ okCp (N + 100) z.2.2.2.1) ?_ fun z hC => ?_
      ·
        refine .sq <| .rg <| .yv (.fieldAddr rfl Fx.field101_0) rfl <| .yv (.load rfl Fx.agg5 (.tail _ <| .tail _ <| .tail _ <| .tail _ <| .head _) rfl) rfl <| .yv (.rem rfl rfl (by decide) (c := ((x.wh.toNat % 26 : Nat) : Int)) (by rw [Int.tmod_eq_emod_of_nonneg (by omega)]; omega)) rfl <|
          .nl <| .tN <| .bk <| .sq <| .rg <| .yv (.eql rfl rfl) rfl <| .a rfl rfl <| .nl <| .tN <| .cd rfl (fun h47 => ?_) (fun h47 => ?_)
        · skip
          exact .rg <| .m rfl rfl <| .yv (.fieldAddr rfl Fx.field49_0) rfl <| .st (.tail <| .tail <| .tail <| .tail <| .tail <| .head) rfl rfl Fx.size9 rfl (Nat.le_of_ble_eq_true rfl) rfl <|
            .nl <| .bN <| .tN <| .me (H, ⟨wordR x.nm, f.flags, f.links, f.comps⟩, _, ⟨nm0, vs0, vr0⟩, _, _, _, _) trivial ⟨rfl, rfl, rfl, rfl, rfl, trivial⟩ (fun _ s => s.pick [1, 0, 2, 5, 4, 3] [_, _, _, _, _, _] rfl rfl) ⟨.refl, ft_shut (x := ⟨wordR x.nm, f.flags, f.links, f.comps⟩) (Nat.le_trans (word_len _) (by decide)) k1 k2 k3, ⟨(hok.mono (M := N + 100) (by omega)).flags, (hok.mono (M := N + 100) (by omega)).links, (hok.mono (M := N + 100) (by omega)).comps, hok.pos, (hok.mono (M := N + 100) (by omega)).all⟩, Nat.le_refl _, n0, hz37, hz41, ok0.mono (by omega)⟩
        · skip
          refine .sq <| .rg <| .yv (.eql rfl rfl) rfl <| .a rfl rfl <| .nl <| .tN <| .cd rfl (fun h51 => ?_) (fun h51 => ?_)
          · skip
            refine .sq <| .rg <| .a rfl rfl <| .nl <| .tN <| .bk <| .pm [5, 0, 1, 2, 3, 4] [_, _, _, _, _, _] rfl rfl <| .lp (X := Nat × Hp × Option Addr × Nat × Nat) [(2, _), (3, _), (4, _), (5, _), (7, _), (8, _)] ⟨rfl, rfl, rfl, rfl, rfl, rfl, trivial⟩ [_, _, _, _, _] (fun z => [(9, .int .i64 (z.1 : Nat))]) (fun z => z.2.1) (fun z => [.box b2 [strV f.nm, .slice p1 f.flags.length c1, .slice p2 f.links.length c2, .slice z.2.2.1 z.2.2.2.1 z.2.2.2.2] 49]) (fun z => z.1 ≤ m ∧ HUp w H z.2.1 ∧ ∃ L : List Cp, L.length = f.comps.length + z.1 ∧ Rep z.2.1 (.seq 3 (L.map (dCp .i64))) [.slice z.2.2.1 z.2.2.2.1 z.2.2.2.2] ∧ ∀ c ∈ L, okCp N c) (fun z => m - z.1) (0, H, _, _, _) (fun _ s => s) ⟨rfl, trivial⟩ ⟨by simp, .refl, f.comps, by simp, k3, fun c m => (hok.all c m)⟩ fun z hC => ?_
            obtain ⟨j, H1, pp, pn, pc⟩ := z
            dsimp only at hC ⊢
            obtain ⟨hj0, uP, L, hL, hr, hall⟩ := hC
            have hpn := hr.len.1
            rw [List.length_map] at hpn
            have hrc := hr.cap
            refine .sq <| .sq <| .rg <| .m rfl rfl <| .m rfl rfl <| .yv (.lss rfl rfl) rfl <| .nl <| .tN <| .cd rfl (fun h55 => ?_) (fun h55 => ?_)
            · try simp only [decide_eq_true_eq] at h55
              have hj : j < m := by omega
              have hL0 : 0 < L.length := by have := hok.pos; omega
              obtain ⟨bF, oF, cF, hpF, rF, lF, mF⟩ := hr.elem (map_at (f := dCp .i64) hL0)
              cases hpF
              generalize hcx : L[0] = cx at rF
              obtain ⟨nmx, vsx, vrx⟩ := cx
              obtain ⟨qx1, dx1, qx2, dx2, rfl, nx0, kx1, kx2⟩ := cp_open rF
              dsimp only at mF
              refine .sk <| .tN <| .sq <| .bk <| .ft (p := .light _ _ (.light _ _ (.light _ _ (.light _ _ (.light _ _ (.light _ _ (.alt _ _ _ (.alt _ _ _ (.alt _ _ _ (.done) (.no)) (.alt _ _ _ (.alt _ _ _ (.done) (.no)) (.no))) (.alt _ _ _ (.alt _ _ _ (.alt _ _ _ (.done) (.no)) (.no)) (.no))))))))) 9 (.light 1 (.light 2 (.light 4 (.light 5 (.light 6 (.light 7 (.alt 0 0 (.alt 3 2 (.alt 8 0 (.done) (.no)) (.alt 8 0 (.alt 3 2 (.done) (.no)) (.no))) (.alt 8 0 (.alt 0 0 (.alt 3 2 (.done) (.no)) (.no)) (.no))))))))) (by kernel_rfl) (by kernel_rfl) rfl <|
                .yv (.fieldAddr rfl Fx.field49_3) rfl <| .yv (.load rfl Fx.agg47 (.head _) rfl) rfl <| .yv (.fieldAddr rfl Fx.field49_3) rfl <| .yv (.load rfl Fx.agg47 (.head _) rfl) rfl <|
                .yv (.indexSl Fx.sl47 rfl rfl (i := 0) rfl (by omega) (q := oF + 0 * 3) rfl) rfl <| .yv (.loadMW rfl Fx.agg54 mF rfl) rfl <| .h ?_ (.h ?_ .nn)
              ·
                refine .blR rfl Fx.bsl47_0 rfl (z := 3) rfl (by decide) fun g58 => .h ?_ (.h ?_ .nn)
                ·
                  refine .apD0 Fx.row47 rfl (fun _ _ => .head) rfl hr (by simp [maxLen]; omega) (by omega) rfl (fun _ _ => (.yv (.loadMW rfl Fx.agg54 mF rfl) <| .yv (.indexSl Fx.sl47 rfl rfl (i := 0) rfl (by omega) (q := oF + 0 * 3) rfl) <|
                    .yv (.load rfl Fx.agg47 (.tail _ <| .head _) rfl) <| .yv (.fieldAddr rfl Fx.field49_3) <| .done (by kernel_rfl) <| .done (by kernel_rfl) <| .nl)) fun xs61 p61 c61 hz61 => .h1 <|
                    .bl rfl (Fx.bsl47_1 _ _ _) rfl fun b66 => .fn (tl := [_, _, _]) rfl <| .ap (news := [strV nmx, .slice qx1 vsx.length dx1, .slice qx2 vrx.length dx2]) Fx.row47 rfl (fun _ => (.tail <|
                    .head)) rfl (.box (.head _) (fun j u h => by rw [Nat.zero_add]; exact h)) rfl (by simp [Value.oneCell', strV]) (by simp [maxLen]; omega) (by omega) rfl fun r67 _ => ?_
                  refine At.ra (.tail _ <| .head _) fun p67 c67 e67 => ?_
                  subst e67
                  refine .yv (.fieldAddr rfl Fx.field49_3) rfl <| .st (.tail <| .tail <| .head) rfl rfl Fx.size47 rfl (Nat.le_of_ble_eq_true rfl) rfl <| ?_
                  refine At.pm [1, 0, 2, 3, 4, 5, 6, 7] [_, _, _, _, _, _, _, _] rfl rfl ?_
                  refine Sx.freezeSeq (ds := (L ++ [L[0]]).map (dCp .i64)) (by simp <;> omega) (by rw [List.map_append, hcx]; exact hz61.snoc rF rfl) fun H2 p2 c2 u2 e2 h2 => ?_
                  obtain ⟨rfl, rfl⟩ := sl_inj e2
                  exact .nl <| .bN <| .tN <| .rg <| .m rfl rfl <| .yv (.add rfl rfl (w64 (by omega) (by omega))) rfl <| .a rfl rfl <| .nl <| .tN <| .ag (x := (j, H1, some ⟨bF, oF, none⟩, pn, pc)) (j + 1, H2, p67, pn + 1, c67) ⟨rfl, trivial⟩ ⟨rfl, rfl, rfl, rfl, rfl, rfl, trivial⟩ (fun _ s => (s.pick [1, 2, 3, 4, 5, 6] _ rfl rfl)) ⟨by dsimp only; omega, uP.trans u2, L ++ [L[0]], by simp; omega, h2, fun c m => (List.mem_append.1 m).elim (hall c) (fun m => by rw [List.mem_singleton.1 m]; exact hall _ (List.getElem_mem hL0))⟩ (by dsimp only; omega)
                ·
                  refine .bl rfl (Fx.bsl47_1 _ _ _) rfl fun b66 => .h1 <| .apD0 Fx.row47 rfl (fun _ _ => (.tail <| .head)) rfl hr (by simp [maxLen]; omega) (by omega) rfl (fun _ _ => (.yv (.loadMW rfl Fx.agg54 mF rfl) <|
                    .yv (.indexSl Fx.sl47 rfl rfl (i := 0) rfl (by omega) (q := oF + 0 * 3) rfl) <| .yv (.load rfl Fx.agg47 (.tail _ <| .tail _ <| .head _) rfl) <| .yv (.fieldAddr rfl Fx.field49_3) <|
                    .done (by kernel_rfl) <| .done (by kernel_rfl) <| .nl)) fun xs61 p61 c61 hz61 => .fn (tl := [_, _, _]) rfl <| .ap (news := [strV nmx, .slice qx1 vsx.length dx1, .slice qx2 vrx.length dx2]) Fx.row47 rfl (fun _ => (.tail <|
                    .head)) rfl (.box (.head _) (fun j u h => by rw [Nat.zero_add]; exact h)) rfl (by simp [Value.oneCell', strV]) (by simp [maxLen]; omega) (by omega) rfl fun r67 _ => ?_
                  refine At.ra (.tail _ <| .head _) fun p67 c67 e67 => ?_
                  subst e67
                  refine .yv (.fieldAddr rfl Fx.field49_3) rfl <| .st (.tail <| .tail <| .head) rfl rfl Fx.size47 rfl (Nat.le_of_ble_eq_true rfl) rfl <| ?_
                  refine At.pm [1, 0, 2, 3, 4, 5, 6, 7] [_, _, _, _, _, _, _, _] rfl rfl ?_
                  refine Sx.freezeSeq (ds := (L ++ [L[0]]).map (dCp .i64)) (by simp <;> omega) (by rw [List.map_append, hcx]; exact hz61.snoc rF rfl) fun H2 p2 c2 u2 e2 h2 => ?_
                  obtain ⟨rfl, rfl⟩ := sl_inj e2
                  exact .nl <| .bN <| .tN <| .rg <| .m rfl rfl <| .yv (.add rfl rfl (w64 (by omega) (by omega))) rfl <| .a rfl rfl <| .nl <| .tN <| .ag (x := (j, H1, some ⟨bF, oF, none⟩, pn, pc)) (j + 1, H2, p67, pn + 1, c67) ⟨rfl, trivial⟩ ⟨rfl, rfl, rfl, rfl, rfl, rfl, trivial⟩ (fun _ s => (s.pick [1, 2, 3, 4, 5, 6] _ rfl rfl)) ⟨by dsimp only; omega, uP.trans u2, L ++ [L[0]], by simp; omega, h2, fun c m => (List.mem_append.1 m).elim (hall c) (fun m => by rw [List.mem_singleton.1 m]; exact hall _ (List.getElem_mem hL0))⟩ (by dsimp only; omega)
              ·
                refine .bl rfl (Fx.bsl47_1 _ _ _) rfl fun b66 => .h1 <| .blR rfl Fx.bsl47_0 rfl (z := 3) rfl (by decide) fun g58 => .h1 <| .apD0 Fx.row47 rfl (fun _ _ => .head) rfl hr (by simp [maxLen]; omega) (by omega) rfl (fun _ _ => (.yv (.loadMW rfl Fx.agg54 mF rfl) <|
                  .yv (.indexSl Fx.sl47 rfl rfl (i := 0) rfl (by omega) (q := oF + 0 * 3) rfl) <| .yv (.load rfl Fx.agg47 (.tail _ <| .tail _ <| .head _) rfl) <| .yv (.fieldAddr rfl Fx.field49_3) <|
                  .done (by kernel_rfl) <| .done (by kernel_rfl) <| .nl)) fun xs61 p61 c61 hz61 => .fn (tl := [_, _, _]) rfl <| .ap (news := [strV nmx, .slice qx1 vsx.length dx1, .slice qx2 vrx.length dx2]) Fx.row47 rfl (fun _ => .head) rfl (.box (.tail _ <|
                  .head _) (fun j u h => by rw [Nat.zero_add]; exact h)) rfl (by simp [Value.oneCell', strV]) (by simp [maxLen]; omega) (by omega) rfl fun r67 _ => ?_
                refine At.ra (.head _) fun p67 c67 e67 => ?_
                subst e67
                refine .yv (.fieldAddr rfl Fx.field49_3) rfl <| .st (.tail <| .tail <| .head) rfl rfl Fx.size47 rfl (Nat.le_of_ble_eq_true rfl) rfl <| ?_
                refine Sx.freezeSeq (ds := (L ++ [L[0]]).map (dCp .i64)) (by simp <;> omega) (by rw [List.map_append, hcx]; exact hz61.snoc rF rfl) fun H2 p2 c2 u2 e2 h2 => ?_
                obtain ⟨rfl, rfl⟩ := sl_inj e2
                exact .nl <| .bN <| .tN <| .rg <| .m rfl rfl <| .yv (.add rfl rfl (w64 (by omega) (by omega))) rfl <| .a rfl rfl <| .nl <| .tN <| .ag (x := (j, H1, some ⟨bF, oF, none⟩, pn, pc)) (j + 1, H2, p67, pn + 1, c67) ⟨rfl, trivial⟩ ⟨rfl, rfl, rfl, rfl, rfl, rfl, trivial⟩ (fun _ s => (s.pick [1, 2, 3, 4, 5, 6] _ rfl rfl)) ⟨by dsimp only; omega, uP.trans u2, L ++ [L[0]], by simp; omega, h2, fun c m => (List.mem_append.1 m).elim (hall c) (fun m => by rw [List.mem_singleton.1 m]; exact hall _ (List.getElem_mem hL0))⟩ (by dsimp only; omega)
            · skip
              exact .ex <| .tE <| .tE <| .bE <| .bN <| .tN <| .me (H1, ⟨f.nm, f.flags, f.links, L⟩, _, ⟨nm0, vs0, vr0⟩, _, _, _, _) trivial ⟨rfl, rfl, rfl, rfl, rfl, trivial⟩ (fun _ s => s.pick [2, 1, 3, 0, 5, 4] [_, _, _, _, _, _] rfl rfl) ⟨uP, ft_shut (x := ⟨f.nm, f.flags, f.links, L⟩) n00 (k1.up uP.up) (k2.up uP.up) hr, ⟨(hok.mono (M := N + 100) (by omega)).flags, (hok.mono (M := N + 100) (by omega)).links, by show L.length ≤ _; have := hok.comps; omega, by show 0 < L.length; have := hok.pos; omega, fun c m => (hall c m).mono (by omega)⟩, (by show f.comps.length ≤ L.length; omega), n0, RepZ.up uP.up hz37, RepZ.up uP.up hz41, ok0.mono (by omega)⟩
          · skip
            refine .sq <| .rg <| .yv (.eql rfl rfl) rfl <| .a rfl rfl <| .nl <| .tN <| .cd rfl (fun h69 => ?_) (fun h69 => ?_)
            · skip
              refine .sq <| .rg <| .a rfl rfl <| .nl <| .tN <| .bk <| .pm [5, 0, 1, 2, 3, 4] [_, _, _, _, _, _] rfl rfl <| .lp (X := Nat × Hp × Option Addr × Nat × Nat) [(2, _), (3, _), (4, _), (5, _), (6, _), (7, _), (8, _)] ⟨rfl, rfl, rfl, rfl, rfl, rfl, rfl, trivial⟩ [_, _, _, _, _] (fun z => [(10, .int .i64 (z.1 : Nat))]) (fun z => z.2.1) (fun z => [.box b2 [strV f.nm, .slice z.2.2.1 z.2.2.2.1 z.2.2.2.2, .slice p2 f.links.length c2, .slice (some ⟨bE, oE, none⟩) f.comps.length c3] 49]) (fun z => z.1 ≤ m ∧ HUp w H z.2.1 ∧ ∃ L : List Fg, L.length = f.flags.length + z.1 ∧ Rep z.2.1 (.seq 2 (L.map dFg)) [.slice z.2.2.1 z.2.2.2.1 z.2.2.2.2]) (fun z => m - z.1) (0, H, _, _, _) (fun _ s => s) ⟨rfl, trivial⟩ ⟨by simp, .refl, f.flags, by simp, k1⟩ fun z hC => ?_
              obtain ⟨j, H1, pp, pn, pc⟩ := z
              dsimp only at hC ⊢
              obtain ⟨hj0, uP, L, hL, hr⟩ := hC
              have hpn := hr.len.1
              rw [List.length_map] at hpn
              have hrc := hr.cap
              refine .sq <| .sq <| .rg <| .m rfl rfl <| .m rfl rfl <| .yv (.lss rfl rfl) rfl <| .nl <| .tN <| .cd rfl (fun h73 => ?_) (fun h73 => ?_)
              · try simp only [decide_eq_true_eq] at h73
                have hj : j < m := by omega
                refine .sk <| .tN <| .sq <| .bk <| .rg <| .blR rfl Fx.bsl45_0 rfl (z := 2) rfl (by decide) fun g76 => .yv (.fieldAddr rfl Fx.field49_1) rfl <| .yv (.load rfl Fx.agg45 (.tail _ <|
                  .head _) rfl) rfl <| .apD0 Fx.row45 rfl (fun _ _ => .head) rfl hr (by simp [maxLen]; omega) (by omega) rfl fun xs79 r79 hz79 => .m rfl rfl <| .yv (.build rfl (Fx.bld134_0 _)) rfl <|
                  .bl rfl (Fx.bsl45_1 _ _) rfl fun b82 => .ap (news := [strV (wordR x.nm), .bool false]) Fx.row45 rfl (fun _ => (.tail <| .head)) rfl (.box (.head _) (fun j u h => by rw [Nat.zero_add]; exact h)) rfl (by simp [Value.oneCell', strV]) (by simp [maxLen]; omega) (by omega) rfl fun r83 _ => ?_
                refine At.ra (.tail _ <| .head _) fun p83 c83 e83 => ?_
                subst e83
                refine .yv (.fieldAddr rfl Fx.field49_1) rfl <| .st (.tail <| .tail <| .head) rfl rfl Fx.size45 rfl (Nat.le_of_ble_eq_true rfl) rfl <| ?_
                refine At.pm [1, 0, 2, 3, 4, 5, 6, 7] [_, _, _, _, _, _, _, _] rfl rfl ?_
                refine Sx.freezeSeq (ds := (L ++ [(⟨wordR x.nm, false⟩ : Fg)]).map dFg) (by simp <;> omega) (by rw [List.map_append]; exact hz79.snoc (fg_shut (x := ⟨wordR x.nm, false⟩) (Nat.le_trans (word_len _) (by decide))) rfl) fun H2 p2 c2 u2 e2 h2 => ?_
                obtain ⟨rfl, rfl⟩ := sl_inj e2
                exact .nl <| .bN <| .tN <| .rg <| .m rfl rfl <| .yv (.add rfl rfl (w64 (by omega) (by omega))) rfl <| .a rfl rfl <| .nl <| .tN <| .ag (x := (j, H1, pp, pn, pc)) (j + 1, H2, p83, pn + 1, c83) ⟨rfl, trivial⟩ ⟨rfl, rfl, rfl, rfl, rfl, rfl, rfl, trivial⟩ (fun _ s => (s.pick [1, 2, 3, 4, 5, 6] _ rfl rfl)) ⟨by dsimp only; omega, uP.trans u2, L ++ [⟨wordR x.nm, false⟩], by simp; omega, h2⟩ (by dsimp only; omega)
              · skip
                exact .ex <| .tE <| .tE <| .bE <| .bN <| .tN <| .me (H1, ⟨f.nm, L, f.links, f.comps⟩, _, ⟨nm0, vs0, vr0⟩, _, _, _, _) trivial ⟨rfl, rfl, rfl, rfl, rfl, trivial⟩ (fun _ s => s.pick [2, 1, 3, 0, 5, 4] [_, _, _, _, _, _] rfl rfl) ⟨uP, ft_shut (x := ⟨f.nm, L, f.links, f.comps⟩) n00 hr (k2.up uP.up) (k3.up uP.up), ⟨by show L.length ≤ _; have := hok.flags; omega, (hok.mono (M := N + 100) (by omega)).links, (hok.mono (M := N + 100) (by omega)).comps, hok.pos, (hok.mono (M := N + 100) (by omega)).all⟩, Nat.le_refl _, n0, RepZ.up uP.up hz37, RepZ.up uP.up hz41, ok0.mono (by omega)⟩
            · skip
              refine .sq <| .rg <| .yv (.eql rfl rfl) rfl <| .a rfl rfl <| .nl <| .tN <| .cd rfl (fun h85 => ?_) (fun h85 => ?_)
              · skip
                refine .sq <| .rg <| .a rfl rfl <| .nl <| .tN <| .bk <| .pm [5, 0, 1, 2, 3, 4] [_, _, _, _, _, _] rfl rfl <| .lp (X := Nat × Hp × Option Addr × Nat × Nat) [(2, _), (3, _), (4, _), (5, _), (6, _), (7, _), (8, _)] ⟨rfl, rfl, rfl, rfl, rfl, rfl, rfl, trivial⟩ [_, _, _, _, _] (fun z => [(11, .int .i64 (z.1 : Nat))]) (fun z => z.2.1) (fun z => [.box b2 [strV f.nm, .slice p1 f.flags.length c1, .slice z.2.2.1 z.2.2.2.1 z.2.2.2.2, .slice (some ⟨bE, oE, none⟩) f.comps.length c3] 49]) (fun z => z.1 ≤ 6 * m ∧ HUp w H z.2.1 ∧ ∃ L : List Lk, L.length = f.links.length + z.1 ∧ Rep z.2.1 (.seq 3 (L.map dLk)) [.slice z.2.2.1 z.2.2.2.1 z.2.2.2.2]) (fun z => 6 * m - z.1) (0, H, _, _, _) (fun _ s => s) ⟨rfl, trivial⟩ ⟨by simp, .refl, f.links, by simp, k2⟩ fun z hC => ?_
                obtain ⟨j, H1, pp, pn, pc⟩ := z
                dsimp only at hC ⊢
                obtain ⟨hj0, uP, L, hL, hr⟩ := hC
                have hpn := hr.len.1
                rw [List.length_map] at hpn
                have hrc := hr.cap
                refine .sq <| .sq <| .rg <| .m rfl rfl <| .m rfl rfl <| .yv (.mul rfl rfl (c := ((6 * m : Nat) : Int)) ((w64 (by omega) (by omega)).trans (by omega))) rfl <| .yv (.lss rfl rfl) rfl <|
                  .nl <| .tN <| .cd rfl (fun h90 => ?_) (fun h90 => ?_)
                · try simp only [decide_eq_true_eq] at h90
                  have hj : j < 6 * m := by omega
                  refine .sk <| .tN <| .sq <| .bk <| .rg <| .blR rfl Fx.bsl46_0 rfl (z := 3) rfl (by decide) fun g93 => .yv (.fieldAddr rfl Fx.field49_2) rfl <| .yv (.load rfl Fx.agg46 (.tail _ <|
                    .head _) rfl) rfl <| .apD0 Fx.row46 rfl (fun _ _ => .head) rfl hr (by simp [maxLen]; omega) (by omega) rfl fun xs96 r96 hz96 => .m rfl rfl <| .yv (.build rfl (Fx.bld135_0_1_2 _ _ _)) rfl <|
                    .bl rfl (Fx.bsl46_1 _ _ _) rfl fun b99 => .ap (news := [strV [97], strV (wordR x.nm), .int .i64 1]) Fx.row46 rfl (fun _ => (.tail <| .head)) rfl (.box (.head _) (fun j u h => by rw [Nat.zero_add]; exact h)) rfl (by simp [Value.oneCell', strV]) (by simp [maxLen]; omega) (by omega) rfl fun r100 _ => ?_
                  refine At.ra (.tail _ <| .head _) fun p100 c100 e100 => ?_
                  subst e100
                  refine .yv (.fieldAddr rfl Fx.field49_2) rfl <| .st (.tail <| .tail <| .head) rfl rfl Fx.size46 rfl (Nat.le_of_ble_eq_true rfl) rfl <| ?_
                  refine At.pm [1, 0, 2, 3, 4, 5, 6, 7] [_, _, _, _, _, _, _, _] rfl rfl ?_
                  refine Sx.freezeSeq (ds := (L ++ [(⟨[97], wordR x.nm, 1⟩ : Lk)]).map dLk) (by simp <;> omega) (by rw [List.map_append]; exact hz96.snoc (lk_shut (x := ⟨[97], wordR x.nm, 1⟩) (show [(97 : UInt8)].length ≤ 1000000 by decide) (Nat.le_trans (word_len _) (by decide))) rfl) fun H2 p2 c2 u2 e2 h2 => ?_
                  obtain ⟨rfl, rfl⟩ := sl_inj e2
                  exact .nl <| .bN <| .tN <| .rg <| .m rfl rfl <| .yv (.add rfl rfl (w64 (by omega) (by omega))) rfl <| .a rfl rfl <| .nl <| .tN <| .ag (x := (j, H1, pp, pn, pc)) (j + 1, H2, p100, pn + 1, c100) ⟨rfl, trivial⟩ ⟨rfl, rfl, rfl, rfl, rfl, rfl, rfl, trivial⟩ (fun _ s => (s.pick [1, 2, 3, 4, 5, 6] _ rfl rfl)) ⟨by dsimp only; omega, uP.trans u2, L ++ [⟨[97], wordR x.nm, 1⟩], by simp; omega, h2⟩ (by dsimp only; omega)
                · skip
                  exact .ex <| .tE <| .tE <| .bE <| .bN <| .tN <| .me (H1, ⟨f.nm, f.flags, L, f.comps⟩, _, ⟨nm0, vs0, vr0⟩, _, _, _, _) trivial ⟨rfl, rfl, rfl, rfl, rfl, trivial⟩ (fun _ s => s.pick [2, 1, 3, 0, 5, 4] [_, _, _, _, _, _] rfl rfl) ⟨uP, ft_shut (x := ⟨f.nm, f.flags, L, f.comps⟩) n00 (k1.up uP.up) hr (k3.up uP.up), ⟨(hok.mono (M := N + 100) (by omega)).flags, by show L.length ≤ _; have := hok.links; omega, (hok.mono (M := N + 100) (by omega)).comps, hok.pos, (hok.mono (M := N + 100) (by omega)).all⟩, Nat.le_refl _, n0, RepZ.up uP.up hz37, RepZ.up uP.up hz41, ok0.mono (by omega)⟩
              · skip
                refine .sq <| .rg <| .yv (.eql rfl rfl) rfl <| .a rfl rfl <| .nl <| .tN <| .cd rfl (fun h102 => ?_) (fun h102 => ?_)
                · skip
                  refine .ft (p := .light _ _ (.light _ _ (.light _ _ (.light _ _ (.light _ _ (.alt _ _ _ (.alt _ _ _ (.alt _ _ _ (.done) (.no)) (.alt _ _ _ (.alt _ _ _ (.done) (.no)) (.no))) (.alt _ _ _ (.alt _ _ _ (.alt _ _ _ (.done) (.no)) (.no)) (.no)))))))) 8 (.light 1 (.light 2 (.light 4 (.light 5 (.light 6 (.alt 0 0 (.alt 3 2 (.alt 7 0 (.done) (.no)) (.alt 7 0 (.alt 3 2 (.done) (.no)) (.no))) (.alt 7 0 (.alt 0 0 (.alt 3 2 (.done) (.no)) (.no)) (.no)))))))) (by kernel_rfl) (by kernel_rfl) rfl <|
                    .yv (.fieldAddr rfl Fx.field49_2) rfl <| .yv (.load rfl Fx.agg46 (.tail _ <| .tail _ <| .tail _ <| .tail _ <| .tail _ <| .head _) rfl) rfl <| .yv (.fieldAddr rfl Fx.field101_3) rfl <|
                    .yv (.load rfl Fx.agg2 (.tail _ <| .tail _ <| .tail _ <| .tail _ <| .head _) rfl) rfl <| .yv (.build rfl (Fx.bld135_0_1_2 _ _ _)) rfl <| .h ?_ (.h ?_ .nn)
                  ·
                    refine .blR rfl Fx.bsl46_0 rfl (z := 3) rfl (by decide) fun g104 => .h ?_ (.h ?_ .nn)
                    ·
                      refine .apD0 Fx.row46 rfl (fun _ _ => .head) rfl k2 (by simp [maxLen]; omega) (by omega) rfl (fun _ _ => (.yv (.build rfl (Fx.bld135_0_1_2 _ _ _)) <| .yv (.load rfl Fx.agg2 (.tail _ <|
                        .tail _ <| .tail _ <| .tail _ <| .tail _ <| .head _) rfl) <| .yv (.fieldAddr rfl Fx.field101_3) <| .done (by kernel_rfl) <| .done (by kernel_rfl) <| .nl)) fun xs107 p107 c107 hz107 => .h1 <|
                        .bl rfl (Fx.bsl46_1 _ _ _) rfl fun b111 => .fn (tl := [_, _, _]) rfl <| .ap (news := [strV [97], strV [97], .int .i64 x.n.toInt]) Fx.row46 rfl (fun _ => (.tail <|
                        .head)) rfl (.box (.head _) (fun j u h => by rw [Nat.zero_add]; exact h)) rfl (by simp [Value.oneCell', strV]) (by simp [maxLen]; omega) (by omega) rfl fun r112 _ => ?_
                      refine At.ra (.tail _ <| .head _) fun p112 c112 e112 => ?_
                      subst e112
                      refine .yv (.fieldAddr rfl Fx.field49_2) rfl <| .st (.tail <| .tail <| .tail <| .tail <| .tail <| .tail <| .tail <| .head) rfl rfl Fx.size46 rfl (Nat.le_of_ble_eq_true rfl) rfl <|
                        ?_
                      refine At.pm [1, 0, 2, 3, 4, 5, 6, 7] [_, _, _, _, _, _, _, _] rfl rfl ?_
                      refine Sx.freezeSeq (ds := (f.links ++ [(⟨[97], [97], x.n⟩ : Lk)]).map dLk) (by simp <;> omega) (by rw [List.map_append]; exact hz107.snoc (lk_shut (x := ⟨[97], [97], x.n⟩) (show [(97 : UInt8)].length ≤ 1000000 by decide) (show [(97 : UInt8)].length ≤ 1000000 by decide)) rfl) fun H2 p2 c2 u2 e2 h2 => ?_
                      obtain ⟨rfl, rfl⟩ := sl_inj e2
                      exact .nl <| .bN <| .tN <| .me (H2, ⟨f.nm, f.flags, f.links ++ [⟨[97], [97], x.n⟩], f.comps⟩, _, ⟨nm0, vs0, vr0⟩, _, _, _, _) trivial ⟨rfl, rfl, rfl, rfl, rfl, trivial⟩ (fun _ s => s.pick [2, 1, 3, 6, 5, 4] [_, _, _, _, _, _] rfl rfl) ⟨u2, ft_shut (x := ⟨f.nm, f.flags, f.links ++ [⟨[97], [97], x.n⟩], f.comps⟩) n00 (k1.up u2.up) h2 (k3.up u2.up), ⟨(hok.mono (M := N + 100) (by omega)).flags, by show (f.links ++ [_]).length ≤ _; have := hok.links; rw [List.length_append, List.length_singleton]; omega, (hok.mono (M := N + 100) (by omega)).comps, hok.pos, (hok.mono (M := N + 100) (by omega)).all⟩, Nat.le_refl _, n0, RepZ.up u2.up hz37, RepZ.up u2.up hz41, ok0.mono (by omega)⟩
                    ·
                      refine .bl rfl (Fx.bsl46_1 _ _ _) rfl fun b111 => .h1 <| .apD0 Fx.row46 rfl (fun _ _ => (.tail <| .head)) rfl k2 (by simp [maxLen]; omega) (by omega) rfl (fun _ _ => (.yv (.build rfl (Fx.bld135_0_1_2 _ _ _)) <|
                        .yv (.load rfl Fx.agg2 (.tail _ <| .tail _ <| .tail _ <| .tail _ <| .tail _ <| .tail _ <| .head _) rfl) <| .yv (.fieldAddr rfl Fx.field101_3) <| .done (by kernel_rfl) <|
                        .done (by kernel_rfl) <| .nl)) fun xs107 p107 c107 hz107 => .fn (tl := [_, _, _]) rfl <| .ap (news := [strV [97], strV [97], .int .i64 x.n.toInt]) Fx.row46 rfl (fun _ => (.tail <|
                        .head)) rfl (.box (.head _) (fun j u h => by rw [Nat.zero_add]; exact h)) rfl (by simp [Value.oneCell', strV]) (by simp [maxLen]; omega) (by omega) rfl fun r112 _ => ?_
                      refine At.ra (.tail _ <| .head _) fun p112 c112 e112 => ?_
                      subst e112
                      refine .yv (.fieldAddr rfl Fx.field49_2) rfl <| .st (.tail <| .tail <| .tail <| .tail <| .tail <| .tail <| .tail <| .head) rfl rfl Fx.size46 rfl (Nat.le_of_ble_eq_true rfl) rfl <|
                        ?_
                      refine At.pm [1, 0, 2, 3, 4, 5, 6, 7] [_, _, _, _, _, _, _, _] rfl rfl ?_
                      refine Sx.freezeSeq (ds := (f.links ++ [(⟨[97], [97], x.n⟩ : Lk)]).map dLk) (by simp <;> omega) (by rw [List.map_append]; exact hz107.snoc (lk_shut (x := ⟨[97], [97], x.n⟩) (show [(97 : UInt8)].length ≤ 1000000 by decide) (show [(97 : UInt8)].length ≤ 1000000 by decide)) rfl) fun H2 p2 c2 u2 e2 h2 => ?_
                      obtain ⟨rfl, rfl⟩ := sl_inj e2
                      exact .nl <| .bN <| .tN <| .me (H2, ⟨f.nm, f.flags, f.links ++ [⟨[97], [97], x.n⟩], f.comps⟩, _, ⟨nm0, vs0, vr0⟩, _, _, _, _) trivial ⟨rfl, rfl, rfl, rfl, rfl, trivial⟩ (fun _ s => s.pick [2, 1, 3, 6, 5, 4] [_, _, _, _, _, _] rfl rfl) ⟨u2, ft_shut (x := ⟨f.nm, f.flags, f.links ++ [⟨[97], [97], x.n⟩], f.comps⟩) n00 (k1.up u2.up) h2 (k3.up u2.up), ⟨(hok.mono (M := N + 100) (by omega)).flags, by show (f.links ++ [_]).length ≤ _; have := hok.links; rw [List.length_append, List.length_singleton]; omega, (hok.mono (M := N + 100) (by omega)).comps, hok.pos, (hok.mono (M := N + 100) (by omega)).all⟩, Nat.le_refl _, n0, RepZ.up u2.up hz37, RepZ.up u2.up hz41, ok0.mono (by omega)⟩
                  ·
                    refine .bl rfl (Fx.bsl46_1 _ _ _) rfl fun b111 => .h1 <| .blR rfl Fx.bsl46_0 rfl (z := 3) rfl (by decide) fun g104 => .h1 <| .apD0 Fx.row46 rfl (fun _ _ => .head) rfl k2 (by simp [maxLen]; omega) (by omega) rfl (fun _ _ => (.yv (.build rfl (Fx.bld135_0_1_2 _ _ _)) <|
                      .yv (.load rfl Fx.agg2 (.tail _ <| .tail _ <| .tail _ <| .tail _ <| .tail _ <| .tail _ <| .head _) rfl) <| .yv (.fieldAddr rfl Fx.field101_3) <| .done (by kernel_rfl) <|
                      .done (by kernel_rfl) <| .nl)) fun xs107 p107 c107 hz107 => .fn (tl := [_, _, _]) rfl <| .ap (news := [strV [97], strV [97], .int .i64 x.n.toInt]) Fx.row46 rfl (fun _ => .head) rfl (.box (.tail _ <|
                      .head _) (fun j u h => by rw [Nat.zero_add]; exact h)) rfl (by simp [Value.oneCell', strV]) (by simp [maxLen]; omega) (by omega) rfl fun r112 _ => ?_
                    refine At.ra (.head _) fun p112 c112 e112 => ?_
                    subst e112
                    refine .yv (.fieldAddr rfl Fx.field49_2) rfl <| .st (.tail <| .tail <| .tail <| .tail <| .tail <| .tail <| .tail <| .head) rfl rfl Fx.size46 rfl (Nat.le_of_ble_eq_true rfl) rfl <|
                      ?_
                    refine Sx.freezeSeq (ds := (f.links ++ [(⟨[97], [97], x.n⟩ : Lk)]).map dLk) (by simp <;> omega) (by rw [List.map_append]; exact hz107.snoc (lk_shut (x := ⟨[97], [97], x.n⟩) (show [(97 : UInt8)].length ≤ 1000000 by decide) (show [(97 : UInt8)].length ≤ 1000000 by decide)) rfl) fun H2 p2 c2 u2 e2 h2 => ?_
                    obtain ⟨rfl, rfl⟩ := sl_inj e2
                    exact .nl <| .bN <| .tN <| .me (H2, ⟨f.nm, f.flags, f.links ++ [⟨[97], [97], x.n⟩], f.comps⟩, _, ⟨nm0, vs0, vr0⟩, _, _, _, _) trivial ⟨rfl, rfl, rfl, rfl, rfl, trivial⟩ (fun _ s => s.pick [2, 1, 3, 6, 5, 4] [_, _, _, _, _, _] rfl rfl) ⟨u2, ft_shut (x := ⟨f.nm, f.flags, f.links ++ [⟨[97], [97], x.n⟩], f.comps⟩) n00 (k1.up u2.up) h2 (k3.up u2.up), ⟨(hok.mono (M := N + 100) (by omega)).flags, by show (f.links ++ [_]).length ≤ _; have := hok.links; rw [List.length_append, List.length_singleton]; omega, (hok.mono (M := N + 100) (by omega)).comps, hok.pos, (hok.mono (M := N + 100) (by omega)).all⟩, Nat.le_refl _, n0, RepZ.up u2.up hz37, RepZ.up u2.up hz41, ok0.mono (by omega)⟩
                · skip
                  refine .sq <| .rg <| .yv (.eql rfl rfl) rfl <| .a rfl rfl <| .nl <| .tN <| .cd rfl (fun h114 => ?_) (fun h114 => ?_)
                  · skip
                    exact .rg <| .m rfl rfl <| .yv (.fieldAddr rfl Fx.field54_0) rfl <| .st (.tail <| .tail <| .head) rfl rfl Fx.size9 rfl (Nat.le_of_ble_eq_true rfl) rfl <| .nl <|
                      .bN <| .tN <| .me (H, f, _, ⟨wordR x.nm, vs0, vr0⟩, _, _, _, _) trivial ⟨rfl, rfl, rfl, rfl, rfl, trivial⟩ (fun _ s => s.pick [1, 0, 2, 5, 4, 3] [_, _, _, _, _, _] rfl rfl) ⟨.refl, h, hok.mono (by omega), Nat.le_refl _, (Nat.le_trans (word_len _) (by decide)), hz37, hz41, ⟨(ok0.mono (M := N + 100) (by omega)).vars, (ok0.mono (M := N + 100) (by omega)).vers, (ok0.mono (M := N + 100) (by omega)).all⟩⟩
                  · skip
                    refine .sq <| .rg <| .yv (.eql rfl rfl) rfl <| .a rfl rfl <| .nl <| .tN <| .cd rfl (fun h118 => ?_) (fun h118 => ?_)
                    · skip
                      refine .sq <| .rg <| .a rfl rfl <| .nl <| .tN <| .bk <| .pm [1, 2, 0, 3, 4, 5] [_, _, _, _, _, _] rfl rfl <| .lp (X := Nat × Value × List Value) [(2, _), (3, _), (4, _), (5, _), (6, _), (7, _), (8, _)] ⟨rfl, rfl, rfl, rfl, rfl, rfl, rfl, trivial⟩ [_, _, _, _] (fun z => [(12, .int .i64 (z.1 : Nat))]) (fun z => H) (fun z => [.row 140 3 z.2.1 (vs0.length + z.1) z.2.2, .box b8 [strV nm0, z.2.1, .slice p41 vr0.length c41] 54]) (fun z => z.1 ≤ m ∧ RepZ H 3 ((vs0 ++ List.replicate z.1 (wvar x.nm)).map (dVr .i64)) z.2.2) (fun z => m - z.1) (0, _, _) (fun _ s => s) ⟨rfl, trivial⟩ ⟨by simp, by simpa using hz37⟩ fun z hC => ?_
                      obtain ⟨j, rv, ys⟩ := z
                      dsimp only at hC ⊢
                      obtain ⟨hj0, hzv⟩ := hC
                      refine .sq <| .sq <| .rg <| .m rfl rfl <| .m rfl rfl <| .yv (.lss rfl rfl) rfl <| .nl <| .tN <| .cd rfl (fun h122 => ?_) (fun h122 => ?_)
                      · try simp only [decide_eq_true_eq] at h122
                        have hj : j < m := by omega
                        refine .sk <| .tN <| .sq <| .bk <| .rg <| .yv (.fieldAddr rfl Fx.field54_1) rfl <| .yv (.load rfl Fx.agg51 (.tail _ <| .head _) rfl) rfl <| .m rfl rfl <| .yv (.build rfl (Fx.bld140_0_1 _ _)) rfl <|
                          .bl rfl (Fx.bsl51_1 _ _ _) rfl fun b129 => .ap (news := [strV (wordR x.nm), .int .i64 1, .int .i64 0]) Fx.row51 rfl (fun _ => (.tail <| .head)) rfl (.box (.head _) (fun j u h => by rw [Nat.zero_add]; exact h)) rfl (by simp [Value.oneCell', strV]) (by simp [maxLen]; omega) (by omega) rfl fun r130 _ => ?_
                        refine At.ra (.tail _ <| .head _) fun p130 c130 e130 => ?_
                        exact .yv (.fieldAddr rfl Fx.field54_1) rfl <| .st (.tail <| .tail <| .head) rfl rfl Fx.size51 (by rw [e130]; rfl) (Nat.le_of_ble_eq_true rfl) rfl <| .nl <| .bN <|
                          .tN <| .rg <| .m rfl rfl <| .yv (.add rfl rfl (w64 (by omega) (by omega))) rfl <| .a rfl rfl <| .nl <| .tN <| .ag (x := (j, rv, ys)) (j + 1, r130, ys ++ [strV (wordR x.nm), .int .i64 1, .int .i64 0]) ⟨rfl, trivial⟩ ⟨rfl, rfl, rfl, rfl, rfl, rfl, rfl, trivial⟩ (fun _ s => (s.pick [1, 2, 3, 4, 5, 6] _ rfl rfl)) ⟨by dsimp only; omega, by dsimp only; rw [List.replicate_succ', ← List.append_assoc, List.map_append]; exact hzv.snoc (vr_shut (x := wvar x.nm) (Nat.le_trans (word_len _) (by decide))) rfl⟩ (by dsimp only; omega)
                      · try simp only [decide_eq_false_iff_not] at h122
                        obtain rfl : m = j := by omega
                        exact .ex <| .tE <| .tE <| .bE <| .bN <| .tN <| .me (H, f, _, ⟨nm0, vs0 ++ List.replicate m (wvar x.nm), vr0⟩, _, _, _, _) trivial ⟨rfl, rfl, rfl, rfl, rfl, trivial⟩ (fun _ s => by rw [show (vs0 ++ List.replicate m (wvar x.nm)).length = vs0.length + m by simp]; exact (s.pick [0, 2, 1, 5, 4, 3] _ rfl rfl)) ⟨.refl, h, hok.mono (by omega), Nat.le_refl _, n0, hzv, hz41, ⟨by show (vs0 ++ _).length ≤ _; have : vs0.length ≤ N := ok0.vars; simp; omega, (ok0.mono (M := N + 100) (by omega)).vers, (ok0.mono (M := N + 100) (by omega)).all⟩⟩
                    · skip
                      refine .sq <| .rg <| .yv (.eql rfl rfl) rfl <| .a rfl rfl <| .nl <| .tN <| .cd rfl (fun h132 => ?_) (fun h132 => ?_)
                      · skip
                        refine .rg <| .yv (.fieldAddr rfl Fx.field54_1) rfl <| .yv (.load rfl Fx.agg51 (.tail _ <| .tail _ <| .head _) rfl) rfl <| .yv (.fieldAddr rfl Fx.field101_2) rfl <|
                          .yv (.load rfl Fx.agg5 (.tail _ <| .tail _ <| .tail _ <| .tail _ <| .head _) rfl) rfl <| .yv (.rem rfl rfl (by decide) (c := ((x.nm.toNat % 5 : Nat) : Int)) (by rw [Int.tmod_eq_emod_of_nonneg (by omega)]; omega)) rfl <|
                          .yv (.conv rfl Fx.int5 Fx.int3 (c := ((x.nm.toNat % 5 : Nat) : Int)) (w64 (by omega) (by omega))) rfl <| .yv (.fieldAddr rfl Fx.field101_3) rfl <| .yv (.load rfl Fx.agg2 (.tail _ <|
                          .tail _ <| .tail _ <| .tail _ <| .head _) rfl) rfl <| .yv (.build rfl (Fx.bld140_0_1_2 _ _ _)) rfl <| .bl rfl (Fx.bsl51_1 _ _ _) rfl fun b143 => .ap (news := [strV [121], .int .i64 (x.nm.toNat % 5 : Nat), .int .i64 x.n.toInt]) Fx.row51 rfl (fun _ => (.tail <|
                          .tail <| .head)) rfl (.box (.head _) (fun j u h => by rw [Nat.zero_add]; exact h)) rfl (by simp [Value.oneCell', strV]) (by simp [maxLen]; omega) (by omega) rfl fun r144 _ => ?_
                        refine At.ra (.tail _ <| .tail _ <| .head _) fun p144 c144 e144 => ?_
                        subst e144
                        exact .yv (.fieldAddr rfl Fx.field54_1) rfl <| .st (.tail <| .tail <| .tail <| .head) rfl rfl Fx.size51 rfl (Nat.le_of_ble_eq_true rfl) rfl <| .nl <| .bN <| .tN <|
                          .me (H, f, _, ⟨nm0, vs0 ++ [⟨[121], UInt8.ofNat (x.nm.toNat % 5), x.n⟩], vr0⟩, _, _, _, _) trivial ⟨rfl, rfl, rfl, rfl, rfl, trivial⟩ (fun _ s => by rw [show (vs0 ++ [⟨[121], UInt8.ofNat (x.nm.toNat % 5), x.n⟩] : List Vr).length = vs0.length + 1 by simp]; exact (s.pick [2, 1, 3, 6, 5, 4] _ rfl rfl)) ⟨.refl, h, hok.mono (by omega), Nat.le_refl _, n0, (by rw [List.map_append]; exact hz37.snoc (yvar_shut _ _) rfl), hz41, ⟨by show (vs0 ++ [_]).length ≤ _; have : vs0.length ≤ N := ok0.vars; simp; omega, (ok0.mono (M := N + 100) (by omega)).vers, (ok0.mono (M := N + 100) (by omega)).all⟩⟩
                      · skip
                        refine .sq <| .rg <| .yv (.eql rfl rfl) rfl <| .a rfl rfl <| .nl <| .tN <| .cd rfl (fun h146 => ?_) (fun h146 => ?_)
                        · skip
                          refine .rg <| .yv (.fieldAddr rfl Fx.field54_2) rfl <| .st (.tail <| .tail <| .head) rfl rfl Fx.size52 rfl (Nat.le_of_ble_eq_true rfl) rfl <| ?_
                          refine Sx.row0 55 1 ?_
                          exact .nl <| .bN <| .tN <| .me (H, f, _, ⟨nm0, vs0, []⟩, _, _, _, _) trivial ⟨rfl, rfl, rfl, rfl, rfl, trivial⟩ (fun _ s => s.pick [2, 0, 3, 6, 5, 4] [_, _, _, _, _, _] rfl rfl) ⟨.refl, h, hok.mono (by omega), Nat.le_refl _, n0, hz37, .nil, ⟨(ok0.mono (M := N + 100) (by omega)).vars, by simp, fun _ h => by cases h⟩⟩
                        · skip
                          refine .sq <| .rg <| .yv (.eql rfl rfl) rfl <| .a rfl rfl <| .nl <| .tN <| .cd rfl (fun h149 => ?_) (fun h149 => ?_)
                          · skip
                            refine .sq <| .rg <| .a rfl rfl <| .nl <| .tN <| .bk <| .pm [0, 2, 1, 3, 4, 5] [_, _, _, _, _, _] rfl rfl <| .lp (X := Nat × Value × List Value) [(2, _), (3, _), (4, _), (5, _), (7, _), (8, _)] ⟨rfl, rfl, rfl, rfl, rfl, rfl, trivial⟩ [_, _, _, _] (fun z => [(13, .int .i64 (z.1 : Nat))]) (fun z => H) (fun z => [.row 55 1 z.2.1 (vr0.length + z.1) z.2.2, .box b8 [strV nm0, .slice p37 vs0.length c37, z.2.1] 54]) (fun z => z.1 ≤ m ∧ RepZ H 1 ((vr0 ++ List.replicate z.1 []).map (dVs .i64)) z.2.2) (fun z => m - z.1) (0, _, _) (fun _ s => s) ⟨rfl, trivial⟩ ⟨by simp, by simpa using hz41⟩ fun z hC => ?_
                            obtain ⟨j, rv, ys⟩ := z
                            dsimp only at hC ⊢
                            obtain ⟨hj0, hzv⟩ := hC
                            refine .sq <| .sq <| .rg <| .m rfl rfl <| .m rfl rfl <| .yv (.lss rfl rfl) rfl <| .nl <| .tN <| .cd rfl (fun h153 => ?_) (fun h153 => ?_)
                            · try simp only [decide_eq_true_eq] at h153
                              have hj : j < m := by omega
                              refine .sk <| .tN <| .sq <| .bk <| .rg <| .yv (.fieldAddr rfl Fx.field54_2) rfl <| .yv (.load rfl Fx.agg52 (.tail _ <| .head _) rfl) rfl <| .bl rfl (Fx.bsl52_1 _ _ _) rfl fun b158 => .ap (news := [.slice none 0 0]) Fx.row52 rfl (fun _ => (.tail <|
                                .head)) rfl (.box (.head _) (fun j u h => by rw [Nat.zero_add]; exact h)) rfl (by simp [Value.oneCell', strV]) (by simp [maxLen]; omega) (by omega) rfl fun r159 _ => ?_
                              refine At.ra (.tail _ <| .head _) fun p159 c159 e159 => ?_
                              exact .yv (.fieldAddr rfl Fx.field54_2) rfl <| .st (.tail <| .tail <| .head) rfl rfl Fx.size52 (by rw [e159]; rfl) (Nat.le_of_ble_eq_true rfl) rfl <| .nl <| .bN <|
                                .tN <| .rg <| .m rfl rfl <| .yv (.add rfl rfl (w64 (by omega) (by omega))) rfl <| .a rfl rfl <| .nl <| .tN <| .ag (x := (j, rv, ys)) (j + 1, r159, ys ++ [.slice none 0 0]) ⟨rfl, trivial⟩ ⟨rfl, rfl, rfl, rfl, rfl, rfl, trivial⟩ (fun _ s => (s.pick [1, 2, 3, 4, 5, 6] _ rfl rfl)) ⟨by dsimp only; omega, by dsimp only; rw [List.replicate_succ', ← List.append_assoc, List.map_append]; exact hzv.snoc (Rep.empty (by decide)) rfl⟩ (by dsimp only; omega)
                            · try simp only [decide_eq_false_iff_not] at h153
                              obtain rfl : m = j := by omega
                              exact .ex <| .tE <| .tE <| .bE <| .bN <| .tN <| .me (H, f, _, ⟨nm0, vs0, vr0 ++ List.replicate m []⟩, _, _, _, _) trivial ⟨rfl, rfl, rfl, rfl, rfl, trivial⟩ (fun _ s => by rw [show (vr0 ++ List.replicate m ([] : List Hd)).length = vr0.length + m by simp]; exact (s.pick [2, 0, 1, 5, 4, 3] _ rfl rfl)) ⟨.refl, h, hok.mono (by omega), Nat.le_refl _, n0, hz37, hzv, ⟨(ok0.mono (M := N + 100) (by omega)).vars, by show (vr0 ++ _).length ≤ _; have : vr0.length ≤ N := ok0.vers; simp; omega, fun v hv => (List.mem_append.1 hv).elim ((ok0.mono (M := N + 100) (by omega)).all v) (fun hv => by rw [List.eq_of_mem_replicate hv]; exact .nil)⟩⟩
                          · skip
                            exact .sk <| .bN <| .tN <| .me (H, f, _, ⟨nm0, vs0, vr0⟩, _, _, _, _) trivial ⟨rfl, rfl, rfl, rfl, rfl, trivial⟩ (fun _ s => s.pick [1, 0, 2, 5, 4, 3] [_, _, _, _, _, _] rfl rfl) ⟨.refl, h, hok.mono (by omega), Nat.le_refl _, n0, hz37, hz41, ok0.mono (by omega)⟩
      ·
        obtain ⟨H1, f1, cs1, c1, rv, xv, rs, xs⟩ := z
        dsimp only at hC ⊢
        obtain ⟨u1, hf1, okf, hle, nc, hzv, hzs, okc⟩ := hC
        obtain ⟨p11, c11, p12, c12, p13, c13, rfl, nf1, kf1, kf2, kf3⟩ := ft_open hf1
        have hi1 : i < f1.comps.length := by omega
        refine At.ra (.head _) fun p177 c177 e177 => ?_
        subst e177
        refine At.ra (.tail _ (.head _)) fun p178 c178 e178 => ?_
        subst e178
        have hvl1 : c1.vers.length ≤ N + 100 := okc.vers
        have hcl1 := okf.comps
        refine .cu (X := Hp × Cp × List Value) [(2, _), (3, _), (4, _), (7, _), (8, _)] ⟨rfl, rfl, rfl, rfl, rfl, trivial⟩ (fun z => []) (fun z => z.1) (fun z => [.box b8 z.2.2 54, .box b2 [strV f1.nm, .slice p11 f1.flags.length c11, .slice p12 f1.links.length c12, .slice p13 f1.comps.length c13] 49, .box b3 [.int .u8 x.wh.toNat, .int .u8 x.i.toNat, .int .u8 x.nm.toNat, .int .i64 x.n.toInt, .slice pN x.nodes.length cN] 101, .box b4 [.string ⟨#[]⟩, .slice none 0 0, .slice none 0 0, .slice none 0 0] 49]) (fun z => HUp w H1 z.1 ∧ Rep z.1 (dCp .i64 z.2.1) z.2.2 ∧ okCp (2 * (N + 100) + 100) z.2.1) ?_ fun z hC => ?_
        ·
          refine .sq <| .rg <| .yv (.fieldAddr rfl Fx.field101_0) rfl <| .yv (.load rfl Fx.agg5 (.tail _ <| .tail _ <| .tail _ <| .tail _ <| .head _) rfl) rfl <| .yv (.rem rfl rfl (by decide) (c := ((x.wh.toNat % 26 : Nat) : Int)) (by rw [Int.tmod_eq_emod_of_nonneg (by omega)]; omega)) rfl <|
            .yv (.gtr rfl rfl) rfl <| .m rfl rfl <| .b2 (fun h165 => ?_) (fun h165 => ?_)
          · skip
            refine .gd rfl rfl <| .yv (.fieldAddr rfl Fx.field54_2) rfl <| .gd rfl rfl <| .yv (.load rfl Fx.agg52 (.tail _ <| .tail _ <| .head _) rfl) rfl <| .gd rfl rfl <|
              .yv (.lenSl Fx.sl52 rfl) rfl <| .gd rfl rfl <| .yv (.gtr rfl rfl) rfl <| .yv (.pickT rfl rfl) rfl <| .m rfl rfl <| .b2 (fun h171 => ?_) (fun h171 => ?_)
            · try simp only [decide_eq_true_eq] at h171
              have hv0 : 0 < c1.vers.length := by omega
              refine At.rs (.tail _ (.head _)) hv0 fun gS cS eS => ?_
              obtain ⟨rfl, rfl⟩ := sl_inj eS
              obtain ⟨cV, rV, lV, mV⟩ := hzs.at (i := 0) (map_at (f := dVs .i64) hv0)
              have okv := okc.all _ (List.getElem_mem hv0)
              generalize hl0 : c1.vers[0] = l0 at rV okv
              obtain ⟨pz, cz, rfl, rz⟩ := vs_open rV
              have hmz : xs[0]? = some (.slice pz l0.length cz) := mV 0 _ rfl
              refine .gd rfl rfl <| .yv (.fieldAddr rfl Fx.field54_2) rfl <| .gd rfl rfl <| .yv (.load rfl Fx.agg52 (.tail _ <| .tail _ <| .head _) rfl) rfl <| .gd rfl rfl <|
                .yv (.indexSl Fx.sl52 rfl rfl (i := 0) rfl hv0 (q := 0) rfl) rfl <| .gd rfl rfl <| .yv (.loadSrc rfl Fx.agg55 (.row (.tail _ <| .head _) (one_at hmz))) rfl <|
                .gd rfl rfl <| .yv (.lenSl Fx.sl55 rfl) rfl <| .gd rfl rfl <| .yv (.gtr rfl rfl) rfl <| .yv (.pickT rfl rfl) rfl <| .nl <| .tN <| .cd rfl (fun h178 => ?_) (fun h178 => ?_)
              · try simp only [decide_eq_true_eq] at h178
                have hl0p : 0 < l0.length := by omega
                refine At.pm [1, 0, 2, 3, 4, 5] [_, _, _, _, _, _] rfl rfl ?_
                refine At.rc hv0 fun moreS hcS1 hcS2 => ?_
                refine .fl (trip := [(_, _, _), (_, _, _), (_, _, _), (_, _, _), (_, _, _), (_, _, _), (_, _, _), (_, _, _)]) 8 [(0, 0), (1, 0), (2, 0), (3, 0), (4, 0), (5, 0), (6, 0), (7, 1)] (by kernel_rfl) (by kernel_rfl) rfl <|
                  .yv (.fieldAddr rfl Fx.field54_2) rfl <| .yv (.load rfl Fx.agg52 (.tail _ <| .tail _ <| .head _) rfl) rfl <| .yv (.fieldAddr rfl Fx.field54_2) rfl <| .yv (.load rfl Fx.agg52 (.tail _ <|
                  .tail _ <| .head _) rfl) rfl <| .yv (.indexSl Fx.sl52 rfl rfl (i := 0) rfl hv0 (q := 0) rfl) rfl <| .yv (.load (v := .slice pz l0.length cz) rfl Fx.agg55 (.head _) (get_app hmz)) rfl <|
                  .yv (.loadW rfl Fx.agg101 (.tail _ <| .tail _ <| .tail _ <| .tail _ <| .head _) rfl) rfl <| .ct (X := Value) Fx.call58 rfl (fun W s => handlersOf_any H1 l0 x _ _ (N + 100) (by omega) W rz (hX.up u1.up) hl0p okv s.agr) rfl fun v186 H186 hc186 u186 => ?_
                obtain ⟨l2, hl2, okl2⟩ := hc186
                obtain ⟨pl2, cl2, el2, _⟩ := hl2.sl
                simp only [List.cons.injEq, and_true, List.length_map] at el2
                subst el2
                refine .fn (tl := [_, _]) rfl <| .yv (.indexSl Fx.sl52 rfl rfl (i := 0) rfl hv0 (q := 0) rfl) rfl <| .st (l' := ((xs ++ moreS).set 0 (.slice pl2 l2.length cl2))) .head rfl rfl Fx.size55 rfl (by rw [List.length_append, hzs.len, List.length_map]; omega) rfl <|
                  ?_
                refine Sx.freezeBox fun HS uS mS0 => ?_
                have mS1 : MemAt HS gS 0 (setsL xs (0 * 1) [.slice pl2 l2.length cl2] ++ moreS) := by rw [← setsL_app [.slice pl2 l2.length cl2] xs moreS (0 * 1) (by rw [hzs.len, List.length_map]; simp; omega)]; exact mS0
                have hSx0 : Rep HS (.seq 1 ((c1.vers.set 0 l2).map (dVs .i64))) [.slice (some ⟨gS, 0, none⟩) c1.vers.length c178] := Rep.mk mS1.pre (by rw [List.map_set]; exact RepZ.put (i := 0) (hl2.up uS.up) rfl (hzs.up (u186.trans uS).up) (by simpa using hv0)) (by simp) hcS1 hcS2
                refine Sx.freezeSeq (ds := c1.vars.map (dVr .i64)) (by simp) (hzv.up (u186.trans uS).up) fun HV pV cV uV eV hV => ?_
                obtain ⟨rfl, rfl⟩ := sl_inj eV
                have uu := u186.trans (uS.trans uV)
                have hSx := hSx0.up uV.up
                exact .nl <| .tN <| .me (HV, ⟨c1.nm, c1.vars, c1.vers.set 0 l2⟩, _) trivial ⟨rfl, rfl, rfl, rfl, rfl, trivial⟩ (fun _ s => s) ⟨uu, cp_shut (x := ⟨c1.nm, c1.vars, c1.vers.set 0 l2⟩) nc hV hSx, okC_set okc okl2⟩
              · skip
                refine .sk <| .tN <| ?_
                refine At.pm [1, 0, 2, 3, 4, 5] [_, _, _, _, _, _] rfl rfl ?_
                refine Sx.freezeSeq (ds := c1.vers.map (dVs .i64)) (by simp) hzs fun HS pS cS uS eS hS0 => ?_
                obtain ⟨rfl, rfl⟩ := sl_inj eS
                refine Sx.freezeSeq (ds := c1.vars.map (dVr .i64)) (by simp) (hzv.up uS.up) fun HV pV cV uV eV hV => ?_
                obtain ⟨rfl, rfl⟩ := sl_inj eV
                have uu := uS.trans uV
                have hS := hS0.up uV.up
                exact .me (HV, c1, _) trivial ⟨rfl, rfl, rfl, rfl, rfl, trivial⟩ (fun _ s => s) ⟨uu, cp_shut nc hV hS, okc.mono (by omega)⟩
            · skip
              refine .gF rfl rfl rfl rfl <| .gF rfl rfl rfl rfl <| .gF rfl rfl rfl rfl <| .gF rfl rfl rfl rfl <| .gF rfl rfl rfl rfl <| .gF rfl rfl rfl rfl <| .yv (.pickF rfl rfl) rfl <|
                .nl <| .tN <| .cF rfl <| .sk <| .tN <| ?_
              refine At.pm [1, 0, 2, 3, 4, 5] [_, _, _, _, _, _] rfl rfl ?_
              refine Sx.freezeSeq (ds := c1.vers.map (dVs .i64)) (by simp) hzs fun HS pS cS uS eS hS0 => ?_
              obtain ⟨rfl, rfl⟩ := sl_inj eS
              refine Sx.freezeSeq (ds := c1.vars.map (dVr .i64)) (by simp) (hzv.up uS.up) fun HV pV cV uV eV hV => ?_
              obtain ⟨rfl, rfl⟩ := sl_inj eV
              have uu := uS.trans uV
              have hS := hS0.up uV.up
              exact .me (HV, c1, _) trivial ⟨rfl, rfl, rfl, rfl, rfl, trivial⟩ (fun _ s => s) ⟨uu, cp_shut nc hV hS, okc.mono (by omega)⟩
          · skip
            refine .gF rfl rfl rfl rfl <| .gF rfl rfl rfl rfl <| .gF rfl rfl rfl rfl <| .gF rfl rfl rfl rfl <| .yv (.pickF rfl rfl) rfl <| .m rfl rfl <| .gF rfl rfl rfl rfl <|
              .gF rfl rfl rfl rfl <| .gF rfl rfl rfl rfl <| .gF rfl rfl rfl rfl <| .gF rfl rfl rfl rfl <| .gF rfl rfl rfl rfl <| .yv (.pickF rfl rfl) rfl <| .nl <| .tN <| .cF rfl <|
              .sk <| .tN <| ?_
            refine At.pm [1, 0, 2, 3, 4, 5] [_, _, _, _, _, _] rfl rfl ?_
            refine Sx.freezeSeq (ds := c1.vers.map (dVs .i64)) (by simp) hzs fun HS pS cS uS eS hS0 => ?_
            obtain ⟨rfl, rfl⟩ := sl_inj eS
            refine Sx.freezeSeq (ds := c1.vars.map (dVr .i64)) (by simp) (hzv.up uS.up) fun HV pV cV uV eV hV => ?_
            obtain ⟨rfl, rfl⟩ := sl_inj eV
            have uu := uS.trans uV
            have hS := hS0.up uV.up
            exact .me (HV, c1, _) trivial ⟨rfl, rfl, rfl, rfl, rfl, trivial⟩ (fun _ s => s) ⟨uu, cp_shut nc hV hS, okc.mono (by omega)⟩
        ·
          obtain ⟨H2, c2, cs2⟩ := z
          dsimp only at hC ⊢
          obtain ⟨u2, hc2, okc2⟩ := hC
          refine .sq <| .sq <| .rg <| .yv (.fieldAddr rfl Fx.field101_0) rfl <| .yv (.load rfl Fx.agg5 (.tail _ <| .tail _ <| .head _) rfl) rfl <| .yv (.rem rfl rfl (by decide) (c := ((x.wh.toNat % 26 : Nat) : Int)) (by rw [Int.tmod_eq_emod_of_nonneg (by omega)]; omega)) rfl <|
            .yv (.gtr rfl rfl) rfl <| .nl <| .tN <| .cd rfl (fun h191 => ?_) (fun h191 => ?_)
          · skip
            refine .sq <| .rg <| .blR rfl Fx.bsl47_0 rfl (z := 3) rfl (by decide) fun g192 => .yv (.fieldAddr rfl Fx.field49_3) rfl <| .yv (.load rfl Fx.agg47 (.tail _ <| .tail _ <|
              .head _) rfl) rfl <| .apD0 Fx.row47 rfl (fun _ _ => .head) rfl (kf3.up u2.up) (by simp [maxLen]; omega) (by omega) rfl fun xs195 r195 hz195 => ?_
            refine At.ra (.head _) fun p195 c195 e195 => ?_
            refine .yv (.fieldAddr rfl Fx.field49_3) rfl <| .st (.tail <| .tail <| .head) rfl rfl Fx.size47 (by rw [e195]; rfl) (Nat.le_of_ble_eq_true rfl) rfl <| ?_
            refine At.rb (by omega) fun gB capB moreB eB hcB1 hcB2 => ?_
            subst eB
            refine .nl <| .tN <| .rg <| .yv (.fieldAddr rfl Fx.field49_3) rfl <| .yv (.load rfl Fx.agg47 (.tail _ <| .tail _ <| .head _) rfl) rfl <| .m rfl rfl <| .yv (.loadW rfl Fx.agg54 (.tail _ <|
              .head _) (cp_len hc2)) rfl <| .yv (.indexSl Fx.sl47 rfl rfl (i := i) rfl (by omega) (q := i * 3) (by omega)) rfl <| .sE (vs := cs2) .head rfl rfl (by rw [cp_len hc2]; exact Fx.size54) hc2.one (by rw [cp_len hc2, List.length_append, hz195.len, List.length_map]; omega) <|
              ?_
            refine Sx.freezeBox fun HB uB mB0 => ?_
            rw [setsL_app _ _ _ _ (by rw [cp_len hc2, hz195.len, List.length_map]; omega)] at mB0
            have hB : Rep HB (.seq 3 ((f1.comps.set i c2).map (dCp .i64))) [.slice (some ⟨gB, 0, none⟩) f1.comps.length capB] := Rep.mk mB0.pre (by rw [List.map_set]; exact RepZ.put (hc2.up uB.up) (cp_len hc2) (hz195.up uB.up) (by simpa using hi1)) (by simp) hcB1 hcB2
            refine .nl <| .tN <| .sq <| .rg <| .yv (.loadW rfl Fx.agg49 (.tail _ <| .head _) rfl) rfl <| .sW (.tail <| .tail <| .tail <| .head) rfl rfl Fx.size49 (by show ∀ u ∈ [_, _, _, _], Value.oneCell' u = true; simp [Value.oneCell', strV]) rfl <|
              .nl <| .tN <| .rt <| ?_
            exact Sx.ret1 (.inl rfl) rfl (.cell rfl Fx.agg49 (.tail _ <| .tail _ <| .tail _ <| .head _) rfl) fun W t => ⟨_, HB, ⟨⟨f1.nm, f1.flags, f1.links, f1.comps.set i c2⟩, ft_shut (x := ⟨f1.nm, f1.flags, f1.links, f1.comps.set i c2⟩) nf1 (kf1.up (u2.trans uB).up) (kf2.up (u2.trans uB).up) hB, okF_set okf okc2⟩, rfl, (u1.trans (u2.trans uB)).grow t⟩
          · skip
            refine .sk <| .tN <| .sq <| .rg <| .yv (.loadW rfl Fx.agg49 (.tail _ <| .head _) rfl) rfl <| .sW (.tail <| .tail <| .tail <| .head) rfl rfl Fx.size49 (by show ∀ u ∈ [_, _, _, _], Value.oneCell' u = true; simp [Value.oneCell', strV]) rfl <|
              .nl <| .tN <| .rt <| ?_
            exact Sx.ret1 (.inl rfl) rfl (.cell rfl Fx.agg49 (.tail _ <| .tail _ <| .tail _ <| .head _) rfl) fun W t => ⟨_, H2, ⟨f1, hf1.up u2.up, okf.mono (by omega)⟩, rfl, (u1.trans u2).grow t⟩
  ·
    refine .blR rfl Fx.bsl52_0 rfl (z := 1) rfl (by decide) fun g38 => .h1 <| .blR rfl Fx.bsl51_0 rfl (z := 3) rfl (by decide) fun g34 => .h1 <| .apD0 Fx.row51 rfl (fun _ _ => .head) rfl g1 (by simp [maxLen]; omega) (by omega) rfl (fun _ _ => (.yv (.load rfl Fx.agg52 (.tail _ <|
      .tail _ <| .head _) rfl) <| .yv (.fieldAddr rfl Fx.field54_2) <| .done (by kernel_rfl) <| .yv (.fieldAddr rfl Fx.field54_1) <| .nl)) fun xs37 p37 c37 hz37 => .yv (.fieldAddr rfl Fx.field54_1) rfl <|
      .h1 <| .apD0 Fx.row52 rfl (fun _ _ => (.tail <| .head)) rfl g2 (by simp [maxLen]; omega) (by omega) rfl (fun _ _ => (.yv (.fieldAddr rfl Fx.field54_1) <| .done (by kernel_rfl) <|
      .done (by kernel_rfl) <| .done (by kernel_rfl) <| .yv (.fieldAddr rfl Fx.field54_1) <| .nl)) fun xs41 p41 c41 hz41 => .fn (tl := [_, _, _]) rfl <| .st (.tail <|
      .tail <| .head) rfl rfl Fx.size51 rfl (Nat.le_of_ble_eq_true rfl) rfl <| .yv (.fieldAddr rfl Fx.field54_2) rfl <| .st (.tail <| .tail <| .head) rfl rfl Fx.size52 rfl (Nat.le_of_ble_eq_true rfl) rfl <|
      .nl <| .tN <| .cu (X := Hp × Ft × List Value × Cp × Value × List Value × Value × List Value) [(2, _), (3, _), (4, _), (7, _), (8, _)] ⟨rfl, rfl, rfl, rfl, rfl, trivial⟩ (fun z => []) (fun z => z.1) (fun z => [.row 140 3 z.2.2.2.2.1 z.2.2.2.1.vars.length z.2.2.2.2.2.1, .row 55 1 z.2.2.2.2.2.2.1 z.2.2.2.1.vers.length z.2.2.2.2.2.2.2, .box b8 [strV z.2.2.2.1.nm, z.2.2.2.2.1, z.2.2.2.2.2.2.1] 54, .box b2 z.2.2.1 49, .box b3 [.int .u8 x.wh.toNat, .int .u8 x.i.toNat, .int .u8 x.nm.toNat, .int .i64 x.n.toInt, .slice pN x.nodes.length cN] 101, .box b4 [.string ⟨#[]⟩, .slice none 0 0, .slice none 0 0, .slice none 0 0] 49]) (fun z => HUp w H z.1 ∧ Rep z.1 (dFt .i64 z.2.1) z.2.2.1 ∧ okFt (N + 100) z.2.1 ∧ f.comps.length ≤ z.2.1.comps.length ∧ z.2.2.2.1.nm.length ≤ 1000000 ∧ RepZ z.1 3 (z.2.2.2.1.vars.map (dVr .i64)) z.2.2.2.2.2.1 ∧ RepZ z.1 1 (z.2.2.2.1.vers.map (dVs .i64)) z.2.2.2.2.2.2.2 ∧ okCp (N + 100) z.2.2.2.1) ?_ fun z hC => ?_
    ·
      refine .sq <| .rg <| .yv (.fieldAddr rfl Fx.field101_0) rfl <| .yv (.load rfl Fx.agg5 (.tail _ <| .tail _ <| .tail _ <| .tail _ <| .head _) rfl) rfl <| .yv (.rem rfl rfl (by decide) (c := ((x.wh.toNat % 26 : Nat) : Int)) (by rw [Int.tmod_eq_emod_of_nonneg (by omega)]; omega)) rfl <|
        .nl <| .tN <| .bk <| .sq <| .rg <| .yv (.eql rfl rfl) rfl <| .a rfl rfl <| .nl <| .tN <| .cd rfl (fun h47 => ?_) (fun h47 => ?_)
      · skip
        exact .rg <| .m rfl rfl <| .yv (.fieldAddr rfl Fx.field49_0) rfl <| .st (.tail <| .tail <| .tail <| .tail <| .tail <| .head) rfl rfl Fx.size9 rfl (Nat.le_of_ble_eq_true rfl) rfl <|
          .nl <| .bN <| .tN <| .me (H, ⟨wordR x.nm, f.flags, f.links, f.comps⟩, _, ⟨nm0, vs0, vr0⟩, _, _, _, _) trivial ⟨rfl, rfl, rfl, rfl, rfl, trivial⟩ (fun _ s => s.pick [0, 1, 2, 5, 4, 3] [_, _, _, _, _, _] rfl rfl) ⟨.refl, ft_shut (x := ⟨wordR x.nm, f.flags, f.links, f.comps⟩) (Nat.le_trans (word_len _) (by decide)) k1 k2 k3, ⟨(hok.mono (M := N + 100) (by omega)).flags, (hok.mono (M := N + 100) (by omega)).links, (hok.mono (M := N + 100) (by omega)).comps, hok.pos, (hok.mono (M := N + 100) (by omega)).all⟩, Nat.le_refl _, n0, hz37, hz41, ok0.mono (by omega)⟩
      · skip
        refine .sq <| .rg <| .yv (.eql rfl rfl) rfl <| .a rfl rfl <| .nl <| .tN <| .cd rfl (fun h51 => ?_) (fun h51 => ?_)
        · skip
          refine .sq <| .rg <| .a rfl rfl <| .nl <| .tN <| .bk <| .pm [5, 0, 1, 2, 3, 4] [_, _, _, _, _, _] rfl rfl <| .lp (X := Nat × Hp × Option Addr × Nat × Nat) [(2, _), (3, _), (4, _), (5, _), (7, _), (8, _)] ⟨rfl, rfl, rfl, rfl, rfl, rfl, trivial⟩ [_, _, _, _, _] (fun z => [(9, .int .i64 (z.1 : Nat))]) (fun z => z.2.1) (fun z => [.box b2 [strV f.nm, .slice p1 f.flags.length c1, .slice p2 f.links.length c2, .slice z.2.2.1 z.2.2.2.1 z.2.2.2.2] 49]) (fun z => z.1 ≤ m ∧ HUp w H z.2.1 ∧ ∃ L : List Cp, L.length = f.comps.length + z.1 ∧ Rep z.2.1 (.seq 3 (L.map (dCp .i64))) [.slice z.2.2.1 z.2.2.2.1 z.2.2.2.2] ∧ ∀ c ∈ L, okCp N c) (fun z => m - z.1) (0, H, _, _, _) (fun _ s => s) ⟨rfl, trivial⟩ ⟨by simp, .refl, f.comps, by simp, k3, fun c m => (hok.all c m)⟩ fun z hC => ?_
          obtain ⟨j, H1, pp, pn, pc⟩ := z
          dsimp only at hC ⊢
          obtain ⟨hj0, uP, L, hL, hr, hall⟩ := hC
          have hpn := hr.len.1
          rw [List.length_map] at hpn
          have hrc := hr.cap
          refine .sq <| .sq <| .rg <| .m rfl rfl <| .m rfl rfl <| .yv (.lss rfl rfl) rfl <| .nl <| .tN <| .cd rfl (fun h55 => ?_) (fun h55 => ?_)
          · try simp only [decide_eq_true_eq] at h55
            have hj : j < m := by omega
            have hL0 : 0 < L.length := by have := hok.pos; omega
            obtain ⟨bF, oF, cF, hpF, rF, lF, mF⟩ := hr.elem (map_at (f := dCp .i64) hL0)
            cases hpF
            generalize hcx : L[0] = cx at rF
            obtain ⟨nmx, vsx, vrx⟩ := cx
            obtain ⟨qx1, dx1, qx2, dx2, rfl, nx0, kx1, kx2⟩ := cp_open rF
            dsimp only at mF
            refine .sk <| .tN <| .sq <| .bk <| .ft (p := .light _ _ (.light _ _ (.light _ _ (.light _ _ (.light _ _ (.light _ _ (.alt _ _ _ (.alt _ _ _ (.alt _ _ _ (.done) (.no)) (.alt _ _ _ (.alt _ _ _ (.done) (.no)) (.no))) (.alt _ _ _ (.alt _ _ _ (.alt _ _ _ (.done) (.no)) (.no)) (.no))))))))) 9 (.light 1 (.light 2 (.light 4 (.light 5 (.light 6 (.light 7 (.alt 0 0 (.alt 3 2 (.alt 8 0 (.done) (.no)) (.alt 8 0 (.alt 3 2 (.done) (.no)) (.no))) (.alt 8 0 (.alt 0 0 (.alt 3 2 (.done) (.no)) (.no)) (.no))))))))) (by kernel_rfl) (by kernel_rfl) rfl <|
              .yv (.fieldAddr rfl Fx.field49_3) rfl <| .yv (.load rfl Fx.agg47 (.head _) rfl) rfl <| .yv (.fieldAddr rfl Fx.field49_3) rfl <| .yv (.load rfl Fx.agg47 (.head _) rfl) rfl <|
              .yv (.indexSl Fx.sl47 rfl rfl (i := 0) rfl (by omega) (q := oF + 0 * 3) rfl) rfl <| .yv (.loadMW rfl Fx.agg54 mF rfl) rfl <| .h ?_ (.h ?_ .nn)
            ·
              refine .blR rfl Fx.bsl47_0 rfl (z := 3) rfl (by decide) fun g58 => .h ?_ (.h ?_ .nn)
              ·
                refine .apD0 Fx.row47 rfl (fun _ _ => .head) rfl hr (by simp [maxLen]; omega) (by omega) rfl (fun _ _ => (.yv (.loadMW rfl Fx.agg54 mF rfl) <| .yv (.indexSl Fx.sl47 rfl rfl (i := 0) rfl (by omega) (q := oF + 0 * 3) rfl) <|
                  .yv (.load rfl Fx.agg47 (.tail _ <| .head _) rfl) <| .yv (.fieldAddr rfl Fx.field49_3) <| .done (by kernel_rfl) <| .done (by kernel_rfl) <| .nl)) fun xs61 p61 c61 hz61 => .h1 <|
                  .bl rfl (Fx.bsl47_1 _ _ _) rfl fun b66 => .fn (tl := [_, _, _]) rfl <| .ap (news := [strV nmx, .slice qx1 vsx.length dx1, .slice qx2 vrx.length dx2]) Fx.row47 rfl (fun _ => (.tail <|
                  .head)) rfl (.box (.head _) (fun j u h => by rw [Nat.zero_add]; exact h)) rfl (by simp [Value.oneCell', strV]) (by simp [maxLen]; omega) (by omega) rfl fun r67 _ => ?_
                refine At.ra (.tail _ <| .head _) fun p67 c67 e67 => ?_
                subst e67
                refine .yv (.fieldAddr rfl Fx.field49_3) rfl <| .st (.tail <| .tail <| .head) rfl rfl Fx.size47 rfl (Nat.le_of_ble_eq_true rfl) rfl <| ?_
                refine At.pm [1, 0, 2, 3, 4, 5, 6, 7] [_, _, _, _, _, _, _, _] rfl rfl ?_
                refine Sx.freezeSeq (ds := (L ++ [L[0]]).map (dCp .i64)) (by simp <;> omega) (by rw [List.map_append, hcx]; exact hz61.snoc rF rfl) fun H2 p2 c2 u2 e2 h2 => ?_
                obtain ⟨rfl, rfl⟩ := sl_inj e2
                exact .nl <| .bN <| .tN <| .rg <| .m rfl rfl <| .yv (.add rfl rfl (w64 (by omega) (by omega))) rfl <| .a rfl rfl <| .nl <| .tN <| .ag (x := (j, H1, some ⟨bF, oF, none⟩, pn, pc)) (j + 1, H2, p67, pn + 1, c67) ⟨rfl, trivial⟩ ⟨rfl, rfl, rfl, rfl, rfl, rfl, trivial⟩ (fun _ s => (s.pick [1, 2, 3, 4, 5, 6] _ rfl rfl)) ⟨by dsimp only; omega, uP.trans u2, L ++ [L[0]], by simp; omega, h2, fun c m => (List.mem_append.1 m).elim (hall c) (fun m => by rw [List.mem_singleton.1 m]; exact hall _ (List.getElem_mem hL0))⟩ (by dsimp only; omega)
              ·
                refine .bl rfl (Fx.bsl47_1 _ _ _) rfl fun b66 => .h1 <| .apD0 Fx.row47 rfl (fun _ _ => (.tail <| .head)) rfl hr (by simp [maxLen]; omega) (by omega) rfl (fun _ _ => (.yv (.loadMW rfl Fx.agg54 mF rfl) <|
                  .yv (.indexSl Fx.sl47 rfl rfl (i := 0) rfl (by omega) (q := oF + 0 * 3) rfl) <| .yv (.load rfl Fx.agg47 (.tail _ <| .tail _ <| .head _) rfl) <| .yv (.fieldAddr rfl Fx.field49_3) <|
                  .done (by kernel_rfl) <| .done (by kernel_rfl) <| .nl)) fun xs61 p61 c61 hz61 => .fn (tl := [_, _, _]) rfl <| .ap (news := [strV nmx, .slice qx1 vsx.length dx1, .slice qx2 vrx.length dx2]) Fx.row47 rfl (fun _ => (.tail <|
                  .head)) rfl (.box (.head _) (fun j u h => by rw [Nat.zero_add]; exact h)) rfl (by simp [Value.oneCell', strV]) (by simp [maxLen]; omega) (by omega) rfl fun r67 _ => ?_
                refine At.ra (.tail _ <| .head _) fun p67 c67 e67 => ?_
                subst e67
                refine .yv (.fieldAddr rfl Fx.field49_3) rfl <| .st (.tail <| .tail <| .head) rfl rfl Fx.size47 rfl (Nat.le_of_ble_eq_true rfl) rfl <| ?_
                refine At.pm [1, 0, 2, 3, 4, 5, 6, 7] [_, _, _, _, _, _, _, _] rfl rfl ?_
                refine Sx.freezeSeq (ds := (L ++ [L[0]]).map (dCp .i64)) (by simp <;> omega) (by rw [List.map_append, hcx]; exact hz61.snoc rF rfl) fun H2 p2 c2 u2 e2 h2 => ?_
                obtain ⟨rfl, rfl⟩ := sl_inj e2
                exact .nl <| .bN <| .tN <| .rg <| .m rfl rfl <| .yv (.add rfl rfl (w64 (by omega) (by omega))) rfl <| .a rfl rfl <| .nl <| .tN <| .ag (x := (j, H1, some ⟨bF, oF, none⟩, pn, pc)) (j + 1, H2, p67, pn + 1, c67) ⟨rfl, trivial⟩ ⟨rfl, rfl, rfl, rfl, rfl, rfl, trivial⟩ (fun _ s => (s.pick [1, 2, 3, 4, 5, 6] _ rfl rfl)) ⟨by dsimp only; omega, uP.trans u2, L ++ [L[0]], by simp; omega, h2, fun c m => (List.mem_append.1 m).elim (hall c) (fun m => by rw [List.mem_singleton.1 m]; exact hall _ (List.getElem_mem hL0))⟩ (by dsimp only; omega)
            ·
              refine .bl rfl (Fx.bsl47_1 _ _ _) rfl fun b66 => .h1 <| .blR rfl Fx.bsl47_0 rfl (z := 3) rfl (by decide) fun g58 => .h1 <| .apD0 Fx.row47 rfl (fun _ _ => .head) rfl hr (by simp [maxLen]; omega) (by omega) rfl (fun _ _ => (.yv (.loadMW rfl Fx.agg54 mF rfl) <|
                .yv (.indexSl Fx.sl47 rfl rfl (i := 0) rfl (by omega) (q := oF + 0 * 3) rfl) <| .yv (.load rfl Fx.agg47 (.tail _ <| .tail _ <| .head _) rfl) <| .yv (.fieldAddr rfl Fx.field49_3) <|
                .done (by kernel_rfl) <| .done (by kernel_rfl) <| .nl)) fun xs61 p61 c61 hz61 => .fn (tl := [_, _, _]) rfl <| .ap (news := [strV nmx, .slice qx1 vsx.length dx1, .slice qx2 vrx.length dx2]) Fx.row47 rfl (fun _ => .head) rfl (.box (.tail _ <|
                .head _) (fun j u h => by rw [Nat.zero_add]; exact h)) rfl (by simp [Value.oneCell', strV]) (by simp [maxLen]; omega) (by omega) rfl fun r67 _ => ?_
              refine At.ra (.head _) fun p67 c67 e67 => ?_
              subst e67
              refine .yv (.fieldAddr rfl Fx.field49_3) rfl <| .st (.tail <| .tail <| .head) rfl rfl Fx.size47 rfl (Nat.le_of_ble_eq_true rfl) rfl <| ?_
              refine Sx.freezeSeq (ds := (L ++ [L[0]]).map (dCp .i64)) (by simp <;> omega) (by rw [List.map_append, hcx]; exact hz61.snoc rF rfl) fun H2 p2 c2 u2 e2 h2 => ?_
              obtain ⟨rfl, rfl⟩ := sl_inj e2
              exact .nl <| .bN <| .tN <| .rg <| .m rfl rfl <| .yv (.add rfl rfl (w64 (by omega) (by omega))) rfl <| .a rfl rfl <| .nl <| .tN <| .ag (x := (j, H1, some ⟨bF, oF, none⟩, pn, pc)) (j + 1, H2, p67, pn + 1, c67) ⟨rfl, trivial⟩ ⟨rfl, rfl, rfl, rfl, rfl, rfl, trivial⟩ (fun _ s => (s.pick [1, 2, 3, 4, 5, 6] _ rfl rfl)) ⟨by dsimp only; omega, uP.trans u2, L ++ [L[0]], by simp; omega, h2, fun c m => (List.mem_append.1 m).elim (hall c) (fun m => by rw [List.mem_singleton.1 m]; exact hall _ (List.getElem_mem hL0))⟩ (by dsimp only; omega)
          · skip
            exact .ex <| .tE <| .tE <| .bE <| .bN <| .tN <| .me (H1, ⟨f.nm, f.flags, f.links, L⟩, _, ⟨nm0, vs0, vr0⟩, _, _, _, _) trivial ⟨rfl, rfl, rfl, rfl, rfl, trivial⟩ (fun _ s => s.pick [1, 2, 3, 0, 5, 4] [_, _, _, _, _, _] rfl rfl) ⟨uP, ft_shut (x := ⟨f.nm, f.flags, f.links, L⟩) n00 (k1.up uP.up) (k2.up uP.up) hr, ⟨(hok.mono (M := N + 100) (by omega)).flags, (hok.mono (M := N + 100) (by omega)).links, by show L.length ≤ _; have := hok.comps; omega, by show 0 < L.length; have := hok.pos; omega, fun c m => (hall c m).mono (by omega)⟩, (by show f.comps.length ≤ L.length; omega), n0, RepZ.up uP.up hz37, RepZ.up uP.up hz41, ok0.mono (by omega)⟩
        · skip
          refine .sq <| .rg <| .yv (.eql rfl rfl) rfl <| .a rfl rfl <| .nl <| .tN <| .cd rfl (fun h69 => ?_) (fun h69 => ?_)
          · skip
            refine .sq <| .rg <| .a rfl rfl <| .nl <| .tN <| .bk <| .pm [5, 0, 1, 2, 3, 4] [_, _, _, _, _, _] rfl rfl <| .lp (X := Nat × Hp × Option Addr × Nat × Nat) [(2, _), (3, _), (4, _), (5, _), (6, _), (7, _), (8, _)] ⟨rfl, rfl, rfl, rfl, rfl, rfl, rfl, trivial⟩ [_, _, _, _, _] (fun z => [(10, .int .i64 (z.1 : Nat))]) (fun z => z.2.1) (fun z => [.box b2 [strV f.nm, .slice z.2.2.1 z.2.2.2.1 z.2.2.2.2, .slice p2 f.links.length c2, .slice (some ⟨bE, oE, none⟩) f.comps.length c3] 49]) (fun z => z.1 ≤ m ∧ HUp w H z.2.1 ∧ ∃ L : List Fg, L.length = f.flags.length + z.1 ∧ Rep z.2.1 (.seq 2 (L.map dFg)) [.slice z.2.2.1 z.2.2.2.1 z.2.2.2.2]) (fun z => m - z.1) (0, H, _, _, _) (fun _ s => s) ⟨rfl, trivial⟩ ⟨by simp, .refl, f.flags, by simp, k1⟩ fun z hC => ?_
            obtain ⟨j, H1, pp, pn, pc⟩ := z
            dsimp only at hC ⊢
            obtain ⟨hj0, uP, L, hL, hr⟩ := hC
            have hpn := hr.len.1
            rw [List.length_map] at hpn
            have hrc := hr.cap
            refine .sq <| .sq <| .rg <| .m rfl rfl <| .m rfl rfl <| .yv (.lss rfl rfl) rfl <| .nl <| .tN <| .cd rfl (fun h73 => ?_) (fun h73 => ?_)
            · try simp only [decide_eq_true_eq] at h73
              have hj : j < m := by omega
              refine .sk <| .tN <| .sq <| .bk <| .rg <| .blR rfl Fx.bsl45_0 rfl (z := 2) rfl (by decide) fun g76 => .yv (.fieldAddr rfl Fx.field49_1) rfl <| .yv (.load rfl Fx.agg45 (.tail _ <|
                .head _) rfl) rfl <| .apD0 Fx.row45 rfl (fun _ _ => .head) rfl hr (by simp [maxLen]; omega) (by omega) rfl fun xs79 r79 hz79 => .m rfl rfl <| .yv (.build rfl (Fx.bld134_0 _)) rfl <|
                .bl rfl (Fx.bsl45_1 _ _) rfl fun b82 => .ap (news := [strV (wordR x.nm), .bool false]) Fx.row45 rfl (fun _ => (.tail <| .head)) rfl (.box (.head _) (fun j u h => by rw [Nat.zero_add]; exact h)) rfl (by simp [Value.oneCell', strV]) (by simp [maxLen]; omega) (by omega) rfl fun r83 _ => ?_
              refine At.ra (.tail _ <| .head _) fun p83 c83 e83 => ?_
              subst e83
              refine .yv (.fieldAddr rfl Fx.field49_1) rfl <| .st (.tail <| .tail <| .head) rfl rfl Fx.size45 rfl (Nat.le_of_ble_eq_true rfl) rfl <| ?_
              refine At.pm [1, 0, 2, 3, 4, 5, 6, 7] [_, _, _, _, _, _, _, _] rfl rfl ?_
              refine Sx.freezeSeq (ds := (L ++ [(⟨wordR x.nm, false⟩ : Fg)]).map dFg) (by simp <;> omega) (by rw [List.map_append]; exact hz79.snoc (fg_shut (x := ⟨wordR x.nm, false⟩) (Nat.le_trans (word_len _) (by decide))) rfl) fun H2 p2 c2 u2 e2 h2 => ?_
              obtain ⟨rfl, rfl⟩ := sl_inj e2
              exact .nl <| .bN <| .tN <| .rg <| .m rfl rfl <| .yv (.add rfl rfl (w64 (by omega) (by omega))) rfl <| .a rfl rfl <| .nl <| .tN <| .ag (x := (j, H1, pp, pn, pc)) (j + 1, H2, p83, pn + 1, c83) ⟨rfl, trivial⟩ ⟨rfl, rfl, rfl, rfl, rfl, rfl, rfl, trivial⟩ (fun _ s => (s.pick [1, 2, 3, 4, 5, 6] _ rfl rfl)) ⟨by dsimp only; omega, uP.trans u2, L ++ [⟨wordR x.nm, false⟩], by simp; omega, h2⟩ (by dsimp only; omega)
            · skip
              exact .ex <| .tE <| .tE <| .bE <| .bN <| .tN <| .me (H1, ⟨f.nm, L, f.links, f.comps⟩, _, ⟨nm0, vs0, vr0⟩, _, _, _, _) trivial ⟨rfl, rfl, rfl, rfl, rfl, trivial⟩ (fun _ s => s.pick [1, 2, 3, 0, 5, 4] [_, _, _, _, _, _] rfl rfl) ⟨uP, ft_shut (x := ⟨f.nm, L, f.links, f.comps⟩) n00 hr (k2.up uP.up) (k3.up uP.up), ⟨by show L.length ≤ _; have := hok.flags; omega, (hok.mono (M := N + 100) (by omega)).links, (hok.mono (M := N + 100) (by omega)).comps, hok.pos, (hok.mono (M := N + 100) (by omega)).all⟩, Nat.le_refl _, n0, RepZ.up uP.up hz37, RepZ.up uP.up hz41, ok0.mono (by omega)⟩
          · skip
            refine .sq <| .rg <| .yv (.eql rfl rfl) rfl <| .a rfl rfl <| .nl <| .tN <| .cd rfl (fun h85 => ?_) (fun h85 => ?_)
            · skip
              refine .sq <| .rg <| .a rfl rfl <| .nl <| .tN <| .bk <| .pm [5, 0, 1, 2, 3, 4] [_, _, _, _, _, _] rfl rfl <| .lp (X := Nat × Hp × Option Addr × Nat × Nat) [(2, _), (3, _), (4, _), (5, _), (6, _), (7, _), (8, _)] ⟨rfl, rfl, rfl, rfl, rfl, rfl, rfl, trivial⟩ [_, _, _, _, _] (fun z => [(11, .int .i64 (z.1 : Nat))]) (fun z => z.2.1) (fun z => [.box b2 [strV f.nm, .slice p1 f.flags.length c1, .slice z.2.2.1 z.2.2.2.1 z.2.2.2.2, .slice (some ⟨bE, oE, none⟩) f.comps.length c3] 49]) (fun z => z.1 ≤ 6 * m ∧ HUp w H z.2.1 ∧ ∃ L : List Lk, L.length = f.links.length + z.1 ∧ Rep z.2.1 (.seq 3 (L.map dLk)) [.slice z.2.2.1 z.2.2.2.1 z.2.2.2.2]) (fun z => 6 * m - z.1) (0, H, _, _, _) (fun _ s => s) ⟨rfl, trivial⟩ ⟨by simp, .refl, f.links, by simp, k2⟩ fun z hC => ?_
              obtain ⟨j, H1, pp, pn, pc⟩ := z
              dsimp only at hC ⊢
              obtain ⟨hj0, uP, L, hL, hr⟩ := hC
              have hpn := hr.len.1
              rw [List.length_map] at hpn
              have hrc := hr.cap
              refine .sq <| .sq <| .rg <| .m rfl rfl <| .m rfl rfl <| .yv (.mul rfl rfl (c := ((6 * m : Nat) : Int)) ((w64 (by omega) (by omega)).trans (by omega))) rfl <| .yv (.lss rfl rfl) rfl <|
                .nl <| .tN <| .cd rfl (fun h90 => ?_) (fun h90 => ?_)
              · try simp only [decide_eq_true_eq] at h90
                have hj : j < 6 * m := by omega
                refine .sk <| .tN <| .sq <| .bk <| .rg <| .blR rfl Fx.bsl46_0 rfl (z := 3) rfl (by decide) fun g93 => .yv (.fieldAddr rfl Fx.field49_2) rfl <| .yv (.load rfl Fx.agg46 (.tail _ <|
                  .head _) rfl) rfl <| .apD0 Fx.row46 rfl (fun _ _ => .head) rfl hr (by simp [maxLen]; omega) (by omega) rfl fun xs96 r96 hz96 => .m rfl rfl <| .yv (.build rfl (Fx.bld135_0_1_2 _ _ _)) rfl <|
                  .bl rfl (Fx.bsl46_1 _ _ _) rfl fun b99 => .ap (news := [strV [97], strV (wordR x.nm), .int .i64 1]) Fx.row46 rfl (fun _ => (.tail <| .head)) rfl (.box (.head _) (fun j u h => by rw [Nat.zero_add]; exact h)) rfl (by simp [Value.oneCell', strV]) (by simp [maxLen]; omega) (by omega) rfl fun r100 _ => ?_
                refine At.ra (.tail _ <| .head _) fun p100 c100 e100 => ?_
                subst e100
                refine .yv (.fieldAddr rfl Fx.field49_2) rfl <| .st (.tail <| .tail <| .head) rfl rfl Fx.size46 rfl (Nat.le_of_ble_eq_true rfl) rfl <| ?_
                refine At.pm [1, 0, 2, 3, 4, 5, 6, 7] [_, _, _, _, _, _, _, _] rfl rfl ?_
                refine Sx.freezeSeq (ds := (L ++ [(⟨[97], wordR x.nm, 1⟩ : Lk)]).map dLk) (by simp <;> omega) (by rw [List.map_append]; exact hz96.snoc (lk_shut (x := ⟨[97], wordR x.nm, 1⟩) (show [(97 : UInt8)].length ≤ 1000000 by decide) (Nat.le_trans (word_len _) (by decide))) rfl) fun H2 p2 c2 u2 e2 h2 => ?_
                obtain ⟨rfl, rfl⟩ := sl_inj e2
                exact .nl <| .bN <| .tN <| .rg <| .m rfl rfl <| .yv (.add rfl rfl (w64 (by omega) (by omega))) rfl <| .a rfl rfl <| .nl <| .tN <| .ag (x := (j, H1, pp, pn, pc)) (j + 1, H2, p100, pn + 1, c100) ⟨rfl, trivial⟩ ⟨rfl, rfl, rfl, rfl, rfl, rfl, rfl, trivial⟩ (fun _ s => (s.pick [1, 2, 3, 4, 5, 6] _ rfl rfl)) ⟨by dsimp only; omega, uP.trans u2, L ++ [⟨[97], wordR x.nm, 1⟩], by simp; omega, h2⟩ (by dsimp only; omega)
              · skip
                exact .ex <| .tE <| .tE <| .bE <| .bN <| .tN <| .me (H1, ⟨f.nm, f.flags, L, f.comps⟩, _, ⟨nm0, vs0, vr0⟩, _, _, _, _) trivial ⟨rfl, rfl, rfl, rfl, rfl, trivial⟩ (fun _ s => s.pick [1, 2, 3, 0, 5, 4] [_, _, _, _, _, _] rfl rfl) ⟨uP, ft_shut (x := ⟨f.nm, f.flags, L, f.comps⟩) n00 (k1.up uP.up) hr (k3.up uP.up), ⟨(hok.mono (M := N + 100) (by omega)).flags, by show L.length ≤ _; have := hok.links; omega, (hok.mono (M := N + 100) (by omega)).comps, hok.pos, (hok.mono (M := N + 100) (by omega)).all⟩, Nat.le_refl _, n0, RepZ.up uP.up hz37, RepZ.up uP.up hz41, ok0.mono (by omega)⟩
            · skip
              refine .sq <| .rg <| .yv (.eql rfl rfl) rfl <| .a rfl rfl <| .nl <| .tN <| .cd rfl (fun h102 => ?_) (fun h102 => ?_)
              · skip
                refine .ft (p := .light _ _ (.light _ _ (.light _ _ (.light _ _ (.light _ _ (.alt _ _ _ (.alt _ _ _ (.alt _ _ _ (.done) (.no)) (.alt _ _ _ (.alt _ _ _ (.done) (.no)) (.no))) (.alt _ _ _ (.alt _ _ _ (.alt _ _ _ (.done) (.no)) (.no)) (.no)))))))) 8 (.light 1 (.light 2 (.light 4 (.light 5 (.light 6 (.alt 0 0 (.alt 3 2 (.alt 7 0 (.done) (.no)) (.alt 7 0 (.alt 3 2 (.done) (.no)) (.no))) (.alt 7 0 (.alt 0 0 (.alt 3 2 (.done) (.no)) (.no)) (.no)))))))) (by kernel_rfl) (by kernel_rfl) rfl <|
                  .yv (.fieldAddr rfl Fx.field49_2) rfl <| .yv (.load rfl Fx.agg46 (.tail _ <| .tail _ <| .tail _ <| .tail _ <| .tail _ <| .head _) rfl) rfl <| .yv (.fieldAddr rfl Fx.field101_3) rfl <|
                  .yv (.load rfl Fx.agg2 (.tail _ <| .tail _ <| .tail _ <| .tail _ <| .head _) rfl) rfl <| .yv (.build rfl (Fx.bld135_0_1_2 _ _ _)) rfl <| .h ?_ (.h ?_ .nn)
                ·
                  refine .blR rfl Fx.bsl46_0 rfl (z := 3) rfl (by decide) fun g104 => .h ?_ (.h ?_ .nn)
                  ·
                    refine .apD0 Fx.row46 rfl (fun _ _ => .head) rfl k2 (by simp [maxLen]; omega) (by omega) rfl (fun _ _ => (.yv (.build rfl (Fx.bld135_0_1_2 _ _ _)) <| .yv (.load rfl Fx.agg2 (.tail _ <|
                      .tail _ <| .tail _ <| .tail _ <| .tail _ <| .head _) rfl) <| .yv (.fieldAddr rfl Fx.field101_3) <| .done (by kernel_rfl) <| .done (by kernel_rfl) <| .nl)) fun xs107 p107 c107 hz107 => .h1 <|
                      .bl rfl (Fx.bsl46_1 _ _ _) rfl fun b111 => .fn (tl := [_, _, _]) rfl <| .ap (news := [strV [97], strV [97], .int .i64 x.n.toInt]) Fx.row46 rfl (fun _ => (.tail <|
                      .head)) rfl (.box (.head _) (fun j u h => by rw [Nat.zero_add]; exact h)) rfl (by simp [Value.oneCell', strV]) (by simp [maxLen]; omega) (by omega) rfl fun r112 _ => ?_
                    refine At.ra (.tail _ <| .head _) fun p112 c112 e112 => ?_
                    subst e112
                    refine .yv (.fieldAddr rfl Fx.field49_2) rfl <| .st (.tail <| .tail <| .tail <| .tail <| .tail <| .tail <| .tail <| .head) rfl rfl Fx.size46 rfl (Nat.le_of_ble_eq_true rfl) rfl <|
                      ?_
                    refine At.pm [1, 0, 2, 3, 4, 5, 6, 7] [_, _, _, _, _, _, _, _] rfl rfl ?_
                    refine Sx.freezeSeq (ds := (f.links ++ [(⟨[97], [97], x.n⟩ : Lk)]).map dLk) (by simp <;> omega) (by rw [List.map_append]; exact hz107.snoc (lk_shut (x := ⟨[97], [97], x.n⟩) (show [(97 : UInt8)].length ≤ 1000000 by decide) (show [(97 : UInt8)].length ≤ 1000000 by decide)) rfl) fun H2 p2 c2 u2 e2 h2 => ?_
                    obtain ⟨rfl, rfl⟩ := sl_inj e2
                    exact .nl <| .bN <| .tN <| .me (H2, ⟨f.nm, f.flags, f.links ++ [⟨[97], [97], x.n⟩], f.comps⟩, _, ⟨nm0, vs0, vr0⟩, _, _, _, _) trivial ⟨rfl, rfl, rfl, rfl, rfl, trivial⟩ (fun _ s => s.pick [1, 2, 3, 6, 5, 4] [_, _, _, _, _, _] rfl rfl) ⟨u2, ft_shut (x := ⟨f.nm, f.flags, f.links ++ [⟨[97], [97], x.n⟩], f.comps⟩) n00 (k1.up u2.up) h2 (k3.up u2.up), ⟨(hok.mono (M := N + 100) (by omega)).flags, by show (f.links ++ [_]).length ≤ _; have := hok.links; rw [List.length_append, List.length_singleton]; omega, (hok.mono (M := N + 100) (by omega)).comps, hok.pos, (hok.mono (M := N + 100) (by omega)).all⟩, Nat.le_refl _, n0, RepZ.up u2.up hz37, RepZ.up u2.up hz41, ok0.mono (by omega)⟩
                  ·
                    refine .bl rfl (Fx.bsl46_1 _ _ _) rfl fun b111 => .h1 <| .apD0 Fx.row46 rfl (fun _ _ => (.tail <| .head)) rfl k2 (by simp [maxLen]; omega) (by omega) rfl (fun _ _ => (.yv (.build rfl (Fx.bld135_0_1_2 _ _ _)) <|
                      .yv (.load rfl Fx.agg2 (.tail _ <| .tail _ <| .tail _ <| .tail _ <| .tail _ <| .tail _ <| .head _) rfl) <| .yv (.fieldAddr rfl Fx.field101_3) <| .done (by kernel_rfl) <|
                      .done (by kernel_rfl) <| .nl)) fun xs107 p107 c107 hz107 => .fn (tl := [_, _, _]) rfl <| .ap (news := [strV [97], strV [97], .int .i64 x.n.toInt]) Fx.row46 rfl (fun _ => (.tail <|
                      .head)) rfl (.box (.head _) (fun j u h => by rw [Nat.zero_add]; exact h)) rfl (by simp [Value.oneCell', strV]) (by simp [maxLen]; omega) (by omega) rfl fun r112 _ => ?_
                    refine At.ra (.tail _ <| .head _) fun p112 c112 e112 => ?_
                    subst e112
                    refine .yv (.fieldAddr rfl Fx.field49_2) rfl <| .st (.tail <| .tail <| .tail <| .tail <| .tail <| .tail <| .tail <| .head) rfl rfl Fx.size46 rfl (Nat.le_of_ble_eq_true rfl) rfl <|
                      ?_
                    refine At.pm [1, 0, 2, 3, 4, 5, 6, 7] [_, _, _, _, _, _, _, _] rfl rfl ?_
                    refine Sx.freezeSeq (ds := (f.links ++ [(⟨[97], [97], x.n⟩ : Lk)]).map dLk) (by simp <;> omega) (by rw [List.map_append]; exact hz107.snoc (lk_shut (x := ⟨[97], [97], x.n⟩) (show [(97 : UInt8)].length ≤ 1000000 by decide) (show [(97 : UInt8)].length ≤ 1000000 by decide)) rfl) fun H2 p2 c2 u2 e2 h2 => ?_
                    obtain ⟨rfl, rfl⟩ := sl_inj e2
                    exact .nl <| .bN <| .tN <| .me (H2, ⟨f.nm, f.flags, f.links ++ [⟨[97], [97], x.n⟩], f.comps⟩, _, ⟨nm0, vs0, vr0⟩, _, _, _, _) trivial ⟨rfl, rfl, rfl, rfl, rfl, trivial⟩ (fun _ s => s.pick [1, 2, 3, 6, 5, 4] [_, _, _, _, _, _] rfl rfl) ⟨u2, ft_shut (x := ⟨f.nm, f.flags, f.links ++ [⟨[97], [97], x.n⟩], f.comps⟩) n00 (k1.up u2.up) h2 (k3.up u2.up), ⟨(hok.mono (M := N + 100) (by omega)).flags, by show (f.links ++ [_]).length ≤ _; have := hok.links; rw [List.length_append, List.length_singleton]; omega, (hok.mono (M := N + 100) (by omega)).comps, hok.pos, (hok.mono (M := N + 100) (by omega)).all⟩, Nat.le_refl _, n0, RepZ.up u2.up hz37, RepZ.up u2.up hz41, ok0.mono (by omega)⟩
                ·
                  refine .bl rfl (Fx.bsl46_1 _ _ _) rfl fun b111 => .h1 <| .blR rfl Fx.bsl46_0 rfl (z := 3) rfl (by decide) fun g104 => .h1 <| .apD0 Fx.row46 rfl (fun _ _ => .head) rfl k2 (by simp [maxLen]; omega) (by omega) rfl (fun _ _ => (.yv (.build rfl (Fx.bld135_0_1_2 _ _ _)) <|
                    .yv (.load rfl Fx.agg2 (.tail _ <| .tail _ <| .tail _ <| .tail _ <| .tail _ <| .tail _ <| .head _) rfl) <| .yv (.fieldAddr rfl Fx.field101_3) <| .done (by kernel_rfl) <|
                    .done (by kernel_rfl) <| .nl)) fun xs107 p107 c107 hz107 => .fn (tl := [_, _, _]) rfl <| .ap (news := [strV [97], strV [97], .int .i64 x.n.toInt]) Fx.row46 rfl (fun _ => .head) rfl (.box (.tail _ <|
                    .head _) (fun j u h => by rw [Nat.zero_add]; exact h)) rfl (by simp [Value.oneCell', strV]) (by simp [maxLen]; omega) (by omega) rfl fun r112 _ => ?_
                  refine At.ra (.head _) fun p112 c112 e112 => ?_
                  subst e112
                  refine .yv (.fieldAddr rfl Fx.field49_2) rfl <| .st (.tail <| .tail <| .tail <| .tail <| .tail <| .tail <| .tail <| .head) rfl rfl Fx.size46 rfl (Nat.le_of_ble_eq_true rfl) rfl <|
                    ?_
                  refine Sx.freezeSeq (ds := (f.links ++ [(⟨[97], [97], x.n⟩ : Lk)]).map dLk) (by simp <;> omega) (by rw [List.map_append]; exact hz107.snoc (lk_shut (x := ⟨[97], [97], x.n⟩) (show [(97 : UInt8)].length ≤ 1000000 by decide) (show [(97 : UInt8)].length ≤ 1000000 by decide)) rfl) fun H2 p2 c2 u2 e2 h2 => ?_
                  obtain ⟨rfl, rfl⟩ := sl_inj e2
                  exact .nl <| .bN <| .tN <| .me (H2, ⟨f.nm, f.flags, f.links ++ [⟨[97], [97], x.n⟩], f.comps⟩, _, ⟨nm0, vs0, vr0⟩, _, _, _, _) trivial ⟨rfl, rfl, rfl, rfl, rfl, trivial⟩ (fun _ s => s.pick [1, 2, 3, 6, 5, 4] [_, _, _, _, _, _] rfl rfl) ⟨u2, ft_shut (x := ⟨f.nm, f.flags, f.links ++ [⟨[97], [97], x.n⟩], f.comps⟩) n00 (k1.up u2.up) h2 (k3.up u2.up), ⟨(hok.mono (M := N + 100) (by omega)).flags, by show (f.links ++ [_]).length ≤ _; have := hok.links; rw [List.length_append, List.length_singleton]; omega, (hok.mono (M := N + 100) (by omega)).comps, hok.pos, (hok.mono (M := N + 100) (by omega)).all⟩, Nat.le_refl _, n0, RepZ.up u2.up hz37, RepZ.up u2.up hz41, ok0.mono (by omega)⟩
              · skip
                refine .sq <| .rg <| .yv (.eql rfl rfl) rfl <| .a rfl rfl <| .nl <| .tN <| .cd rfl (fun h114 => ?_) (fun h114 => ?_)
                · skip
                  exact .rg <| .m rfl rfl <| .yv (.fieldAddr rfl Fx.field54_0) rfl <| .st (.tail <| .tail <| .head) rfl rfl Fx.size9 rfl (Nat.le_of_ble_eq_true rfl) rfl <| .nl <|
                    .bN <| .tN <| .me (H, f, _, ⟨wordR x.nm, vs0, vr0⟩, _, _, _, _) trivial ⟨rfl, rfl, rfl, rfl, rfl, trivial⟩ (fun _ s => s.pick [0, 1, 2, 5, 4, 3] [_, _, _, _, _, _] rfl rfl) ⟨.refl, h, hok.mono (by omega), Nat.le_refl _, (Nat.le_trans (word_len _) (by decide)), hz37, hz41, ⟨(ok0.mono (M := N + 100) (by omega)).vars, (ok0.mono (M := N + 100) (by omega)).vers, (ok0.mono (M := N + 100) (by omega)).all⟩⟩
                · skip
                  refine .sq <| .rg <| .yv (.eql rfl rfl) rfl <| .a rfl rfl <| .nl <| .tN <| .cd rfl (fun h118 => ?_) (fun h118 => ?_)
                  · skip
                    refine .sq <| .rg <| .a rfl rfl <| .nl <| .tN <| .bk <| .pm [0, 2, 1, 3, 4, 5] [_, _, _, _, _, _] rfl rfl <| .lp (X := Nat × Value × List Value) [(2, _), (3, _), (4, _), (5, _), (6, _), (7, _), (8, _)] ⟨rfl, rfl, rfl, rfl, rfl, rfl, rfl, trivial⟩ [_, _, _, _] (fun z => [(12, .int .i64 (z.1 : Nat))]) (fun z => H) (fun z => [.row 140 3 z.2.1 (vs0.length + z.1) z.2.2, .box b8 [strV nm0, z.2.1, .slice p41 vr0.length c41] 54]) (fun z => z.1 ≤ m ∧ RepZ H 3 ((vs0 ++ List.replicate z.1 (wvar x.nm)).map (dVr .i64)) z.2.2) (fun z => m - z.1) (0, _, _) (fun _ s => s) ⟨rfl, trivial⟩ ⟨by simp, by simpa using hz37⟩ fun z hC => ?_
                    obtain ⟨j, rv, ys⟩ := z
                    dsimp only at hC ⊢
                    obtain ⟨hj0, hzv⟩ := hC
                    refine .sq <| .sq <| .rg <| .m rfl rfl <| .m rfl rfl <| .yv (.lss rfl rfl) rfl <| .nl <| .tN <| .cd rfl (fun h122 => ?_) (fun h122 => ?_)
                    · try simp only [decide_eq_true_eq] at h122
                      have hj : j < m := by omega
                      refine .sk <| .tN <| .sq <| .bk <| .rg <| .yv (.fieldAddr rfl Fx.field54_1) rfl <| .yv (.load rfl Fx.agg51 (.tail _ <| .head _) rfl) rfl <| .m rfl rfl <| .yv (.build rfl (Fx.bld140_0_1 _ _)) rfl <|
                        .bl rfl (Fx.bsl51_1 _ _ _) rfl fun b129 => .ap (news := [strV (wordR x.nm), .int .i64 1, .int .i64 0]) Fx.row51 rfl (fun _ => (.tail <| .head)) rfl (.box (.head _) (fun j u h => by rw [Nat.zero_add]; exact h)) rfl (by simp [Value.oneCell', strV]) (by simp [maxLen]; omega) (by omega) rfl fun r130 _ => ?_
                      refine At.ra (.tail _ <| .head _) fun p130 c130 e130 => ?_
                      exact .yv (.fieldAddr rfl Fx.field54_1) rfl <| .st (.tail <| .tail <| .head) rfl rfl Fx.size51 (by rw [e130]; rfl) (Nat.le_of_ble_eq_true rfl) rfl <| .nl <| .bN <|
                        .tN <| .rg <| .m rfl rfl <| .yv (.add rfl rfl (w64 (by omega) (by omega))) rfl <| .a rfl rfl <| .nl <| .tN <| .ag (x := (j, rv, ys)) (j + 1, r130, ys ++ [strV (wordR x.nm), .int .i64 1, .int .i64 0]) ⟨rfl, trivial⟩ ⟨rfl, rfl, rfl, rfl, rfl, rfl, rfl, trivial⟩ (fun _ s => (s.pick [1, 2, 3, 4, 5, 6] _ rfl rfl)) ⟨by dsimp only; omega, by dsimp only; rw [List.replicate_succ', ← List.append_assoc, List.map_append]; exact hzv.snoc (vr_shut (x := wvar x.nm) (Nat.le_trans (word_len _) (by decide))) rfl⟩ (by dsimp only; omega)
                    · try simp only [decide_eq_false_iff_not] at h122
                      obtain rfl : m = j := by omega
                      exact .ex <| .tE <| .tE <| .bE <| .bN <| .tN <| .me (H, f, _, ⟨nm0, vs0 ++ List.replicate m (wvar x.nm), vr0⟩, _, _, _, _) trivial ⟨rfl, rfl, rfl, rfl, rfl, trivial⟩ (fun _ s => by rw [show (vs0 ++ List.replicate m (wvar x.nm)).length = vs0.length + m by simp]; exact (s.pick [0, 2, 1, 5, 4, 3] _ rfl rfl)) ⟨.refl, h, hok.mono (by omega), Nat.le_refl _, n0, hzv, hz41, ⟨by show (vs0 ++ _).length ≤ _; have : vs0.length ≤ N := ok0.vars; simp; omega, (ok0.mono (M := N + 100) (by omega)).vers, (ok0.mono (M := N + 100) (by omega)).all⟩⟩
                  · skip
                    refine .sq <| .rg <| .yv (.eql rfl rfl) rfl <| .a rfl rfl <| .nl <| .tN <| .cd rfl (fun h132 => ?_) (fun h132 => ?_)
                    · skip
                      refine .rg <| .yv (.fieldAddr rfl Fx.field54_1) rfl <| .yv (.load rfl Fx.agg51 (.tail _ <| .tail _ <| .head _) rfl) rfl <| .yv (.fieldAddr rfl Fx.field101_2) rfl <|
                        .yv (.load rfl Fx.agg5 (.tail _ <| .tail _ <| .tail _ <| .tail _ <| .head _) rfl) rfl <| .yv (.rem rfl rfl (by decide) (c := ((x.nm.toNat % 5 : Nat) : Int)) (by rw [Int.tmod_eq_emod_of_nonneg (by omega)]; omega)) rfl <|
                        .yv (.conv rfl Fx.int5 Fx.int3 (c := ((x.nm.toNat % 5 : Nat) : Int)) (w64 (by omega) (by omega))) rfl <| .yv (.fieldAddr rfl Fx.field101_3) rfl <| .yv (.load rfl Fx.agg2 (.tail _ <|
                        .tail _ <| .tail _ <| .tail _ <| .head _) rfl) rfl <| .yv (.build rfl (Fx.bld140_0_1_2 _ _ _)) rfl <| .bl rfl (Fx.bsl51_1 _ _ _) rfl fun b143 => .ap (news := [strV [121], .int .i64 (x.nm.toNat % 5 : Nat), .int .i64 x.n.toInt]) Fx.row51 rfl (fun _ => (.tail <|
                        .head)) rfl (.box (.head _) (fun j u h => by rw [Nat.zero_add]; exact h)) rfl (by simp [Value.oneCell', strV]) (by simp [maxLen]; omega) (by omega) rfl fun r144 _ => ?_
                      refine At.ra (.tail _ <| .head _) fun p144 c144 e144 => ?_
                      subst e144
                      exact .yv (.fieldAddr rfl Fx.field54_1) rfl <| .st (.tail <| .tail <| .tail <| .head) rfl rfl Fx.size51 rfl (Nat.le_of_ble_eq_true rfl) rfl <| .nl <| .bN <| .tN <|
                        .me (H, f, _, ⟨nm0, vs0 ++ [⟨[121], UInt8.ofNat (x.nm.toNat % 5), x.n⟩], vr0⟩, _, _, _, _) trivial ⟨rfl, rfl, rfl, rfl, rfl, trivial⟩ (fun _ s => by rw [show (vs0 ++ [⟨[121], UInt8.ofNat (x.nm.toNat % 5), x.n⟩] : List Vr).length = vs0.length + 1 by simp]; exact (s.pick [1, 2, 3, 6, 5, 4] _ rfl rfl)) ⟨.refl, h, hok.mono (by omega), Nat.le_refl _, n0, (by rw [List.map_append]; exact hz37.snoc (yvar_shut _ _) rfl), hz41, ⟨by show (vs0 ++ [_]).length ≤ _; have : vs0.length ≤ N := ok0.vars; simp; omega, (ok0.mono (M := N + 100) (by omega)).vers, (ok0.mono (M := N + 100) (by omega)).all⟩⟩
                    · skip
                      refine .sq <| .rg <| .yv (.eql rfl rfl) rfl <| .a rfl rfl <| .nl <| .tN <| .cd rfl (fun h146 => ?_) (fun h146 => ?_)
                      · skip
                        refine .rg <| .yv (.fieldAddr rfl Fx.field54_2) rfl <| .st (.tail <| .tail <| .head) rfl rfl Fx.size52 rfl (Nat.le_of_ble_eq_true rfl) rfl <| ?_
                        refine Sx.row0 55 1 ?_
                        exact .nl <| .bN <| .tN <| .me (H, f, _, ⟨nm0, vs0, []⟩, _, _, _, _) trivial ⟨rfl, rfl, rfl, rfl, rfl, trivial⟩ (fun _ s => s.pick [1, 0, 3, 6, 5, 4] [_, _, _, _, _, _] rfl rfl) ⟨.refl, h, hok.mono (by omega), Nat.le_refl _, n0, hz37, .nil, ⟨(ok0.mono (M := N + 100) (by omega)).vars, by simp, fun _ h => by cases h⟩⟩
                      · skip
                        refine .sq <| .rg <| .yv (.eql rfl rfl) rfl <| .a rfl rfl <| .nl <| .tN <| .cd rfl (fun h149 => ?_) (fun h149 => ?_)
                        · skip
                          refine .sq <| .rg <| .a rfl rfl <| .nl <| .tN <| .bk <| .pm [1, 2, 0, 3, 4, 5] [_, _, _, _, _, _] rfl rfl <| .lp (X := Nat × Value × List Value) [(2, _), (3, _), (4, _), (5, _), (7, _), (8, _)] ⟨rfl, rfl, rfl, rfl, rfl, rfl, trivial⟩ [_, _, _, _] (fun z => [(13, .int .i64 (z.1 : Nat))]) (fun z => H) (fun z => [.row 55 1 z.2.1 (vr0.length + z.1) z.2.2, .box b8 [strV nm0, .slice p37 vs0.length c37, z.2.1] 54]) (fun z => z.1 ≤ m ∧ RepZ H 1 ((vr0 ++ List.replicate z.1 []).map (dVs .i64)) z.2.2) (fun z => m - z.1) (0, _, _) (fun _ s => s) ⟨rfl, trivial⟩ ⟨by simp, by simpa using hz41⟩ fun z hC => ?_
                          obtain ⟨j, rv, ys⟩ := z
                          dsimp only at hC ⊢
                          obtain ⟨hj0, hzv⟩ := hC
                          refine .sq <| .sq <| .rg <| .m rfl rfl <| .m rfl rfl <| .yv (.lss rfl rfl) rfl <| .nl <| .tN <| .cd rfl (fun h153 => ?_) (fun h153 => ?_)
                          · try simp only [decide_eq_true_eq] at h153
                            have hj : j < m := by omega
                            refine .sk <| .tN <| .sq <| .bk <| .rg <| .yv (.fieldAddr rfl Fx.field54_2) rfl <| .yv (.load rfl Fx.agg52 (.tail _ <| .head _) rfl) rfl <| .bl rfl (Fx.bsl52_1 _ _ _) rfl fun b158 => .ap (news := [.slice none 0 0]) Fx.row52 rfl (fun _ => (.tail <|
                              .head)) rfl (.box (.head _) (fun j u h => by rw [Nat.zero_add]; exact h)) rfl (by simp [Value.oneCell', strV]) (by simp [maxLen]; omega) (by omega) rfl fun r159 _ => ?_
                            refine At.ra (.tail _ <| .head _) fun p159 c159 e159 => ?_
                            exact .yv (.fieldAddr rfl Fx.field54_2) rfl <| .st (.tail <| .tail <| .head) rfl rfl Fx.size52 (by rw [e159]; rfl) (Nat.le_of_ble_eq_true rfl) rfl <| .nl <| .bN <|
                              .tN <| .rg <| .m rfl rfl <| .yv (.add rfl rfl (w64 (by omega) (by omega))) rfl <| .a rfl rfl <| .nl <| .tN <| .ag (x := (j, rv, ys)) (j + 1, r159, ys ++ [.slice none 0 0]) ⟨rfl, trivial⟩ ⟨rfl, rfl, rfl, rfl, rfl, rfl, trivial⟩ (fun _ s => (s.pick [1, 2, 3, 4, 5, 6] _ rfl rfl)) ⟨by dsimp only; omega, by dsimp only; rw [List.replicate_succ', ← List.append_assoc, List.map_append]; exact hzv.snoc (Rep.empty (by decide)) rfl⟩ (by dsimp only; omega)
                          · try simp only [decide_eq_false_iff_not] at h153
                            obtain rfl : m = j := by omega
                            exact .ex <| .tE <| .tE <| .bE <| .bN <| .tN <| .me (H, f, _, ⟨nm0, vs0, vr0 ++ List.replicate m []⟩, _, _, _, _) trivial ⟨rfl, rfl, rfl, rfl, rfl, trivial⟩ (fun _ s => by rw [show (vr0 ++ List.replicate m ([] : List Hd)).length = vr0.length + m by simp]; exact (s.pick [2, 0, 1, 5, 4, 3] _ rfl rfl)) ⟨.refl, h, hok.mono (by omega), Nat.le_refl _, n0, hz37, hzv, ⟨(ok0.mono (M := N + 100) (by omega)).vars, by show (vr0 ++ _).length ≤ _; have : vr0.length ≤ N := ok0.vers; simp; omega, fun v hv => (List.mem_append.1 hv).elim ((ok0.mono (M := N + 100) (by omega)).all v) (fun hv => by rw [List.eq_of_mem_replicate hv]; exact .nil)⟩⟩
                        · skip
                          exact .sk <| .bN <| .tN <| .me (H, f, _, ⟨nm0, vs0, vr0⟩, _, _, _, _) trivial ⟨rfl, rfl, rfl, rfl, rfl, trivial⟩ (fun _ s => s.pick [0, 1, 2, 5, 4, 3] [_, _, _, _, _, _] rfl rfl) ⟨.refl, h, hok.mono (by omega), Nat.le_refl _, n0, hz37, hz41, ok0.mono (by omega)⟩
    ·
      obtain ⟨H1, f1, cs1, c1, rv, xv, rs, xs⟩ := z
      dsimp only at hC ⊢
      obtain ⟨u1, hf1, okf, hle, nc, hzv, hzs, okc⟩ := hC
      obtain ⟨p11, c11, p12, c12, p13, c13, rfl, nf1, kf1, kf2, kf3⟩ := ft_open hf1
      have hi1 : i < f1.comps.length := by omega
      refine At.ra (.head _) fun p177 c177 e177 => ?_
      subst e177
      refine At.ra (.tail _ (.head _)) fun p178 c178 e178 => ?_
      subst e178
      have hvl1 : c1.vers.length ≤ N + 100 := okc.vers
      have hcl1 := okf.comps
      refine .cu (X := Hp × Cp × List Value) [(2, _), (3, _), (4, _), (7, _), (8, _)] ⟨rfl, rfl, rfl, rfl, rfl, trivial⟩ (fun z => []) (fun z => z.1) (fun z => [.box b8 z.2.2 54, .box b2 [strV f1.nm, .slice p11 f1.flags.length c11, .slice p12 f1.links.length c12, .slice p13 f1.comps.length c13] 49, .box b3 [.int .u8 x.wh.toNat, .int .u8 x.i.toNat, .int .u8 x.nm.toNat, .int .i64 x.n.toInt, .slice pN x.nodes.length cN] 101, .box b4 [.string ⟨#[]⟩, .slice none 0 0, .slice none 0 0, .slice none 0 0] 49]) (fun z => HUp w H1 z.1 ∧ Rep z.1 (dCp .i64 z.2.1) z.2.2 ∧ okCp (2 * (N + 100) + 100) z.2.1) ?_ fun z hC => ?_
      ·
        refine .sq <| .rg <| .yv (.fieldAddr rfl Fx.field101_0) rfl <| .yv (.load rfl Fx.agg5 (.tail _ <| .tail _ <| .tail _ <| .tail _ <| .head _) rfl) rfl <| .yv (.rem rfl rfl (by decide) (c := ((x.wh.toNat % 26 : Nat) : Int)) (by rw [Int.tmod_eq_emod_of_nonneg (by omega)]; omega)) rfl <|
          .yv (.gtr rfl rfl) rfl <| .m rfl rfl <| .b2 (fun h165 => ?_) (fun h165 => ?_)
        · skip
          refine .gd rfl rfl <| .yv (.fieldAddr rfl Fx.field54_2) rfl <| .gd rfl rfl <| .yv (.load rfl Fx.agg52 (.tail _ <| .tail _ <| .head _) rfl) rfl <| .gd rfl rfl <|
            .yv (.lenSl Fx.sl52 rfl) rfl <| .gd rfl rfl <| .yv (.gtr rfl rfl) rfl <| .yv (.pickT rfl rfl) rfl <| .m rfl rfl <| .b2 (fun h171 => ?_) (fun h171 => ?_)
          · try simp only [decide_eq_true_eq] at h171
            have hv0 : 0 < c1.vers.length := by omega
            refine At.rs (.tail _ (.head _)) hv0 fun gS cS eS => ?_
            obtain ⟨rfl, rfl⟩ := sl_inj eS
            obtain ⟨cV, rV, lV, mV⟩ := hzs.at (i := 0) (map_at (f := dVs .i64) hv0)
            have okv := okc.all _ (List.getElem_mem hv0)
            generalize hl0 : c1.vers[0] = l0 at rV okv
            obtain ⟨pz, cz, rfl, rz⟩ := vs_open rV
            have hmz : xs[0]? = some (.slice pz l0.length cz) := mV 0 _ rfl
            refine .gd rfl rfl <| .yv (.fieldAddr rfl Fx.field54_2) rfl <| .gd rfl rfl <| .yv (.load rfl Fx.agg52 (.tail _ <| .tail _ <| .head _) rfl) rfl <| .gd rfl rfl <|
              .yv (.indexSl Fx.sl52 rfl rfl (i := 0) rfl hv0 (q := 0) rfl) rfl <| .gd rfl rfl <| .yv (.loadSrc rfl Fx.agg55 (.row (.tail _ <| .head _) (one_at hmz))) rfl <|
              .gd rfl rfl <| .yv (.lenSl Fx.sl55 rfl) rfl <| .gd rfl rfl <| .yv (.gtr rfl rfl) rfl <| .yv (.pickT rfl rfl) rfl <| .nl <| .tN <| .cd rfl (fun h178 => ?_) (fun h178 => ?_)
            · try simp only [decide_eq_true_eq] at h178
              have hl0p : 0 < l0.length := by omega
              refine At.pm [1, 0, 2, 3, 4, 5] [_, _, _, _, _, _] rfl rfl ?_
              refine At.rc hv0 fun moreS hcS1 hcS2 => ?_
              refine .fl (trip := [(_, _, _), (_, _, _), (_, _, _), (_, _, _), (_, _, _), (_, _, _), (_, _, _), (_, _, _)]) 8 [(0, 0), (1, 0), (2, 0), (3, 0), (4, 0), (5, 0), (6, 0), (7, 1)] (by kernel_rfl) (by kernel_rfl) rfl <|
                .yv (.fieldAddr rfl Fx.field54_2) rfl <| .yv (.load rfl Fx.agg52 (.tail _ <| .tail _ <| .head _) rfl) rfl <| .yv (.fieldAddr rfl Fx.field54_2) rfl <| .yv (.load rfl Fx.agg52 (.tail _ <|
                .tail _ <| .head _) rfl) rfl <| .yv (.indexSl Fx.sl52 rfl rfl (i := 0) rfl hv0 (q := 0) rfl) rfl <| .yv (.load (v := .slice pz l0.length cz) rfl Fx.agg55 (.head _) (get_app hmz)) rfl <|
                .yv (.loadW rfl Fx.agg101 (.tail _ <| .tail _ <| .tail _ <| .tail _ <| .head _) rfl) rfl <| .ct (X := Value) Fx.call58 rfl (fun W s => handlersOf_any H1 l0 x _ _ (N + 100) (by omega) W rz (hX.up u1.up) hl0p okv s.agr) rfl fun v186 H186 hc186 u186 => ?_
              obtain ⟨l2, hl2, okl2⟩ := hc186
              obtain ⟨pl2, cl2, el2, _⟩ := hl2.sl
              simp only [List.cons.injEq, and_true, List.length_map] at el2
              subst el2
              refine .fn (tl := [_, _]) rfl <| .yv (.indexSl Fx.sl52 rfl rfl (i := 0) rfl hv0 (q := 0) rfl) rfl <| .st (l' := ((xs ++ moreS).set 0 (.slice pl2 l2.length cl2))) .head rfl rfl Fx.size55 rfl (by rw [List.length_append, hzs.len, List.length_map]; omega) rfl <|
                ?_
              refine Sx.freezeBox fun HS uS mS0 => ?_
              have mS1 : MemAt HS gS 0 (setsL xs (0 * 1) [.slice pl2 l2.length cl2] ++ moreS) := by rw [← setsL_app [.slice pl2 l2.length cl2] xs moreS (0 * 1) (by rw [hzs.len, List.length_map]; simp; omega)]; exact mS0
              have hSx0 : Rep HS (.seq 1 ((c1.vers.set 0 l2).map (dVs .i64))) [.slice (some ⟨gS, 0, none⟩) c1.vers.length c178] := Rep.mk mS1.pre (by rw [List.map_set]; exact RepZ.put (i := 0) (hl2.up uS.up) rfl (hzs.up (u186.trans uS).up) (by simpa using hv0)) (by simp) hcS1 hcS2
              refine Sx.freezeSeq (ds := c1.vars.map (dVr .i64)) (by simp) (hzv.up (u186.trans uS).up) fun HV pV cV uV eV hV => ?_
              obtain ⟨rfl, rfl⟩ := sl_inj eV
              have uu := u186.trans (uS.trans uV)
              have hSx := hSx0.up uV.up
              exact .nl <| .tN <| .me (HV, ⟨c1.nm, c1.vars, c1.vers.set 0 l2⟩, _) trivial ⟨rfl, rfl, rfl, rfl, rfl, trivial⟩ (fun _ s => s) ⟨uu, cp_shut (x := ⟨c1.nm, c1.vars, c1.vers.set 0 l2⟩) nc hV hSx, okC_set okc okl2⟩
            · skip
              refine .sk <| .tN <| ?_
              refine At.pm [1, 0, 2, 3, 4, 5] [_, _, _, _, _, _] rfl rfl ?_
              refine Sx.freezeSeq (ds := c1.vers.map (dVs .i64)) (by simp) hzs fun HS pS cS uS eS hS0 => ?_
              obtain ⟨rfl, rfl⟩ := sl_inj eS
              refine Sx.freezeSeq (ds := c1.vars.map (dVr .i64)) (by simp) (hzv.up uS.up) fun HV pV cV uV eV hV => ?_
              obtain ⟨rfl, rfl⟩ := sl_inj eV
              have uu := uS.trans uV
              have hS := hS0.up uV.up
              exact .me (HV, c1, _) trivial ⟨rfl, rfl, rfl, rfl, rfl, trivial⟩ (fun _ s => s) ⟨uu, cp_shut nc hV hS, okc.mono (by omega)⟩
          · skip
            refine .gF rfl rfl rfl rfl <| .gF rfl rfl rfl rfl <| .gF rfl rfl rfl rfl <| .gF rfl rfl rfl rfl <| .gF rfl rfl rfl rfl <| .gF rfl rfl rfl rfl <| .yv (.pickF rfl rfl) rfl <|
              .nl <| .tN <| .cF rfl <| .sk <| .tN <| ?_
            refine At.pm [1, 0, 2, 3, 4, 5] [_, _, _, _, _, _] rfl rfl ?_
            refine Sx.freezeSeq (ds := c1.vers.map (dVs .i64)) (by simp) hzs fun HS pS cS uS eS hS0 => ?_
            obtain ⟨rfl, rfl⟩ := sl_inj eS
            refine Sx.freezeSeq (ds := c1.vars.map (dVr .i64)) (by simp) (hzv.up uS.up) fun HV pV cV uV eV hV => ?_
            obtain ⟨rfl, rfl⟩ := sl_inj eV
            have uu := uS.trans uV
            have hS := hS0.up uV.up
            exact .me (HV, c1, _) trivial ⟨rfl, rfl, rfl, rfl, rfl, trivial⟩ (fun _ s => s) ⟨uu, cp_shut nc hV hS, okc.mono (by omega)⟩
        · skip
          refine .gF rfl rfl rfl rfl <| .gF rfl rfl rfl rfl <| .gF rfl rfl rfl rfl <| .gF rfl rfl rfl rfl <| .yv (.pickF rfl rfl) rfl <| .m rfl rfl <| .gF rfl rfl rfl rfl <|
            .gF rfl rfl rfl rfl <| .gF rfl rfl rfl rfl <| .gF rfl rfl rfl rfl <| .gF rfl rfl rfl rfl <| .gF rfl rfl rfl rfl <| .yv (.pickF rfl rfl) rfl <| .nl <| .tN <| .cF rfl <|
            .sk <| .tN <| ?_
          refine At.pm [1, 0, 2, 3, 4, 5] [_, _, _, _, _, _] rfl rfl ?_
          refine Sx.freezeSeq (ds := c1.vers.map (dVs .i64)) (by simp) hzs fun HS pS cS uS eS hS0 => ?_
          obtain ⟨rfl, rfl⟩ := sl_inj eS
          refine Sx.freezeSeq (ds := c1.vars.map (dVr .i64)) (by simp) (hzv.up uS.up) fun HV pV cV uV eV hV => ?_
          obtain ⟨rfl, rfl⟩ := sl_inj eV
          have uu := uS.trans uV
          have hS := hS0.up uV.up
          exact .me (HV, c1, _) trivial ⟨rfl, rfl, rfl, rfl, rfl, trivial⟩ (fun _ s => s) ⟨uu, cp_shut nc hV hS, okc.mono (by omega)⟩
      ·
        obtain ⟨H2, c2, cs2⟩ := z
        dsimp only at hC ⊢
        obtain ⟨u2, hc2, okc2⟩ := hC
        refine .sq <| .sq <| .rg <| .yv (.fieldAddr rfl Fx.field101_0) rfl <| .yv (.load rfl Fx.agg5 (.tail _ <| .tail _ <| .head _) rfl) rfl <| .yv (.rem rfl rfl (by decide) (c := ((x.wh.toNat % 26 : Nat) : Int)) (by rw [Int.tmod_eq_emod_of_nonneg (by omega)]; omega)) rfl <|
          .yv (.gtr rfl rfl) rfl <| .nl <| .tN <| .cd rfl (fun h191 => ?_) (fun h191 => ?_)
        · skip
          refine .sq <| .rg <| .blR rfl Fx.bsl47_0 rfl (z := 3) rfl (by decide) fun g192 => .yv (.fieldAddr rfl Fx.field49_3) rfl <| .yv (.load rfl Fx.agg47 (.tail _ <| .tail _ <|
            .head _) rfl) rfl <| .apD0 Fx.row47 rfl (fun _ _ => .head) rfl (kf3.up u2.up) (by simp [maxLen]; omega) (by omega) rfl fun xs195 r195 hz195 => ?_
          refine At.ra (.head _) fun p195 c195 e195 => ?_
          refine .yv (.fieldAddr rfl Fx.field49_3) rfl <| .st (.tail <| .tail <| .head) rfl rfl Fx.size47 (by rw [e195]; rfl) (Nat.le_of_ble_eq_true rfl) rfl <| ?_
          refine At.rb (by omega) fun gB capB moreB eB hcB1 hcB2 => ?_
          subst eB
          refine .nl <| .tN <| .rg <| .yv (.fieldAddr rfl Fx.field49_3) rfl <| .yv (.load rfl Fx.agg47 (.tail _ <| .tail _ <| .head _) rfl) rfl <| .m rfl rfl <| .yv (.loadW rfl Fx.agg54 (.tail _ <|
            .head _) (cp_len hc2)) rfl <| .yv (.indexSl Fx.sl47 rfl rfl (i := i) rfl (by omega) (q := i * 3) (by omega)) rfl <| .sE (vs := cs2) .head rfl rfl (by rw [cp_len hc2]; exact Fx.size54) hc2.one (by rw [cp_len hc2, List.length_append, hz195.len, List.length_map]; omega) <|
            ?_
          refine Sx.freezeBox fun HB uB mB0 => ?_
          rw [setsL_app _ _ _ _ (by rw [cp_len hc2, hz195.len, List.length_map]; omega)] at mB0
          have hB : Rep HB (.seq 3 ((f1.comps.set i c2).map (dCp .i64))) [.slice (some ⟨gB, 0, none⟩) f1.comps.length capB] := Rep.mk mB0.pre (by rw [List.map_set]; exact RepZ.put (hc2.up uB.up) (cp_len hc2) (hz195.up uB.up) (by simpa using hi1)) (by simp) hcB1 hcB2
          refine .nl <| .tN <| .sq <| .rg <| .yv (.loadW rfl Fx.agg49 (.tail _ <| .head _) rfl) rfl <| .sW (.tail <| .tail <| .tail <| .head) rfl rfl Fx.size49 (by show ∀ u ∈ [_, _, _, _], Value.oneCell' u = true; simp [Value.oneCell', strV]) rfl <|
            .nl <| .tN <| .rt <| ?_
          exact Sx.ret1 (.inl rfl) rfl (.cell rfl Fx.agg49 (.tail _ <| .tail _ <| .tail _ <| .head _) rfl) fun W t => ⟨_, HB, ⟨⟨f1.nm, f1.flags, f1.links, f1.comps.set i c2⟩, ft_shut (x := ⟨f1.nm, f1.flags, f1.links, f1.comps.set i c2⟩) nf1 (kf1.up (u2.trans uB).up) (kf2.up (u2.trans uB).up) hB, okF_set okf okc2⟩, rfl, (u1.trans (u2.trans uB)).grow t⟩
        · skip
          refine .sk <| .tN <| .sq <| .rg <| .yv (.loadW rfl Fx.agg49 (.tail _ <| .head _) rfl) rfl <| .sW (.tail <| .tail <| .tail <| .head) rfl rfl Fx.size49 (by show ∀ u ∈ [_, _, _, _], Value.oneCell' u = true; simp [Value.oneCell', strV]) rfl <|
            .nl <| .tN <| .rt <| ?_
          exact Sx.ret1 (.inl rfl) rfl (.cell rfl Fx.agg49 (.tail _ <| .tail _ <| .tail _ <| .head _) rfl) fun W t => ⟨_, H2, ⟨f1, hf1.up u2.up, okf.mono (by omega)⟩, rfl, (u1.trans u2).grow t⟩
end Go.Proofs.YtmbiojpcidccjaaDoor
/- Plain: how large the fleet of a plan is. -/
namespace Go.Proofs.YtmbiojpcidccjaaDoor
def okD (D : Nat) (e : Ex) : Prop := e.depth ≤ D ∧ Ex.all narrow e = true
theorem okD.mono {D D' : Nat} {e : Ex} (h : okD D e) (k : D ≤ D') : okD D' e := ⟨Nat.le_trans h.1 k, h.2⟩
theorem okD0 {D : Nat} {op : UInt8} {nm : Str} {n : Int64} : okD (D + 1) (.mk op nm n []) := ⟨by rw [depth_mk]; simp [Ex.deeps], by rw [all_mk, narrow_mk]; rfl⟩
theorem okD1 {D : Nat} {op : UInt8} {nm : Str} {n : Int64} {a : Ex} (h : okD D a) : okD (D + 1) (.mk op nm n [a]) := by
  refine ⟨?_, ?_⟩
  · rw [depth_mk]; simp only [Ex.deeps]; have := h.1; omega
  · rw [all_mk, narrow_mk]; simp [Ex.alls, h.2]
theorem okD2 {D : Nat} {op : UInt8} {nm : Str} {n : Int64} {a b : Ex} (h : okD D a) (k : okD D b) : okD (D + 1) (.mk op nm n [a, b]) := by
  refine ⟨?_, ?_⟩
  · rw [depth_mk]; simp only [Ex.deeps]; have := h.1; have := k.1; omega
  · rw [all_mk, narrow_mk]; simp [Ex.alls, h.2, k.2]
theorem numT_ok {M : Mk} {d D k : Nat} {rec : Bs → Ex × Bs} (h : ∀ b, okD D (rec b).1) (b : Bs) : okD (D + 1) (numT M d rec k b).1 := by
  unfold numT
  split
  · exact okD0
  split
  · exact okD0
  split
  · exact okD0
  split
  · exact okD0
  split
  · exact okD1 (h _)
  split
  · exact okD0
  split
  · exact okD1 (h _)
  · exact okD2 (h _) (h _)
theorem numE_ok (M : Mk) : ∀ f b, okD (f + 2) (numE M f b).1
  | 0, b => numT_ok (fun _ => okD0) _
  | f + 1, b => numT_ok (numE_ok M f) _
theorem numL_ok (M : Mk) : ∀ n b, (numL M n b).1.length = n ∧ ∀ e ∈ (numL M n b).1, okD 4 e
  | 0, b => ⟨rfl, fun _ h => by cases h⟩
  | n + 1, b => by
    obtain ⟨h1, h2⟩ := numL_ok M n (numE M 2 b).2
    refine ⟨by simp [numL, h1], fun e he => ?_⟩
    rcases List.mem_cons.1 he with rfl | he
    · exact numE_ok M 2 b
    · exact h2 e he
theorem truT_ok {M : Mk} {d D k : Nat} {rec : Bs → Ex × Bs} (hD : 4 ≤ D) (h : ∀ b, okD D (rec b).1) (b : Bs) : okD (D + 1) (truT M d rec k b).1 := by
  have hn : ∀ b, okD D (numE M 2 b).1 := fun b => (numE_ok M 2 b).mono hD
  unfold truT
  split
  · exact okD0
  split
  · exact okD0
  split
  · exact okD0
  split
  · exact okD1 (hn _)
  split
  · exact okD1 (h _)
  split
  · exact okD2 (h _) (h _)
  · exact okD2 (hn _) (hn _)
theorem truE_ok (M : Mk) : ∀ f b, okD (f + 6) (truE M f b).1
  | 0, b => truT_ok (D := 5) (by omega) (fun _ => okD0 (D := 4)) _
  | f + 1, b => truT_ok (by omega) (truE_ok M f) _
mutual
theorem sdepth_le : ∀ s : Sm, Sm.depth s ≤ Sm.count s
  | .mk kd nm hd ex th el => by
    rw [sdepth_mk, scount_mk]
    have := sdeeps_le th
    have := sdeeps_le el
    omega
theorem sdeeps_le : ∀ l : List Sm, Sm.deeps l ≤ Sm.counts l
  | [] => by simp [Sm.deeps]
  | s :: r => by
    simp only [Sm.deeps, Sm.counts]
    have := sdepth_le s
    have := sdeeps_le r
    omega
end
/-- A list of statements uses up what was left, and its expressions are small. -/
structure Made (lf : Nat) (l : List Sm) (lf' : Nat) : Prop where
  cnt : Sm.counts l + lf' ≤ lf
  all : Sm.alls (okS2 10) l = true
theorem made_one {lf lf' : Nat} {kd : UInt8} {nm hd : Str} {ex : List Ex} {th el : List Sm} (h1 : Sm.counts th + Sm.counts el + lf' ≤ lf) (h2 : ex.length ≤ 10) (h3 : ∀ e ∈ ex, okD 40 e) (h4 : Sm.alls (okS2 10) th = true) (h5 : Sm.alls (okS2 10) el = true) :
    Made (lf + 1) [.mk kd nm hd ex th el] lf' := by
  refine ⟨by simp only [Sm.counts, scount_mk]; omega, ?_⟩
  simp only [Sm.alls, sall_mk, okS2, Bool.and_eq_true, decide_eq_true_eq, List.all_eq_true]
  refine ⟨⟨⟨⟨h2, fun e he => ?_⟩, h4⟩, h5⟩, trivial⟩
  simp only [okE, Bool.and_eq_true, decide_eq_true_eq]
  have := h3 e he
  exact ⟨by have := this.1; omega, this.2⟩
theorem leaf_one {e : Ex} (h : okD 40 e) : ∀ x ∈ [e], okD 40 x := fun x hx => by rw [List.mem_singleton.1 hx]; exact h
theorem leaf_two {e e2 : Ex} (h : okD 40 e) (k : okD 40 e2) : ∀ x ∈ [e, e2], okD 40 x := fun x hx => by
  rcases List.mem_cons.1 hx with rfl | hx
  · exact h
  · rw [List.mem_singleton.1 hx]; exact k
theorem leaf_num {M : Mk} {n : Nat} {b : Bs} : ∀ x ∈ (numL M n b).1, okD 40 x := fun x hx => ((numL_ok M n b).2 x hx).mono (by omega)
theorem leaf_more {e : Ex} (h : okD 40 e) {M : Mk} {n : Nat} {b : Bs} : ∀ x ∈ e :: (numL M n b).1, okD 40 x := fun x hx => by
  rcases List.mem_cons.1 hx with rfl | hx
  · exact h
  · exact leaf_num x hx
theorem stmT_made {M : Mk} (hM : ∀ c h, arN M c h ≤ 2) (k d : Nat) {bd : Bs × Nat → List Sm × (Bs × Nat)} (hb : ∀ x, Made x.2 (bd x).1 (bd x).2.2) (b : Bs) (lf : Nat) : Made (lf + 1) [(stmT M k d bd b lf).1] (stmT M k d bd b lf).2.2 := by
  have hn : ∀ f b, f ≤ 30 → okD 40 (numE M f b).1 := fun f b hf => (numE_ok M f b).mono (by omega)
  have ht : ∀ b, okD 40 (truE M 2 b).1 := fun b => (truE_ok M 2 b).mono (by omega)
  have z : Sm.counts [] = 0 := rfl
  unfold stmT
  split
  · exact made_one (lf' := lf) (by simp only [z]; omega) (by simp) (leaf_one (ht _)) rfl rfl
  split
  · exact made_one (lf' := lf) (by simp only [z]; omega) (by simp) (leaf_two (hn _ _ (by omega)) (hn _ _ (by omega))) rfl rfl
  split
  · exact made_one (lf' := lf) (by simp only [z]; omega) (by simp) (leaf_one (hn _ _ (by omega))) rfl rfl
  split
  · have h1 := hb ((truE M 2 b).2, lf)
    have h2 := hb (bd ((truE M 2 b).2, lf)).2
    exact made_one (by have := h1.cnt; have := h2.cnt; simp only at *; omega) (by simp) (leaf_one (ht _)) h1.all h2.all
  split
  · have h1 := hb ((truE M 2 b).2, lf)
    exact made_one (by have := h1.cnt; simp only at *; omega) (by simp) (leaf_one (ht _)) h1.all rfl
  split
  · exact made_one (lf' := lf) (by simp only [z]; omega) (by rw [(numL_ok _ _ _).1]; have := hM (nextB b M.ars.length).1 (nextB (nextB b M.ars.length).2 (arL M (nextB b M.ars.length).1)).1; omega) leaf_num rfl rfl
  split
  · exact made_one (lf' := lf) (by simp only [z]; omega) (by rw [List.length_cons, (numL_ok _ _ _).1]; have := hM M.own (nextB b (arL M M.own)).1; omega) (leaf_more (hn _ _ (by omega))) rfl rfl
  split
  · split
    · have h1 := hb ((numL M 2 (nextB b 2).2).2, lf)
      exact made_one (by have := h1.cnt; simp only at *; omega) (by rw [(numL_ok _ _ _).1]; omega) leaf_num rfl h1.all
    · have h1 := hb ((numE M 3 (nextB (nextB b 2).2 M.ints).2).2, lf)
      exact made_one (lf' := (bd ((numE M 3 (nextB (nextB b 2).2 M.ints).2).2, lf)).2.2) (by have := h1.cnt; simp only at *; omega) (by simp) (leaf_one (hn _ _ (by omega))) rfl h1.all
  split
  · exact made_one (lf' := lf) (by simp only [z]; omega) (by simp) (fun _ h => by cases h) rfl rfl
  · exact made_one (lf' := lf) (by simp only [z]; omega) (by simp) (leaf_one (hn _ _ (by omega))) rfl rfl
theorem bodL_made {st : Nat → Bs → Nat → Sm × (Bs × Nat)} (hs : ∀ k b lf, Made (lf + 1) [(st k b lf).1] (st k b lf).2.2) : ∀ f x, Made x.2 (bodL st f x).1 (bodL st f x).2.2
  | 0, x => ⟨by simp [bodL, Sm.counts], rfl⟩
  | f + 1, (b, lf) => by
    unfold bodL
    split
    · exact ⟨by simp [Sm.counts], rfl⟩
    · rename_i hne
      split
      · exact ⟨by simp [Sm.counts], rfl⟩
      · have h1 := hs (nextB b 14).1 (nextB b 14).2 (lf - 1)
        have h2 := bodL_made hs f (st (nextB b 14).1 (nextB b 14).2 (lf - 1)).2
        have hl : lf ≠ 0 := fun e => hne (.inr e)
        refine ⟨?_, ?_⟩
        · have a1 := h1.cnt
          have a2 := h2.cnt
          simp only [Sm.counts] at a1 ⊢
          omega
        · have a1 := h1.all
          simp only [Sm.alls, Bool.and_eq_true] at a1 ⊢
          exact ⟨a1.1, h2.all⟩
theorem bodE_made {M : Mk} (hM : ∀ c h, arN M c h ≤ 2) : ∀ f x, Made x.2 (bodE M f x).1 (bodE M f x).2.2
  | 0, x => bodL_made (fun k b lf => stmT_made hM k 3 (fun x => ⟨by simp [Sm.counts], rfl⟩) b lf) 13 x
  | f + 1, x => bodL_made (fun k b lf => stmT_made hM k (2 - f) (bodE_made hM f) b lf) 13 x
theorem arN_at {M : Mk} (k : Nat) (c h : Nat) : arN (M.at k) c h = arN M c h := rfl
theorem hdS_ok {M : Mk} (hM : ∀ c h, arN M c h ≤ 2) (k : Nat) (c : Cd) : okHd 100 (hdS M k c) := by
  have h := bodE_made (M := M.at k) hM 3 (c.bytes.take 40, 12)
  have hc := h.cnt
  simp only at hc
  refine ⟨by simp only [hdS, namesB_len]; have := hM M.own k; omega, ?_, ?_, ?_⟩
  · simp only [hdS]; omega
  · simp only [hdS]; have := sdeeps_le (bodE (M.at k) 3 (c.bytes.take 40, 12)).1; omega
  · exact salls_imp (okS2_mono (by omega)) _ h.all
theorem hdsP_ok {M : Mk} (hM : ∀ c h, arN M c h ≤ 2) : ∀ (l : List Cd) (k : Nat), ∀ h ∈ hdsP M k l, okHd 100 h
  | [], k, h, hh => by cases hh
  | c :: r, k, h, hh => by
    rcases List.mem_cons.1 hh with rfl | hh
    · exact hdS_ok hM k c
    · exact hdsP_ok hM r (k + 1) h hh
theorem arN_le {p : Pln} {nf i : Nat} {x : Prt} (c h : Nat) : arN (mkP (arsP p) nf i x) c h ≤ 2 := by
  show ((arsP p).getD c []).getD h 0 ≤ 2
  by_cases hc : c < (arsP p).length
  · rw [getD_at hc]
    have hm := List.getElem_mem hc
    generalize (arsP p)[c] = l at hm
    obtain ⟨y, _, rfl⟩ := List.mem_map.1 hm
    by_cases hh : h < (arP y).length
    · rw [getD_at hh]; exact arP_mem (List.getElem_mem hh)
    · have e : (arP y)[h]? = none := List.getElem?_eq_none_iff.2 (by omega)
      rw [List.getD_eq_getElem?_getD, e]; simp
  · have e : (arsP p)[c]? = none := List.getElem?_eq_none_iff.2 (by omega)
    rw [List.getD_eq_getElem?_getD, List.getD_eq_getElem?_getD, e]; simp
theorem fstP_len (x : Prt) : (fstP x).length ≤ 3 := by
  unfold fstP
  split
  · simp
  · rw [List.length_take]; omega
theorem buildF_ok (p : Pln) : okFt 100 (buildF p) := by
  have hp := prtsP_len p
  refine ⟨?_, ?_, ?_, ?_, ?_⟩
  · simp only [buildF, flgsP_len]; omega
  · have := lnksP_len (prtsP p).length p.links (min p.links.length ((prtsP p).length * (prtsP p).length))
    have h9 : (prtsP p).length * (prtsP p).length ≤ 9 := Nat.mul_le_mul hp.2 hp.2
    simp only [buildF]
    have : min p.links.length ((prtsP p).length * (prtsP p).length) ≤ (prtsP p).length * (prtsP p).length := Nat.min_le_right _ _
    omega
  · simp only [buildF, cmpsP_len]; omega
  · simp only [buildF, cmpsP_len]; omega
  · intro c hc
    simp only [buildF, cmpsP] at hc
    obtain ⟨i, hi, rfl⟩ := List.mem_mapIdx.1 hc
    generalize (prtsP p)[i] = x
    refine ⟨?_, ?_, ?_⟩
    · simp only [cmpP, varsP, List.length_append, vrsI_len, vrsT_len, List.length_singleton, intsP, tabsP]; omega
    · simp only [cmpP, vssP]; split <;> simp
    · intro v hv
      simp only [cmpP, vssP] at hv
      rcases List.mem_cons.1 hv with rfl | hv
      · exact ⟨by rw [hdsP_len]; have := fstP_len x; omega, hdsP_ok arN_le _ _⟩
      · split at hv
        · rw [List.mem_singleton.1 hv]
          exact ⟨by rw [hdsP_len, List.length_take]; omega, hdsP_ok arN_le _ _⟩
        · cases hv
end Go.Proofs.YtmbiojpcidccjaaDoor
/- Facts on types and functions. -/
namespace Go.Proofs.YtmbiojpcidccjaaDoor
open Go.RowKit Go.Par Go.Sx
theorem Fx.agg42 : aggN Tryd.prog 42 = Option.some (Option.some 3) := by kernel_rfl
theorem Fx.call36 : callN Tryd.prog 36 = Bool.true := by kernel_rfl
theorem Fx.call37 : callN Tryd.prog 37 = Bool.true := by kernel_rfl
theorem Fx.size101 : sizeN Tryd.prog 101 = Option.some 5 := by kernel_rfl
theorem Fx.sl43 : slN Tryd.prog 43 = Option.some 5 := by kernel_rfl
theorem Fx.zero101 : zeroN Tryd.prog 101 = Option.some
  [Go.Value.int Go.IntKind.u8 (Int.ofNat 0), Go.Value.int Go.IntKind.u8 (Int.ofNat 0),
    Go.Value.int Go.IntKind.u8 (Int.ofNat 0), Go.Value.int Go.IntKind.i64 (Int.ofNat 0), Go.Value.slice Option.none 0 0] := by kernel_rfl
end Go.Proofs.YtmbiojpcidccjaaDoor
/- Contracts: spoilt. -/
namespace Go.Proofs.YtmbiojpcidccjaaDoor
open Go.RowKit Go.Par Go.Sx
def bndF : Nat → Nat
  | 0 => 100
  | 1 => 500
  | 2 => 1300
  | _ => 2900
theorem bndF_le {k : Nat} (_ : k ≤ 3) : bndF k ≤ 50000 := by
  match k with
  | 0 => decide
  | 1 => decide
  | 2 => decide
  | k + 3 => show 2900 ≤ 50000; decide
theorem bndF_step {k : Nat} (h : k < 3) : 2 * (bndF k + 100) + 100 = bndF (k + 1) := by match k, h with | 0, _ | 1, _ | 2, _ => rfl
theorem ft_len {H : Hp} {k : IntKind} {x : Ft} {cs : List Value} (h : Rep H (dFt k x) cs) : cs.length = 4 := by
  obtain ⟨_, _, _, _, _, _, rfl, _⟩ := ft_open h; rfl
set_option maxRecDepth 100000 in
theorem spoilt_any (H : Hp) (p : Pln) (l : List Sp) (cs : List Value) (v : Value) (w : World) (h : Rep H (dPln p) cs) (hl0 : Rep H (.seq 5 (l.map dSp)) [v]) (hA : Agr H w) :
    Calls Tryd.prog 15 #[.agg cs.toArray, v] w fun r w' => ∃ (y : List Value) (H' : Hp), (∃ f, Rep H' (dFt .i64 f) y ∧ okFt 50000 f) ∧ r = .returned (.agg y.toArray) ∧ Grow H w H' w' := by
  obtain ⟨pl, cl, el, _⟩ := hl0.sl
  simp only [List.cons.injEq, and_true, List.length_map] at el
  subst el
  have hl := hl0
  have hcap := hl.cap
  obtain ⟨p1, c1, p2, c2, rfl, h1, h2⟩ := pln_open h
  refine Sx.enter (H := H) Tryd.func15 rfl Tryd.ntmps15 rfl hA ?_
  refine .sq <| .rg <| .bx rfl rfl rfl fun b2 => .al Fx.zero49 rfl fun b4 => .nl <| .tN <| .sq <| .rg <| .yv (.loadW rfl Fx.agg42 (.tail _ <| .head _) rfl) rfl <|
    .ct (X := List Value) Fx.call36 rfl (fun W s => build_plan H p _ W h s.agr) rfl fun y1 H1 hf1 u1 => .al Fx.zero49 rfl fun b5 => .sV .head rfl rfl Fx.size49 (ft_len hf1) hf1.one rfl <|
    .nl <| .tN <| .sq <| .sq <| .rg <| .m rfl rfl <| .m rfl rfl <| .yv (.lenSl Fx.sl43 rfl) rfl <| .yv (.min2 rfl rfl (c := ((min l.length 3 : Nat) : Int)) (by omega)) rfl <|
    .yv (.cutHi2 Fx.sl43 rfl rfl (h := min l.length 3) rfl (by have := hl.len.2.1; omega)) rfl <| .yv (.lenSl Fx.sl43 rfl) rfl <| .m rfl rfl <| ?_
  have hl3 := rep_take2 (hl.up u1.up) (hi := min l.length 3) (by omega)
  rw [← List.map_take, take_min] at hl3
  have hlt : (l.take 3).length = min l.length 3 := by rw [List.length_take, Nat.min_comm]
  have hcap3 := hl3.cap
  generalize (if cl = 0 then pl else pl.map fun q => q.add 0) = pq at hl3 ⊢
  refine .nl <| .tN <| .bk <| .lp (X := Nat × Hp × List Value) [(4, _), (5, _), (14, _), (15, _)] ⟨rfl, rfl, rfl, rfl, trivial⟩ [_, _] (fun z => [(16, .int .i64 (z.1 : Nat))]) (fun z => z.2.1) (fun z => [.box b5 z.2.2 49]) (fun z => z.1 ≤ min l.length 3 ∧ HUp w H1 z.2.1 ∧ ∃ f : Ft, Rep z.2.1 (dFt .i64 f) z.2.2 ∧ okFt (bndF z.1) f) (fun z => 3 - z.1) (0, H1, _) (fun _ s => s) ⟨rfl, trivial⟩ ⟨by simp, .refl, buildF p, hf1, buildF_ok p⟩ fun z hC => ?_
  obtain ⟨k, H2, cs5⟩ := z
  dsimp only at hC ⊢
  obtain ⟨hk0, u2, f, hf, hok⟩ := hC
  refine .sq <| .rg <| .yv (.lss rfl rfl) rfl <| .nl <| .tN <| .sq <| .cd rfl (fun h17 => ?_) (fun h17 => ?_)
  · try simp only [decide_eq_true_eq] at h17
    have hk : k < (l.take 3).length := by omega
    have hkb : bndF k ≤ 50000 := bndF_le (by omega)
    obtain ⟨bE, oE, cE, hpE, rE, lE, mE⟩ := (hl3.up u2.up).elem (map_at (f := dSp) hk)
    cases hpE
    refine .sk <| .tN <| .sq <| .bk <| .sq <| .rg <| .yv (.indexSl Fx.sl43 rfl rfl (i := k) rfl (by omega) (q := oE + k * 5) rfl) rfl <| .yv (.loadMW rfl Fx.agg101 mE lE) rfl <|
      .al Fx.zero101 rfl fun b7 => .sV .head rfl rfl Fx.size101 lE rE.one rfl <| .nl <| .tN <| .rg <| .yv (.loadW rfl Fx.agg49 (.tail _ <| .head _) (ft_len hf)) rfl <|
      .yv (.loadW rfl Fx.agg101 (.head _) lE) rfl <| .ct (X := List Value) Fx.call37 rfl (fun W s => apply_any H2 f _ cs5 cE (bndF k) hkb W hf rE hok s.agr) rfl fun y22 H3 hc22 u22 => ?_
    obtain ⟨f2, hf2, okf2⟩ := hc22
    exact .sV (.tail <| .head) rfl rfl Fx.size49 (ft_len hf2) hf2.one (ft_len hf) <| .nl <| .bN <| .tN <| .rg <| .yv (.add rfl rfl (w64 (by omega) (by omega))) rfl <|
      .m rfl rfl <| .nl <| .tN <| .ag (x := (k, H2, cs5)) (k + 1, H3, y22) ⟨rfl, trivial⟩ ⟨rfl, rfl, rfl, rfl, trivial⟩ (fun _ s => (s.pick [1, 2, 3] _ rfl rfl)) ⟨by dsimp only; omega, u2.trans u22, f2, hf2, (by rw [← bndF_step (show k < 3 by omega)]; exact okf2)⟩ (by dsimp only; omega)
  · skip
    refine .ex <| .tE <| .tE <| .bE <| .tN <| .sq <| .rg <| .yv (.loadW rfl Fx.agg49 (.head _) (ft_len hf)) rfl <| .sV (.tail <| .head) rfl rfl Fx.size49 (ft_len hf) hf.one rfl <|
      .nl <| .tN <| .rt <| ?_
    exact Sx.ret1 (.inl rfl) rfl (.cell rfl Fx.agg49 (.tail _ <| .head _) (ft_len hf)) fun W t => ⟨cs5, H2, ⟨f, hf, hok.mono (bndF_le (by omega))⟩, rfl, (u1.trans u2).grow t⟩
end Go.Proofs.YtmbiojpcidccjaaDoor
/- Facts on types and functions. -/
namespace Go.Proofs.YtmbiojpcidccjaaDoor
open Go.RowKit Go.Par Go.Sx
theorem Fx.call16 : callN Tryd.prog 16 = Bool.true := by kernel_rfl
theorem Fx.int70 : intN Tryd.prog 70 = Option.some Go.IntKind.u8 := by kernel_rfl
theorem Fx.row60 : rowN Tryd.prog 60 = Option.some (73, 6, 112) := by kernel_rfl
theorem Fx.bld73_0_1_2_4_5 (x0 : Int) (x1 : ByteArray) (x2 : ByteArray) (x4p : Option Addr) (x4n x4c : Nat) (x5p : Option Addr) (x5n x5c : Nat) : buildN Tryd.prog 73 [(0, .int .u8 x0), (1, .string x1), (2, .string x2), (4, .slice x4p x4n x4c), (5, .slice x5p x5n x5c)] = some [.int .u8 x0, .string x1, .string x2, .slice none 0 0, .slice x4p x4n x4c, .slice x5p x5n x5c] := by kernel_rfl
end Go.Proofs.YtmbiojpcidccjaaDoor
