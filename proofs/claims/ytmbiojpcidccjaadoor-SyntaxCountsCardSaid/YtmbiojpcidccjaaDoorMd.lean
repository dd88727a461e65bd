/- Texts of the proof, one behind the other. -/
import Derived.Test.YtmbiojpcidccjaaDoorMc
/- Contracts: Build. -/
namespace Go.Proofs.YtmbiojpcidccjaaDoor
open Go.RowKit Go.Par Go.Sx
theorem fd2 (a m : Nat) : Int.fdiv (a : Int) (2 ^ m) = ((a / 2 ^ m : Nat) : Int) := by
  rw [Int.fdiv_eq_ediv_of_nonneg _ (Int.pow_nonneg (by decide))]
  rw [Int.natCast_ediv, Int.natCast_pow]; rfl
theorem tm2 (a b : Nat) : Int.tmod (a : Int) (b : Int) = ((a % b : Nat) : Int) := by
  rw [Int.tmod_eq_emod_of_nonneg (Int.natCast_nonneg _)]; rfl
theorem mulN {n : Nat} (h : n ≤ 3) : IntKind.i64.wrap ((n : Int) * n) = ((n * n : Nat) : Int) := by
  have key : ∀ i ∈ List.range 4, IntKind.i64.wrap ((i : Int) * i) = ((i * i : Nat) : Int) := by decide
  exact key n (List.mem_range.2 (by omega))
theorem quoN {a b : Nat} (h : a / b < 3) : IntKind.i64.wrap (Int.tdiv (a : Int) (b : Int)) = ((a / b : Nat) : Int) := by
  rw [Int.tdiv_eq_ediv_of_nonneg (Int.natCast_nonneg _), show (a : Int) / (b : Int) = ((a / b : Nat) : Int) from rfl]
  have h3 : ∀ n : Nat, n < 3 → IntKind.i64.wrap (n : Int) = (n : Int) := fun n hn => w64 (by omega) (by omega)
  exact h3 _ h
theorem take_min2 {α : Type} (l : List α) (n : Nat) : l.take (min n l.length) = l.take n := by rw [Nat.min_comm, take_min]
theorem take_min3 {α β : Type} {f : α → β} (l : List α) (n : Nat) : (l.map f).take (min l.length n) = (l.map f).take n := by
  have := take_min (l.map f) n
  rwa [List.length_map] at this
theorem vrI_shut {H : Hp} {j : Nat} (h : j < 10) : Rep H (dVr .i64 (vrI j)) [strV (nmB 120 j), .int .i64 1, .int .i64 (j : Nat)] := by
  have := vr_shut (H := H) (k := .i64) (x := vrI j) (by simp [vrI, nmB])
  have e : (Int64.ofNat j).toInt = (j : Int) := Int64.toInt_ofNat_of_lt (by omega)
  rw [show (vrI j).init.toInt = (j : Int) from e] at this
  exact this
theorem lk_shut4 {H : Hp} (a b : Nat) {n : Nat} (h : n < 4) : Rep H (dLk ⟨abcS a, abcS b, Int64.ofNat n⟩) [strV (abcS a), strV (abcS b), .int .i64 (n : Nat)] := by
  have := lk_shut (H := H) (x := ⟨abcS a, abcS b, Int64.ofNat n⟩) (by simp [abcS]) (by simp [abcS])
  have e : (Int64.ofNat n).toInt = (n : Int) := Int64.toInt_ofNat_of_lt (by omega)
  simp only [e] at this
  exact this
theorem lnkP_no {n k : Nat} {l : Bs} (hk : k < l.length) (h : ¬ 0 < l[k].toNat % 4) : lnkP n l k = [] := by unfold lnkP; rw [getD_at hk, if_neg h]
theorem lnkP_yes {n k : Nat} {l : Bs} (hk : k < l.length) (h : 0 < l[k].toNat % 4) : lnkP n l k = [⟨abcS (k / n), abcS (k % n), Int64.ofNat (l[k].toNat % 4)⟩] := by unfold lnkP; rw [getD_at hk, if_pos h]
theorem okB_mk {p : Pln} {k : Nat} {x : Prt} (hk : k < (prtsP p).length) (hf : p.flags.toNat % 3 ≤ 2) (hpos : 0 < (prtsP p).length ∧ (prtsP p).length ≤ 3) (hi : 0 < intsP x ∧ intsP x ≤ 3) : okB (mkP (arsP p) (p.flags.toNat % 3) k x) := by
  refine ⟨hi.1, hi.2, hf, by simpa [mkP, arsP] using hpos.1, by simpa [mkP, arsP] using hpos.2, by simpa [mkP, arsP] using hk, ?_⟩
  intro l hl
  obtain ⟨y, _, rfl⟩ := List.mem_map.1 hl
  have := arP_len y
  exact ⟨by omega, by omega, fun n hn => arP_mem hn⟩
theorem fst_len {p : Pln} {k nf : Nat} {x : Prt} (hk : k < (prtsP p).length) (h : (arsP p).getD k [] = arP x) : (fstP x).length ≤ arL (mkP (arsP p) nf k x) (mkP (arsP p) nf k x).own := by
  show _ ≤ ((arsP p).getD k []).length
  rw [h, arP_len]
  unfold fstP
  split
  · simp; omega
  · rw [List.length_take]; omega
theorem sec_len {p : Pln} {k nf : Nat} {x : Prt} (hk : k < (prtsP p).length) (h : (arsP p).getD k [] = arP x) : (x.sec.take 3).length ≤ arL (mkP (arsP p) nf k x) (mkP (arsP p) nf k x).own := by
  show _ ≤ ((arsP p).getD k []).length
  rw [h, arP_len, List.length_take]; omega
theorem hdsP_pars (M : Mk) (n : Nat) : ∀ (l : List Cd) (k : Nat), hdsP { M with params := n } k l = hdsP M k l
  | [], _ => rfl
  | c :: r, k => by rw [hdsP, hdsP, hdsP_pars M n r (k + 1)]; rfl
theorem hdsP_par {H : Hp} {M : Mk} {n : Nat} {l : List Cd} {v : Value} (h : Rep H (.seq 3 ((hdsP { M with params := n } 0 l).map (dHd .i64))) [v]) : Rep H (dVs .i64 (hdsP M 0 l)) [v] := by rwa [hdsP_pars] at h
set_option maxHeartbeats 8000000 in
set_option maxRecDepth 100000 in
theorem build_plan (H : Hp) (p : Pln) (cs : List Value) (w : World) (h : Rep H (dPln p) cs) (hA : Agr H w) : Calls Tryd.prog 36 #[.agg cs.toArray] w fun r w' => ∃ (v : List Value) (H' : Hp), Rep H' (dFt .i64 (buildF p)) v ∧ r = .returned (.agg v.toArray) ∧ Grow H w H' w' := by
  obtain ⟨p1, c1, p2, c2, rfl, h1, h2⟩ := pln_open h
  have hcap1 := h1.cap
  have hcap2 := h2.cap
  refine Sx.enter (H := H) Tryd.func36 rfl Tryd.ntmps36 rfl hA ?_
  refine .sq <| .rg <| .bx rfl rfl rfl fun b1 => .al Fx.zero49 rfl fun b2 => .nl <| .tN <| .sq <| .rg <| .yv (.fieldAddr rfl Fx.field42_2) rfl <| .yv (.load rfl Fx.agg40 (.tail _ <|
    .head _) rfl) rfl <| .yv (.lenSl Fx.sl40 rfl) rfl <| .yv (.call Fx.call54 rfl (fun W s => least_any H p.comps.length 3 W s.agr)) rfl <| .a rfl rfl <| .nl <| .tN <|
    .sq <| .rg <| .yv (.fieldAddr rfl Fx.field42_2) rfl <| .yv (.load rfl Fx.agg40 (.tail _ <| .head _) rfl) rfl <| .m rfl rfl <| .yv (.cutHi2 Fx.sl40 rfl rfl (h := min p.comps.length 3) rfl (by have := h2.len.2.1; omega)) rfl <|
    .a rfl rfl <| .nl <| .tN <| .cu (X := Nat × Hp × Value) [(1, _), (2, _)] ⟨rfl, rfl, trivial⟩ (fun z => [(3, .int .i64 (z.1 : Nat)), (4, z.2.2)]) (fun z => z.2.1) (fun z => [.box b1 [.int .u8 p.flags.toNat, .slice p1 p.links.length c1, .slice p2 p.comps.length c2] 42, .box b2 [.string ⟨#[]⟩, .slice none 0 0, .slice none 0 0, .slice none 0 0] 49]) (fun z => z.1 = (prtsP p).length ∧ HUp w H z.2.1 ∧ Rep z.2.1 (.seq 4 ((prtsP p).map dPrt)) [z.2.2]) ?_ fun z hC => ?_
  ·
    refine .sq <| .rg <| .m rfl rfl <| .yv (.eql rfl rfl) rfl <| .nl <| .tN <| .cd rfl (fun h31 => ?_) (fun h31 => ?_)
    · try simp only [decide_eq_true_eq] at h31
      have h0 : p.comps.length = 0 := by omega
      refine .rg <| .yv (.build rfl Fx.bld132) rfl <| .bl rfl (Fx.bsl40_1 _ _ _ _) rfl fun b33 => ?_
      refine Sx.freezeBox fun H1 u1 m1 => ?_
      exact .a rfl rfl <| .a rfl rfl <| .nl <| .tN <| .me (1, H1, _) ⟨rfl, rfl, trivial⟩ ⟨rfl, rfl, trivial⟩ (fun _ s => s.pick [1, 0] [_, _] rfl rfl) ⟨by rw [prtsP, if_pos h0]; rfl, u1, by rw [prtsP, if_pos h0]; exact Rep.mk (n := 1) (c := 1) m1 (.single (prt_shut (x := ⟨0, 0, [], []⟩) (Rep.empty (by decide)) (Rep.empty (by decide))) rfl) rfl (Nat.le_refl _) (by decide)⟩
    · try simp only [decide_eq_false_iff_not] at h31
      have h0 : ¬ p.comps.length = 0 := by omega
      exact .sk <| .tN <| .me (min p.comps.length 3, H, _) ⟨rfl, rfl, trivial⟩ ⟨rfl, rfl, trivial⟩ (fun _ s => s.pick [1, 0] [_, _] rfl rfl) ⟨by rw [prtsP, if_neg h0, List.length_take]; exact Nat.min_comm _ _, .refl, by rw [prtsP, if_neg h0, List.map_take]; have := rep_take2 h2 (hi := min p.comps.length 3) (by omega); rw [take_min3] at this; exact this⟩
  ·
    obtain ⟨N, H1, pv⟩ := z
    dsimp only at hC ⊢
    obtain ⟨hN, u1, hps⟩ := hC
    obtain ⟨pp, cp, e, _⟩ := hps.sl
    simp only [List.cons.injEq, and_true, List.length_map] at e
    subst e
    subst hN
    have hpos := prtsP_len p
    have hl1 := h1.up u1.up
    have hpcap := hps.cap
    have hf3 : p.flags.toNat % 3 ≤ 2 := by omega
    refine .sq <| .rg <| .yv (.build rfl (Fx.bld49_0 _)) rfl <| .al Fx.zero49 rfl fun b5 => .sW .head rfl rfl Fx.size49 (by simp [Value.oneCell', strV]) rfl <| .nl <|
      .tN <| .sq <| .sq <| .rg <| .yv (.fieldAddr rfl Fx.field42_0) rfl <| .yv (.load rfl Fx.agg5 (.tail _ <| .head _) rfl) rfl <| .yv (.rem rfl rfl (by decide) (c := ((p.flags.toNat % 3 : Nat) : Int)) (by rw [Int.tmod_eq_emod_of_nonneg (by omega)]; omega)) rfl <|
      .yv (.conv rfl Fx.int5 Fx.int3 (c := ((p.flags.toNat % 3 : Nat) : Int)) (w64 (by omega) (by omega))) rfl <| .ct (X := Value) Fx.call55 rfl (fun W s => names_any H1 102 (p.flags.toNat % 3) (by omega) W s.agr) rfl fun v39 H39 hn39 u39 => ?_
    obtain ⟨pn39, cn39, e39, _⟩ := hn39.sl
    simp only [List.cons.injEq, and_true, List.length_map, namesB_len] at e39
    subst e39
    refine .yv (.lenSl Fx.sl56 rfl) rfl <| .m rfl rfl <| ?_
    refine Sx.row0 134 2 ?_
    refine .nl <| .tN <| .bk <| .lp (X := Nat × Value × List Value) [(1, _), (2, _), (3, _), (4, _), (5, _), (39, _), (40, _)] ⟨rfl, rfl, rfl, rfl, rfl, rfl, rfl, trivial⟩ [_, _] (fun z => [(41, .int .i64 (z.1 : Nat))]) (fun z => H39) (fun z => [.row 134 2 z.2.1 z.1 z.2.2, .box b5 [strV fleetN, z.2.1, .slice none 0 0, .slice none 0 0] 49]) (fun z => z.1 ≤ (p.flags.toNat % 3) ∧ RepZ H39 2 ((flgsP p.flags z.1).map dFg) z.2.2) (fun z => (p.flags.toNat % 3) - z.1) (0, .slice none 0 0, []) (fun _ s => s) ⟨rfl, trivial⟩ ⟨by simp, RepZ.nil⟩ fun z hC => ?_
    obtain ⟨k, r, xs⟩ := z
    dsimp only at hC ⊢
    obtain ⟨hk0, hz⟩ := hC
    refine .sq <| .rg <| .yv (.lss rfl rfl) rfl <| .nl <| .tN <| .sq <| .cd rfl (fun h42 => ?_) (fun h42 => ?_)
    · try simp only [decide_eq_true_eq] at h42
      have hk : k < (p.flags.toNat % 3) := by omega
      obtain ⟨bE, oE, hpE, mE⟩ := name_at hn39 (k := k) hk
      subst hpE
      exact .sk <| .tN <| .sq <| .bk <| .sq <| .rg <| .m rfl rfl <| .yv (.indexSl Fx.sl56 rfl rfl (i := k) rfl (by omega) (q := oE + k * 1) rfl) rfl <| .yv (.loadM rfl Fx.agg9 mE (k := 0) rfl rfl) rfl <|
        .a rfl rfl <| .a rfl rfl <| .nl <| .tN <| .fl (trip := [(_, _, _), (_, _, _), (_, _, _), (_, _, _), (_, _, _), (_, _, _), (_, _, _), (_, _, _), (_, _, _), (_, _, _), (_, _, _), (_, _, _)]) 12 [(0, 0), (1, 0), (2, 0), (3, 0), (4, 0), (5, 0), (6, 0), (7, 0), (8, 0), (9, 0), (10, 0), (11, 1)] (by kernel_rfl) (by kernel_rfl) rfl <|
        .yv (.fieldAddr rfl Fx.field49_1) rfl <| .yv (.load rfl Fx.agg45 (.tail _ <| .head _) rfl) rfl <| .m rfl rfl <| .yv (.fieldAddr rfl Fx.field42_0) rfl <| .yv (.load rfl Fx.agg5 (.tail _ <|
        .tail _ <| .head _) rfl) rfl <| .m rfl rfl <| .yv (.add rfl rfl (c := ((4 + k : Nat) : Int)) ((w64 (by omega) (by omega)).trans (by omega))) rfl <| .yv (.shr rfl rfl (m := 4 + k) rfl (by show 4 + k ≤ 8; omega) (c := ((p.flags.toNat / 2 ^ (4 + k) : Nat) : Int)) (fd2 _ _)) rfl <|
        .yv (.rem rfl rfl (by decide) (c := ((p.flags.toNat / 2 ^ (4 + k) % 2 : Nat) : Int)) (tm2 _ 2)) rfl <| .yv (.eql rfl rfl) rfl <| .yv (.build rfl (Fx.bld134_0_1 _ _)) rfl <|
        .bl rfl (Fx.bsl45_1 _ _) rfl fun b57 => .fn (tl := [_, _, _]) rfl <| .ap (news := [strV (nmB 102 k), .bool (flgP p.flags k).init]) Fx.row45 rfl (fun _ => (.tail <|
        .head)) rfl (.box (.head _) (fun j u h => by rw [Nat.zero_add]; exact h)) rfl (by simp [Value.oneCell', strV, abcS]) (by simp [maxLen]; omega) (by omega) rfl fun r58 _ => .ra (.tail _ <|
        .head _) fun p58 c58 e58 => .yv (.fieldAddr rfl Fx.field49_1) rfl <| .st (.tail <| .tail <| .head) rfl rfl Fx.size45 (by rw [e58]; rfl) (Nat.le_of_ble_eq_true rfl) rfl <|
        .nl <| .bN <| .tN <| .rg <| .yv (.add rfl rfl (w64 (by omega) (by omega))) rfl <| .m rfl rfl <| .nl <| .tN <| .ag (x := (k, r, xs)) (k + 1, r58, xs ++ [strV (nmB 102 k), .bool (flgP p.flags k).init]) ⟨rfl, trivial⟩ ⟨rfl, rfl, rfl, rfl, rfl, rfl, rfl, trivial⟩ (fun _ s => (s.pick [1, 2, 3, 4] _ rfl rfl)) ⟨by dsimp only; omega, by dsimp only; rw [flgsP_succ, List.map_append]; exact hz.snoc (fg_shut (x := flgP p.flags k) (by simp [flgP, nmB])) rfl⟩ (by dsimp only; omega)
    · try simp only [decide_eq_false_iff_not] at h42
      obtain rfl : k = (p.flags.toNat % 3) := by omega
      refine Sx.freezeSeq (ds := (flgsP p.flags (p.flags.toNat % 3)).map dFg) (by simp [flgsP_len]) hz fun H4 p4 c4 u4 e4 hfl => ?_
      subst e4
      refine .ex <| .tE <| .tE <| .bE <| .tN <| .sq <| .rg <| .bl rfl (Fx.bsl56_3 _ _ _) rfl fun b61 => ?_
      refine Sx.freezeBox fun H5 u5 m5 => ?_
      refine .a rfl rfl <| .nl <| .tN <| .sq <| .sq <| .rg <| .a rfl rfl <| ?_
      refine Sx.row0 135 3 ?_
      have hl5 := h1.up (u1.trans (u39.trans (u4.trans u5))).up
      obtain ⟨NN, hNN⟩ : ∃ NN, NN = (prtsP p).length * (prtsP p).length := ⟨_, rfl⟩
      have hN9 : NN ≤ 9 := by rw [hNN]; exact Nat.mul_le_mul hpos.2 hpos.2
      refine .nl <| .tN <| .bk <| .lp (X := Nat × Nat × Value × List Value) [(1, _), (2, _), (3, _), (4, _), (5, _), (8, _)] ⟨rfl, rfl, rfl, rfl, rfl, rfl, trivial⟩ [_, _] (fun z => [(9, .int .i64 (z.1 : Nat))]) (fun z => H5) (fun z => [.row 135 3 z.2.2.1 z.2.1 z.2.2.2, .box b5 [strV fleetN, .slice p4 (p.flags.toNat % 3) c4, z.2.2.1, .slice none 0 0] 49]) (fun z => z.1 ≤ p.links.length ∧ z.1 ≤ NN ∧ z.2.1 = (lnksP (prtsP p).length p.links z.1).length ∧ RepZ H5 3 ((lnksP (prtsP p).length p.links z.1).map dLk) z.2.2.2) (fun z => p.links.length - z.1) (0, 0, .slice none 0 0, []) (fun _ s => s) ⟨rfl, trivial⟩ ⟨by simp, by simp, rfl, RepZ.nil⟩ fun z hC => ?_
      obtain ⟨k, m, r, xs⟩ := z
      dsimp only at hC ⊢
      obtain ⟨hk0, hk1, hm, hz⟩ := hC
      have hmk := lnksP_len (prtsP p).length p.links k
      refine .sq <| .cu (X := Bool) [(1, _), (2, _), (3, _), (4, _), (5, _), (8, _), (9, _)] ⟨rfl, rfl, rfl, rfl, rfl, rfl, rfl, trivial⟩ (fun z => [(73, .bool z)]) (fun z => H5) (fun z => [.row 135 3 r m xs, .box b5 [strV fleetN, .slice p4 (p.flags.toNat % 3) c4, r, .slice none 0 0] 49, .box b2 [.string ⟨#[]⟩, .slice none 0 0, .slice none 0 0, .slice none 0 0] 49, .box b1 [.int .u8 p.flags.toNat, .slice p1 p.links.length c1, .slice p2 p.comps.length c2] 42]) (fun z => z = decide (k < p.links.length ∧ k < NN)) ?_ fun z hC => ?_
      ·
        refine .rg <| .m rfl rfl <| .yv (.fieldAddr rfl Fx.field42_1) rfl <| .yv (.load rfl Fx.agg39 (.tail _ <| .tail _ <| .head _) rfl) rfl <| .yv (.lenSl Fx.sl39 rfl) rfl <|
          .yv (.lss rfl rfl) rfl <| .m rfl rfl <| .b2 (fun h67 => ?_) (fun h67 => ?_)
        · try simp only [decide_eq_true_eq] at h67
          exact .gd rfl rfl <| .yv (.move rfl) rfl <| .gd rfl rfl <| .yv (.move rfl) rfl <| .gd rfl rfl <| .yv (.move rfl) rfl <| .gd rfl rfl <| .yv (.mul rfl rfl (c := ((NN : Nat) : Int)) (by rw [hNN]; exact mulN hpos.2)) rfl <|
            .gd rfl rfl <| .yv (.lss rfl rfl) rfl <| .yv (.pickT rfl rfl) rfl <| .nl <| .tN <| .me _ ⟨rfl, trivial⟩ ⟨rfl, rfl, rfl, rfl, rfl, rfl, rfl, trivial⟩ (fun _ s => s.pick [0, 1, 3, 2] [_, _, _, _] rfl rfl) (by rw [Bool.eq_iff_iff, decide_eq_true_eq]; first | (rw [decide_eq_true_eq]; omega) | exact ⟨fun _ => by omega, fun _ => rfl⟩ | exact ⟨fun h => (by cases h), fun h => by omega⟩)
        · try simp only [decide_eq_false_iff_not] at h67
          exact .gF rfl rfl rfl rfl <| .gF rfl rfl rfl rfl <| .gF rfl rfl rfl rfl <| .gF rfl rfl rfl rfl <| .gF rfl rfl rfl rfl <| .yv (.pickF rfl rfl) rfl <| .nl <| .tN <|
            .me _ ⟨rfl, trivial⟩ ⟨rfl, rfl, rfl, rfl, rfl, rfl, rfl, trivial⟩ (fun _ s => s.pick [0, 1, 3, 2] [_, _, _, _] rfl rfl) (by rw [Bool.eq_iff_iff, decide_eq_true_eq]; first | (rw [decide_eq_true_eq]; omega) | exact ⟨fun _ => by omega, fun _ => rfl⟩ | exact ⟨fun h => (by cases h), fun h => by omega⟩)
      ·
        have e73 := hC
        refine .cd rfl (fun h73 => ?_) (fun h73 => ?_)
        · have q73 : k < p.links.length ∧ k < NN := by rw [h73] at e73; exact of_decide_eq_true e73.symm
          obtain ⟨hkl, hkn⟩ := q73
          obtain ⟨bE, oE, cE, hpE, rE, lE, mE⟩ := hl5.elem (map_at (f := dU8) hkl)
          cases hpE
          obtain rfl := u8_open rE
          have hdv : k / (prtsP p).length < 3 := by rw [Nat.div_lt_iff_lt_mul hpos.1]; calc k < NN := hkn
              _ = (prtsP p).length * (prtsP p).length := hNN
              _ ≤ 3 * (prtsP p).length := Nat.mul_le_mul_right _ hpos.2
          have hmd : k % (prtsP p).length < 3 := Nat.lt_of_lt_of_le (Nat.mod_lt _ hpos.1) hpos.2
          refine .sk <| .tN <| .sq <| .bk <| .sq <| .rg <| .yv (.fieldAddr rfl Fx.field42_1) rfl <| .yv (.load rfl Fx.agg39 (.tail _ <| .tail _ <| .tail _ <| .head _) rfl) rfl <|
            .m rfl rfl <| .yv (.indexSl Fx.sl39 rfl rfl (i := k) rfl (by omega) (q := oE + k * 1) rfl) rfl <| .yv (.loadM rfl Fx.agg5 mE (k := 0) rfl rfl) rfl <| .yv (.rem rfl rfl (by decide) (c := ((p.links[k].toNat % 4 : Nat) : Int)) (by rw [Int.tmod_eq_emod_of_nonneg (by omega)]; omega)) rfl <|
            .yv (.gtr rfl rfl) rfl <| .nl <| .tN <| .cd rfl (fun h82 => ?_) (fun h82 => ?_)
          · try simp only [decide_eq_true_eq] at h82
            have hq : 0 < p.links[k].toNat % 4 := by omega
            exact .fl (trip := [(_, _, _), (_, _, _), (_, _, _), (_, _, _), (_, _, _), (_, _, _), (_, _, _), (_, _, _), (_, _, _), (_, _, _), (_, _, _), (_, _, _), (_, _, _), (_, _, _), (_, _, _), (_, _, _), (_, _, _), (_, _, _), (_, _, _), (_, _, _), (_, _, _), (_, _, _), (_, _, _)]) 23 [(0, 0), (1, 0), (2, 0), (3, 0), (4, 0), (5, 0), (6, 0), (7, 0), (8, 0), (9, 0), (10, 0), (11, 0), (12, 0), (13, 0), (14, 0), (15, 0), (16, 0), (17, 0), (18, 0), (19, 0), (20, 0), (21, 0), (22, 1)] (by kernel_rfl) (by kernel_rfl) rfl <|
              .yv (.fieldAddr rfl Fx.field49_2) rfl <| .yv (.load rfl Fx.agg46 (.tail _ <| .head _) rfl) rfl <| .m rfl rfl <| .m rfl rfl <| .m rfl rfl <| .yv (.quo rfl rfl (by omega) (c := ((k / (prtsP p).length : Nat) : Int)) (quoN hdv)) rfl <|
              .yv (.indexSl Fx.sl56 rfl rfl (i := k / (prtsP p).length) rfl hdv (q := k / (prtsP p).length) (by omega)) rfl <| .yv (.loadM rfl Fx.agg9 m5 (k := k / (prtsP p).length) (by omega) (abc_at hdv)) rfl <|
              .m rfl rfl <| .m rfl rfl <| .m rfl rfl <| .yv (.rem rfl rfl (by omega) (c := ((k % (prtsP p).length : Nat) : Int)) (tm2 _ _)) rfl <| .yv (.indexSl Fx.sl56 rfl rfl (i := k % (prtsP p).length) rfl hmd (q := k % (prtsP p).length) (by omega)) rfl <|
              .yv (.loadM rfl Fx.agg9 m5 (k := k % (prtsP p).length) (by omega) (abc_at hmd)) rfl <| .yv (.fieldAddr rfl Fx.field42_1) rfl <| .yv (.load rfl Fx.agg39 (.tail _ <|
              .tail _ <| .tail _ <| .head _) rfl) rfl <| .m rfl rfl <| .yv (.indexSl Fx.sl39 rfl rfl (i := k) rfl (by omega) (q := oE + k * 1) rfl) rfl <| .yv (.loadM rfl Fx.agg5 mE (k := 0) rfl rfl) rfl <|
              .yv (.rem rfl rfl (by decide) (c := ((p.links[k].toNat % 4 : Nat) : Int)) (by rw [Int.tmod_eq_emod_of_nonneg (by omega)]; omega)) rfl <| .yv (.conv rfl Fx.int5 Fx.int3 (c := ((p.links[k].toNat % 4 : Nat) : Int)) (w64 (by omega) (by omega))) rfl <|
              .yv (.build rfl (Fx.bld135_0_1_2 _ _ _)) rfl <| .bl rfl (Fx.bsl46_1 _ _ _) rfl fun b105 => .fn (tl := [_, _, _]) rfl <| .ap (news := [strV (abcS (k / (prtsP p).length)), strV (abcS (k % (prtsP p).length)), .int .i64 (p.links[k].toNat % 4 : Nat)]) Fx.row46 rfl (fun _ => (.tail <|
              .head)) rfl (.box (.head _) (fun j u h => by rw [Nat.zero_add]; exact h)) rfl (by simp [Value.oneCell', strV, abcS]) (by simp [maxLen]; omega) (by omega) rfl fun r106 _ => .ra (.tail _ <|
              .head _) fun p106 c106 e106 => .yv (.fieldAddr rfl Fx.field49_2) rfl <| .st (.tail <| .tail <| .head) rfl rfl Fx.size46 (by rw [e106]; rfl) (Nat.le_of_ble_eq_true rfl) rfl <|
              .nl <| .bN <| .tN <| .rg <| .m rfl rfl <| .yv (.add rfl rfl (w64 (by omega) (by omega))) rfl <| .a rfl rfl <| .nl <| .tN <| .ag (x := (k, m, r, xs)) (k + 1, m + 1, r106, xs ++ [strV (abcS (k / (prtsP p).length)), strV (abcS (k % (prtsP p).length)), .int .i64 (p.links[k].toNat % 4 : Nat)]) ⟨rfl, trivial⟩ ⟨rfl, rfl, rfl, rfl, rfl, rfl, trivial⟩ (fun _ s => (s.pick [1, 2, 4, 3] _ rfl rfl)) (by have hL := lnkP_yes (n := (prtsP p).length) hkl hq; exact ⟨by dsimp only; omega, by dsimp only; omega, by dsimp only; rw [lnksP_succ, hL]; simp [hm], by dsimp only; rw [lnksP_succ, hL, List.map_append]; exact hz.snoc (lk_shut4 _ _ (by omega)) rfl⟩) (by dsimp only; omega)
          · try simp only [decide_eq_false_iff_not] at h82
            have hq : ¬ 0 < p.links[k].toNat % 4 := by omega
            exact .sk <| .bN <| .tN <| .rg <| .m rfl rfl <| .yv (.add rfl rfl (w64 (by omega) (by omega))) rfl <| .a rfl rfl <| .nl <| .tN <| .ag (x := (k, m, r, xs)) (k + 1, m, r, xs) ⟨rfl, trivial⟩ ⟨rfl, rfl, rfl, rfl, rfl, rfl, trivial⟩ (fun _ s => (s.pick [0, 1, 3, 2] _ rfl rfl)) (by have hL := lnkP_no (n := (prtsP p).length) hkl hq; exact ⟨by dsimp only; omega, by dsimp only; omega, by dsimp only; rw [lnksP_succ, hL, List.append_nil]; exact hm, by dsimp only; rw [lnksP_succ, hL, List.append_nil]; exact hz⟩) (by dsimp only; omega)
        · have q73 : ¬ (k < p.links.length ∧ k < NN) := by rw [h73] at e73; exact of_decide_eq_false e73.symm
          have hkm : k = min p.links.length ((prtsP p).length * (prtsP p).length) := by rw [← hNN]; omega
          subst hkm
          subst hm
          refine Sx.freezeSeq (ds := (lnksP (prtsP p).length p.links (min p.links.length ((prtsP p).length * (prtsP p).length))).map dLk) (by simp) hz fun H6 p6 c6 u6 e6 hlk => ?_
          subst e6
          have hfl6 := hfl.up (u5.trans u6).up
          have hps6 := hps.up (u39.trans (u4.trans (u5.trans u6))).up
          have m56 := m5.up u6.up
          refine .ex <| .tE <| .tE <| .bE <| .tN <| .sq <| .rg <| .a rfl rfl <| ?_
          refine Sx.row0 137 1 ?_
          refine .nl <| .tN <| .sq <| .sq <| .rg <| .m rfl rfl <| .yv (.lenSl Fx.sl40 rfl) rfl <| .m rfl rfl <| .nl <| .tN <| .bk <| .lp (X := Nat × Hp × Value × List Value) [(2, _), (4, _), (5, _), (8, _), (108, _), (109, _)] ⟨rfl, rfl, rfl, rfl, rfl, rfl, trivial⟩ [_, _, _] (fun z => [(10, z.2.2.1), (110, .int .i64 (z.1 : Nat))]) (fun z => z.2.1) (fun z => [.row 137 1 z.2.2.1 z.1 z.2.2.2]) (fun z => z.1 ≤ (prtsP p).length ∧ HUp w H6 z.2.1 ∧ RepZ z.2.1 1 ((((prtsP p).take z.1).map arP).map dAr) z.2.2.2) (fun z => (prtsP p).length - z.1) (0, H6, .slice none 0 0, []) (fun _ s => s) ⟨rfl, rfl, trivial⟩ ⟨by simp, .refl, RepZ.nil⟩ fun z hC => ?_
          obtain ⟨k, H2, r, xs⟩ := z
          dsimp only at hC ⊢
          obtain ⟨hk0, u2, hz⟩ := hC
          refine .sq <| .rg <| .yv (.lss rfl rfl) rfl <| .nl <| .tN <| .sq <| .cd rfl (fun h111 => ?_) (fun h111 => ?_)
          · try simp only [decide_eq_true_eq] at h111
            have hk : k < (prtsP p).length := by omega
            obtain ⟨bE, oE, cE, hpE, rE, lE, mE⟩ := (hps6.up u2.up).elem (map_at (f := dPrt) hk)
            cases hpE
            refine .sk <| .tN <| .sq <| .bk <| .sq <| .rg <| .yv (.indexSl Fx.sl40 rfl rfl rfl (by omega) (q := oE + k * 4) rfl) rfl <| .yv (.loadMW rfl Fx.agg132 mE lE) rfl <|
              .al Fx.zero132 rfl fun b12 => .sV .head rfl rfl Fx.size132 lE rE.one rfl <| .nl <| .tN <| .rg <| .m rfl rfl <| .yv (.loadW rfl Fx.agg132 (.head _) lE) rfl <| .ct (X := Value) Fx.call56 rfl (fun W s => arity_prt H2 _ cE W rE s.agr) rfl fun v116 H116 hn116 u116 => ?_
            obtain ⟨pn116, cn116, e116, _⟩ := hn116.sl
            simp only [List.cons.injEq, and_true, List.length_map] at e116
            subst e116
            exact .bl rfl (Fx.bsl136_1 _ _ _) rfl fun b117 => .ap (news := [.slice pn116 (arP (prtsP p)[k]).length cn116]) Fx.row136 rfl (fun _ => (.tail <| .tail <| .head)) rfl (.box (.head _) (fun j u h => by rw [Nat.zero_add]; exact h)) rfl (by simp [Value.oneCell']) (by simp [maxLen]; omega) (by omega) rfl fun r118 _ => .a rfl rfl <|
              .nl <| .bN <| .tN <| .rg <| .yv (.add rfl rfl (w64 (by omega) (by omega))) rfl <| .m rfl rfl <| .nl <| .tN <| .ag (x := (k, H2, r, xs)) (k + 1, H116, r118, xs ++ [.slice pn116 (arP (prtsP p)[k]).length cn116]) ⟨rfl, rfl, trivial⟩ ⟨rfl, rfl, rfl, rfl, rfl, rfl, trivial⟩ (fun _ s => (s.pick [2, 3, 4, 5] _ rfl rfl)) ⟨by dsimp only; omega, u2.trans u116, by dsimp only; rw [take_snoc hk, List.map_append, List.map_append]; exact (hz.up u116.up).snoc hn116 rfl⟩ (by dsimp only; omega)
          · try simp only [decide_eq_false_iff_not] at h111
            obtain rfl : k = (prtsP p).length := by omega
            rw [List.take_length] at hz
            refine Sx.freezeSeq (ds := ((prtsP p).map arP).map dAr) (by simp) hz fun H7 p7 c7 u7 e7 har => ?_
            subst e7
            have u67 := u2.trans u7
            have hfl7 := hfl6.up u67.up
            have hlk7 := hlk.up u67.up
            have hps7 := hps6.up u67.up
            have m57 := m56.up u67.up
            refine .ex <| .tE <| .tE <| .bE <| .tN <| .sq <| .sq <| .rg <| .m rfl rfl <| .yv (.lenSl Fx.sl40 rfl) rfl <| .m rfl rfl <| ?_
            refine Sx.row0 54 3 ?_
            refine .nl <| .tN <| .bk <| .lp (X := Nat × Hp × Value × List Value) [(2, _), (5, _), (8, _), (10, _), (120, _), (121, _)] ⟨rfl, rfl, rfl, rfl, rfl, rfl, trivial⟩ [_, _] (fun z => [(122, .int .i64 (z.1 : Nat))]) (fun z => z.2.1) (fun z => [.row 54 3 z.2.2.1 z.1 z.2.2.2, .box b5 [strV fleetN, .slice p4 (p.flags.toNat % 3) c4, .slice p6 (lnksP (prtsP p).length p.links (min p.links.length ((prtsP p).length * (prtsP p).length))).length c6, z.2.2.1] 49]) (fun z => z.1 ≤ (prtsP p).length ∧ HUp w H7 z.2.1 ∧ RepZ z.2.1 3 ((cmpsP (arsP p) (p.flags.toNat % 3) ((prtsP p).take z.1)).map (dCp .i64)) z.2.2.2) (fun z => (prtsP p).length - z.1) (0, H7, .slice none 0 0, []) (fun _ s => s) ⟨rfl, trivial⟩ ⟨by simp, .refl, RepZ.nil⟩ fun z hC => ?_
            obtain ⟨k, H2, rc, xs⟩ := z
            dsimp only at hC ⊢
            obtain ⟨hk0, u2, hz⟩ := hC
            refine .sq <| .rg <| .yv (.lss rfl rfl) rfl <| .nl <| .tN <| .sq <| .cd rfl (fun h123 => ?_) (fun h123 => ?_)
            · try simp only [decide_eq_true_eq] at h123
              have hk : k < (prtsP p).length := by omega
              obtain ⟨bE, oE, cE, hpE, rE, lE, mE⟩ := (hps7.up u2.up).elem (map_at (f := dPrt) hk)
              cases hpE
              have hpa : (arsP p).getD k [] = arP (prtsP p)[k] := by unfold arsP; simp [hk]
              generalize hx : (prtsP p)[k] = x at rE hpa
              obtain ⟨q1, d1, q2, d2, rfl, g1, g2⟩ := prt_open rE
              have hcap1 := g1.cap
              have hcap2 := g2.cap
              have hints : 0 < intsP x ∧ intsP x ≤ 3 := by unfold intsP; omega
              have htabs : tabsP x ≤ 1 := by unfold tabsP; omega
              have m52 := m57.up u2.up
              have k3 : k < 3 := by omega
              refine .sk <| .tN <| .sq <| .bk <| .sq <| .rg <| .m rfl rfl <| .yv (.indexSl Fx.sl40 rfl rfl rfl (by omega) (q := oE + k * 4) rfl) rfl <| .yv (.loadMW rfl Fx.agg132 mE rfl) rfl <|
                .al Fx.zero132 rfl fun b14 => .a rfl rfl <| .sW .head rfl rfl Fx.size132 (by simp [Value.oneCell', strV]) rfl <| .nl <| .tN <| .sq <| .rg <| .m rfl rfl <| .m rfl rfl <|
                .yv (.indexSl Fx.sl56 rfl rfl (i := k) rfl k3 (q := k) (by omega)) rfl <| .yv (.loadM rfl Fx.agg9 m52 (k := k) (by omega) (abc_at k3)) rfl <| .yv (.build rfl (Fx.bld54_0 _)) rfl <|
                .al Fx.zero54 rfl fun b15 => .sW .head rfl rfl Fx.size54 (by simp [Value.oneCell', strV]) rfl <| .nl <| .tN <| .sq <| .sq <| .rg <| .yv (.fieldAddr rfl Fx.field132_0) rfl <|
                .yv (.load rfl Fx.agg5 (.tail _ <| .head _) rfl) rfl <| .yv (.rem rfl rfl (by decide) (c := ((x.ints.toNat % 3 : Nat) : Int)) (by rw [Int.tmod_eq_emod_of_nonneg (by omega)]; omega)) rfl <|
                .yv (.conv rfl Fx.int5 Fx.int3 (c := ((x.ints.toNat % 3 : Nat) : Int)) (w64 (by omega) (by omega))) rfl <| .yv (.add rfl rfl (c := ((intsP x : Nat) : Int)) ((w64 (by omega) (by omega)).trans (by unfold intsP; omega))) rfl <|
                .ct (X := Value) Fx.call55 rfl (fun W s => names_any H2 120 (intsP x) (by omega) W s.agr) rfl fun v137 H137 hn137 u137 => ?_
              obtain ⟨pn137, cn137, e137, _⟩ := hn137.sl
              simp only [List.cons.injEq, and_true, List.length_map, namesB_len] at e137
              subst e137
              refine .yv (.lenSl Fx.sl56 rfl) rfl <| .m rfl rfl <| ?_
              refine Sx.row0 140 3 ?_
              refine .nl <| .tN <| .bk <| .lp (X := Nat × Value × List Value) [(2, _), (5, _), (8, _), (10, _), (13, _), (14, _), (15, _), (120, _), (121, _), (122, _), (137, _), (138, _)] ⟨rfl, rfl, rfl, rfl, rfl, rfl, rfl, rfl, rfl, rfl, rfl, rfl, trivial⟩ [_, _, _, _, _] (fun z => [(139, .int .i64 (z.1 : Nat))]) (fun z => H137) (fun z => [.row 140 3 z.2.1 z.1 z.2.2, .box b15 [strV (abcS k), z.2.1, .slice none 0 0] 54]) (fun z => z.1 ≤ intsP x ∧ RepZ H137 3 ((vrsI z.1).map (dVr .i64)) z.2.2) (fun z => intsP x - z.1) (0, .slice none 0 0, []) (fun _ s => s) ⟨rfl, trivial⟩ ⟨by simp, RepZ.nil⟩ fun z hC => ?_
              obtain ⟨j, rv, ys⟩ := z
              dsimp only at hC ⊢
              obtain ⟨hj0, hzv⟩ := hC
              refine .sq <| .rg <| .yv (.lss rfl rfl) rfl <| .nl <| .tN <| .sq <| .cd rfl (fun h140 => ?_) (fun h140 => ?_)
              · try simp only [decide_eq_true_eq] at h140
                have hj : j < intsP x := by omega
                obtain ⟨bN, oN, hpN, mN⟩ := name_at hn137 (k := j) hj
                subst hpN
                exact .sk <| .tN <| .sq <| .bk <| .sq <| .rg <| .m rfl rfl <| .yv (.indexSl Fx.sl56 rfl rfl (i := j) rfl (by omega) (q := oN + j * 1) rfl) rfl <| .yv (.loadM rfl Fx.agg9 mN (k := 0) rfl rfl) rfl <|
                  .a rfl rfl <| .a rfl rfl <| .nl <| .tN <| .rg <| .yv (.fieldAddr rfl Fx.field54_1) rfl <| .yv (.load rfl Fx.agg51 (.tail _ <| .head _) rfl) rfl <| .m rfl rfl <|
                  .m rfl rfl <| .yv (.build rfl (Fx.bld140_0_1_2 _ _ _)) rfl <| .bl rfl (Fx.bsl51_1 _ _ _) rfl fun b149 => .ap (news := [strV (nmB 120 j), .int .i64 1, .int .i64 (j : Nat)]) Fx.row51 rfl (fun _ => (.tail <|
                  .head)) rfl (.box (.head _) (fun j u h => by rw [Nat.zero_add]; exact h)) rfl (by simp [Value.oneCell', strV, abcS]) (by simp [maxLen]; omega) (by omega) rfl fun r150 _ => .ra (.tail _ <|
                  .head _) fun p150 c150 e150 => .yv (.fieldAddr rfl Fx.field54_1) rfl <| .st (.tail <| .tail <| .head) rfl rfl Fx.size51 (by rw [e150]; rfl) (Nat.le_of_ble_eq_true rfl) rfl <|
                  .nl <| .bN <| .tN <| .rg <| .yv (.add rfl rfl (w64 (by omega) (by omega))) rfl <| .m rfl rfl <| .nl <| .tN <| .ag (x := (j, rv, ys)) (j + 1, r150, ys ++ [strV (nmB 120 j), .int .i64 1, .int .i64 (j : Nat)]) ⟨rfl, trivial⟩ ⟨rfl, rfl, rfl, rfl, rfl, rfl, rfl, rfl, rfl, rfl, rfl, rfl, trivial⟩ (fun _ s => (s.pick [1, 2, 3, 4, 5, 6, 7] _ rfl rfl)) ⟨by dsimp only; omega, by dsimp only; rw [vrsI_succ, List.map_append]; exact hzv.snoc (vrI_shut (by omega)) rfl⟩ (by dsimp only; omega)
              · try simp only [decide_eq_false_iff_not] at h140
                obtain rfl : j = intsP x := by omega
                refine .ex <| .tE <| .tE <| .bE <| .tN <| .sq <| .rg <| .yv (.fieldAddr rfl Fx.field54_1) rfl <| .yv (.load rfl Fx.agg51 (.tail _ <| .head _) rfl) rfl <| .yv (.build rfl (Fx.bld140_0_1_2 _ _ _)) rfl <|
                  .bl rfl (Fx.bsl51_1 _ _ _) rfl fun b156 => .ap (news := [strV [98, 48], .int .i64 2, .int .i64 0]) Fx.row51 rfl (fun _ => (.tail <| .head)) rfl (.box (.head _) (fun j u h => by rw [Nat.zero_add]; exact h)) rfl (by simp [Value.oneCell', strV, abcS]) (by simp [maxLen]; omega) (by omega) rfl fun r157 _ => .ra (.tail _ <|
                  .head _) fun p157 c157 e157 => .yv (.fieldAddr rfl Fx.field54_1) rfl <| .st (.tail <| .tail <| .head) rfl rfl Fx.size51 (by rw [e157]; rfl) (Nat.le_of_ble_eq_true rfl) rfl <|
                  .nl <| .tN <| .sq <| .sq <| .rg <| .yv (.fieldAddr rfl Fx.field132_1) rfl <| .yv (.load rfl Fx.agg5 (.tail _ <| .tail _ <| .tail _ <| .head _) rfl) rfl <| .yv (.rem rfl rfl (by decide) (c := ((x.tables.toNat % 2 : Nat) : Int)) (by rw [Int.tmod_eq_emod_of_nonneg (by omega)]; omega)) rfl <|
                  .yv (.conv rfl Fx.int5 Fx.int3 (c := ((tabsP x : Nat) : Int)) ((w64 (by omega) (by omega)).trans (by unfold tabsP; omega))) rfl <| .ct (X := Value) Fx.call55 rfl (fun W s => names_any H137 116 (tabsP x) (by omega) W s.agr) rfl fun v163 H163 hn163 u163 => ?_
                obtain ⟨pn163, cn163, e163, _⟩ := hn163.sl
                simp only [List.cons.injEq, and_true, List.length_map, namesB_len] at e163
                subst e163
                refine .yv (.lenSl Fx.sl56 rfl) rfl <| .m rfl rfl <| .nl <| .tN <| .bk <| .pm [1, 2, 0, 3, 4, 5, 6, 7] [_, _, _, _, _, _, _, _] rfl rfl <| .lp (X := Nat × Value × List Value) [(2, _), (5, _), (8, _), (10, _), (13, _), (14, _), (15, _), (120, _), (121, _), (122, _), (163, _), (164, _)] ⟨rfl, rfl, rfl, rfl, rfl, rfl, rfl, rfl, rfl, rfl, rfl, rfl, trivial⟩ [_, _, _, _, _, _] (fun z => [(165, .int .i64 (z.1 : Nat))]) (fun z => H163) (fun z => [.row 140 3 z.2.1 (intsP x + 1 + z.1) z.2.2, .box b15 [strV (abcS k), z.2.1, .slice none 0 0] 54]) (fun z => z.1 ≤ tabsP x ∧ RepZ H163 3 ((vrsI (intsP x) ++ [vrB] ++ vrsT z.1).map (dVr .i64)) z.2.2) (fun z => tabsP x - z.1) (0, r157, ys ++ [strV [98, 48], .int .i64 2, .int .i64 0]) (fun _ s => s) ⟨rfl, trivial⟩ ⟨by simp, by dsimp only; rw [show vrsT 0 = [] from rfl, List.append_nil, List.map_append]; exact (hzv.up u163.up).snoc (vr_shut (x := vrB) (by decide)) rfl⟩ fun z hC => ?_
                obtain ⟨i, rv2, zs⟩ := z
                dsimp only at hC ⊢
                obtain ⟨hi0, hzt⟩ := hC
                refine .sq <| .rg <| .yv (.lss rfl rfl) rfl <| .nl <| .tN <| .sq <| .cd rfl (fun h166 => ?_) (fun h166 => ?_)
                · try simp only [decide_eq_true_eq] at h166
                  have hi : i < tabsP x := by omega
                  obtain ⟨bN, oN, hpN, mN⟩ := name_at hn163 (k := i) hi
                  subst hpN
                  exact .sk <| .tN <| .sq <| .bk <| .sq <| .rg <| .yv (.indexSl Fx.sl56 rfl rfl (i := i) rfl (by omega) (q := oN + i * 1) rfl) rfl <| .yv (.loadM rfl Fx.agg9 mN (k := 0) rfl rfl) rfl <|
                    .a rfl rfl <| .nl <| .tN <| .rg <| .yv (.fieldAddr rfl Fx.field54_1) rfl <| .yv (.load rfl Fx.agg51 (.tail _ <| .head _) rfl) rfl <| .m rfl rfl <| .yv (.build rfl (Fx.bld140_0_1_2 _ _ _)) rfl <|
                    .bl rfl (Fx.bsl51_1 _ _ _) rfl fun b173 => .ap (news := [strV (nmB 116 i), .int .i64 3, .int .i64 0]) Fx.row51 rfl (fun _ => (.tail <| .head)) rfl (.box (.head _) (fun j u h => by rw [Nat.zero_add]; exact h)) rfl (by simp [Value.oneCell', strV, abcS]) (by simp [maxLen]; omega) (by omega) rfl fun r174 _ => .ra (.tail _ <|
                    .head _) fun p174 c174 e174 => .yv (.fieldAddr rfl Fx.field54_1) rfl <| .st (.tail <| .tail <| .head) rfl rfl Fx.size51 (by rw [e174]; rfl) (Nat.le_of_ble_eq_true rfl) rfl <|
                    .nl <| .bN <| .tN <| .rg <| .yv (.add rfl rfl (w64 (by omega) (by omega))) rfl <| .m rfl rfl <| .nl <| .tN <| .ag (x := (i, rv2, zs)) (i + 1, r174, zs ++ [strV (nmB 116 i), .int .i64 3, .int .i64 0]) ⟨rfl, trivial⟩ ⟨rfl, rfl, rfl, rfl, rfl, rfl, rfl, rfl, rfl, rfl, rfl, rfl, trivial⟩ (fun _ s => (s.pick [1, 2, 3, 4, 5, 6, 7, 8] _ rfl rfl)) ⟨by dsimp only; omega, by dsimp only; rw [vrsT_succ, ← List.append_assoc, List.map_append]; exact hzt.snoc (vr_shut (x := vrT0 i) (by simp [vrT0, nmB])) rfl⟩ (by dsimp only; omega)
                · try simp only [decide_eq_false_iff_not] at h166
                  obtain rfl : i = tabsP x := by omega
                  refine Sx.freezeSeq (ds := (varsP x).map (dVr .i64)) (by simp [varsP, vrsI_len, vrsT_len]; omega) hzt fun H8 pV cV u8 e8 hV => ?_
                  subst e8
                  have uB := u137.trans (u163.trans u8)
                  have g1b := g1.up uB.up
                  have g2b := g2.up uB.up
                  have harb := har.up (u2.trans uB).up
                  refine .ex <| .tE <| .tE <| .bE <| .tN <| .sq <| .rg <| .yv (.fieldAddr rfl Fx.field132_0) rfl <| .yv (.load rfl Fx.agg5 (.tail _ <| .tail _ <| .head _) rfl) rfl <|
                    .yv (.rem rfl rfl (by decide) (c := ((x.ints.toNat % 3 : Nat) : Int)) (by rw [Int.tmod_eq_emod_of_nonneg (by omega)]; omega)) rfl <| .yv (.conv rfl Fx.int5 Fx.int3 (c := ((x.ints.toNat % 3 : Nat) : Int)) (w64 (by omega) (by omega))) rfl <|
                    .yv (.add rfl rfl (c := ((intsP x : Nat) : Int)) ((w64 (by omega) (by omega)).trans (by unfold intsP; omega))) rfl <| .yv (.fieldAddr rfl Fx.field132_1) rfl <|
                    .yv (.load rfl Fx.agg5 (.tail _ <| .tail _ <| .head _) rfl) rfl <| .yv (.rem rfl rfl (by decide) (c := ((x.tables.toNat % 2 : Nat) : Int)) (by rw [Int.tmod_eq_emod_of_nonneg (by omega)]; omega)) rfl <|
                    .yv (.conv rfl Fx.int5 Fx.int3 (c := ((tabsP x : Nat) : Int)) ((w64 (by omega) (by omega)).trans (by unfold tabsP; omega))) rfl <| .yv (.fieldAddr rfl Fx.field49_1) rfl <|
                    .yv (.load rfl Fx.agg45 (.tail _ <| .tail _ <| .tail _ <| .tail _ <| .head _) rfl) rfl <| .yv (.lenSl Fx.sl45 rfl) rfl <| .m rfl rfl <| .m rfl rfl <| .yv (.build rfl (Fx.bld142_0_1_2_3_4 _ _ _ _ _ _ _)) rfl <|
                    .al Fx.zero142 rfl fun b20 => .sW .head rfl rfl Fx.size142 (by simp [Value.oneCell', strV]) rfl <| .nl <| .tN <| .sq <| .fl (trip := [(_, _, _), (_, _, _), (_, _, _), (_, _, _), (_, _, _), (_, _, _), (_, _, _)]) 7 [(0, 0), (1, 0), (2, 0), (3, 0), (4, 0), (5, 0), (6, 0)] (by kernel_rfl) (by kernel_rfl) rfl <|
                    .yv (.fieldAddr rfl Fx.field132_2) rfl <| .yv (.load rfl Fx.agg130 (.tail _ <| .tail _ <| .tail _ <| .head _) rfl) rfl <| .yv (.fieldAddr rfl Fx.field132_2) rfl <|
                    .yv (.load rfl Fx.agg130 (.tail _ <| .tail _ <| .tail _ <| .head _) rfl) rfl <| .yv (.lenSl Fx.sl130 rfl) rfl <| .yv (.call Fx.call54 rfl (fun W s => least_any H8 x.hs.length 3 W s.agr)) rfl <|
                    .yv (.cutHi2 Fx.sl130 rfl rfl (h := min x.hs.length 3) rfl (by have := g1b.len.2.1; omega)) rfl <| .fn (tl := [_]) rfl <| .a rfl rfl <| .nl <| .tN <| .cu (X := Hp × Value) [(2, _), (5, _), (8, _), (10, _), (14, _), (15, _), (20, _), (120, _), (121, _), (122, _)] ⟨rfl, rfl, rfl, rfl, rfl, rfl, rfl, rfl, rfl, rfl, trivial⟩ (fun z => [(21, z.2)]) (fun z => z.1) (fun z => [.box b20 (mkC (mkP (arsP p) (p.flags.toNat % 3) k x) (.slice p7 (prtsP p).length c7) (.slice none 0 0) 0) 142, .box b15 [strV (abcS k), .slice pV (intsP x + 1 + tabsP x) cV, .slice none 0 0] 54, .box b14 [.int .u8 x.ints.toNat, .int .u8 x.tables.toNat, .slice q1 x.hs.length d1, .slice q2 x.sec.length d2] 132, .row 54 3 rc k xs, .box b5 [strV fleetN, .slice p4 (p.flags.toNat % 3) c4, .slice p6 (lnksP (prtsP p).length p.links (min p.links.length ((prtsP p).length * (prtsP p).length))).length c6, rc] 49, .box b2 [.string ⟨#[]⟩, .slice none 0 0, .slice none 0 0, .slice none 0 0] 49, .box b1 [.int .u8 p.flags.toNat, .slice p1 p.links.length c1, .slice p2 p.comps.length c2] 42]) (fun z => HUp w H8 z.1 ∧ Rep z.1 (.seq 2 ((fstP x).map dCd)) [z.2]) ?_ fun z hC => ?_
                  ·
                    refine .sq <| .rg <| .m rfl rfl <| .yv (.lenSl Fx.sl130 rfl) rfl <| .yv (.eql rfl rfl) rfl <| .nl <| .tN <| .cd rfl (fun h201 => ?_) (fun h201 => ?_)
                    · try simp only [decide_eq_true_eq] at h201
                      have h0 : x.hs.length = 0 := by omega
                      refine .rg <| .yv (.build rfl (Fx.bld144_0 _)) rfl <| .bl rfl (Fx.bsl130_1 _ _) rfl fun b203 => ?_
                      refine Sx.freezeBox fun H9 u9 m9 => ?_
                      exact .a rfl rfl <| .nl <| .tN <| .me (H9, _) ⟨rfl, trivial⟩ ⟨rfl, rfl, rfl, rfl, rfl, rfl, rfl, rfl, rfl, rfl, trivial⟩ (fun _ s => s.pick [0, 1, 3, 4, 5, 6, 7] [_, _, _, _, _, _, _] rfl rfl) ⟨u9, by rw [fstP, if_pos h0]; exact Rep.mk (n := 1) (c := 1) m9 (.single (cd_shut (x := ⟨1, []⟩) (Rep.empty (by decide))) rfl) rfl (Nat.le_refl _) (by decide)⟩
                    · try simp only [decide_eq_false_iff_not] at h201
                      have h0 : ¬ x.hs.length = 0 := by omega
                      exact .sk <| .tN <| .me (H8, _) ⟨rfl, trivial⟩ ⟨rfl, rfl, rfl, rfl, rfl, rfl, rfl, rfl, rfl, rfl, trivial⟩ (fun _ s => s.pick [0, 1, 3, 4, 5, 6, 7] [_, _, _, _, _, _, _] rfl rfl) ⟨.refl, by rw [fstP, if_neg h0, List.map_take]; have := rep_take2 g1b (hi := min x.hs.length 3) (by omega); rwa [take_min3] at this⟩
                  ·
                    obtain ⟨H9, fv⟩ := z
                    dsimp only at hC ⊢
                    obtain ⟨u9, hfs⟩ := hC
                    have hoB : okB (mkP (arsP p) (p.flags.toNat % 3) k x) := okB_mk hk hf3 hpos hints
                    have hfl3 := fst_len (nf := p.flags.toNat % 3) hk hpa
                    have hsl3 := sec_len (nf := p.flags.toNat % 3) hk hpa
                    have g2c := g2b.up u9.up
                    refine Sx.row0 55 1 ?_
                    refine .sq <| .fl (trip := [(_, _, _), (_, _, _), (_, _, _), (_, _, _), (_, _, _)]) 5 [(0, 0), (1, 0), (2, 0), (3, 3), (4, 1)] (by kernel_rfl) (by kernel_rfl) rfl <|
                      .yv (.fieldAddr rfl Fx.field54_2) rfl <| .yv (.load rfl Fx.agg52 (.tail _ <| .tail _ <| .head _) rfl) rfl <| .m rfl rfl <| .c3 (X := Value × Nat × Hp × Value × Int) Fx.call57 rfl (fun W s => handlers_st (mkP (arsP p) (p.flags.toNat % 3) k x) hoB (fstP x) hfl3 H9 w W _ b20 _ _ _ _  hfs (by simpa [mkP, arsP] using harb.up u9.up) (s.pick [1, 0, 2, 3, 4, 5, 6, 7] [_, _, _, _, _, _, _, _] rfl rfl)) rfl (fun z207 hz207 => (.done (by kernel_rfl) <|
                      .yv (.load rfl Fx.agg52 (.tail _ <| .tail _ <| .head _) rfl) <| .yv (.fieldAddr rfl Fx.field54_2) <| .nl)) fun z207 hz207 => ?_
                    obtain ⟨v207, pv207, H207, bv207, lf207⟩ := z207
                    obtain ⟨u207, rr207⟩ := hz207
                    dsimp only at u207 rr207 ⊢
                    obtain ⟨pn207, cn207, e207, _⟩ := rr207.sl
                    simp only [List.cons.injEq, and_true, List.length_map, hdsP_len] at e207
                    subst e207
                    refine .bl rfl (Fx.bsl52_1 _ _ _) rfl fun b208 => .fn (tl := [_, _, _]) rfl <| .ap (news := [.slice pn207 (fstP x).length cn207]) Fx.row52 rfl (fun _ => (.tail <|
                      .tail <| .head)) rfl (.box (.head _) (fun j u h => by rw [Nat.zero_add]; exact h)) rfl (by simp [Value.oneCell']) (by simp [maxLen]) (by omega) rfl fun r209 _ => .ra (.tail _ <|
                      .tail _ <| .head _) fun p209 c209 e209 => .yv (.fieldAddr rfl Fx.field54_2) rfl <| .st (.tail <| .tail <| .tail <| .head) rfl rfl Fx.size52 (by rw [e209]; rfl) (Nat.le_of_ble_eq_true rfl) rfl <|
                      .nl <| .tN <| .cu (X := Hp × Value × List Value) [(2, _), (5, _), (8, _), (10, _), (15, _), (120, _), (121, _), (122, _)] ⟨rfl, rfl, rfl, rfl, rfl, rfl, rfl, rfl, trivial⟩ (fun z => []) (fun z => z.1) (fun z => [.row 55 1 z.2.1 (vssP (mkP (arsP p) (p.flags.toNat % 3) k x) x).length z.2.2, .box b15 [strV (abcS k), .slice pV (intsP x + 1 + tabsP x) cV, z.2.1] 54, .row 54 3 rc k xs, .box b5 [strV fleetN, .slice p4 (p.flags.toNat % 3) c4, .slice p6 (lnksP (prtsP p).length p.links (min p.links.length ((prtsP p).length * (prtsP p).length))).length c6, rc] 49, .box b2 [.string ⟨#[]⟩, .slice none 0 0, .slice none 0 0, .slice none 0 0] 49, .box b1 [.int .u8 p.flags.toNat, .slice p1 p.links.length c1, .slice p2 p.comps.length c2] 42]) (fun z => HUp w H9 z.1 ∧ RepZ z.1 1 ((vssP (mkP (arsP p) (p.flags.toNat % 3) k x) x).map (dVs .i64)) z.2.2) ?_ fun z hC => ?_
                    ·
                      refine .sq <| .rg <| .yv (.fieldAddr rfl Fx.field132_3) rfl <| .yv (.load rfl Fx.agg130 (.tail _ <| .tail _ <| .tail _ <| .tail _ <| .head _) rfl) rfl <| .yv (.lenSl Fx.sl130 rfl) rfl <|
                        .yv (.gtr rfl rfl) rfl <| .nl <| .tN <| .cd rfl (fun h214 => ?_) (fun h214 => ?_)
                      · try simp only [decide_eq_true_eq] at h214
                        have hsc : 0 < x.sec.length := by omega
                        refine .fl (trip := [(_, _, _), (_, _, _), (_, _, _), (_, _, _), (_, _, _), (_, _, _), (_, _, _), (_, _, _), (_, _, _), (_, _, _), (_, _, _)]) 11 [(0, 0), (1, 0), (2, 0), (3, 0), (4, 0), (5, 0), (6, 0), (7, 0), (8, 0), (9, 3), (10, 1)] (by kernel_rfl) (by kernel_rfl) rfl <|
                          .yv (.fieldAddr rfl Fx.field54_2) rfl <| .yv (.load rfl Fx.agg52 (.tail _ <| .tail _ <| .tail _ <| .head _) rfl) rfl <| .yv (.fieldAddr rfl Fx.field132_3) rfl <|
                          .yv (.load rfl Fx.agg130 (.tail _ <| .tail _ <| .tail _ <| .tail _ <| .head _) rfl) rfl <| .yv (.fieldAddr rfl Fx.field132_3) rfl <| .yv (.load rfl Fx.agg130 (.tail _ <|
                          .tail _ <| .tail _ <| .tail _ <| .head _) rfl) rfl <| .yv (.lenSl Fx.sl130 rfl) rfl <| .yv (.call Fx.call54 rfl (fun W s => least_any H207 x.sec.length 3 W s.agr)) rfl <|
                          .yv (.cutHi2 Fx.sl130 rfl rfl (h := min x.sec.length 3) rfl (by have := g2c.len.2.1; omega)) rfl <| .c3 (X := Value × Nat × Hp × Value × Int) Fx.call57 rfl (fun W s => handlers_st { (mkP (arsP p) (p.flags.toNat % 3) k x) with params := pv207 } hoB (x.sec.take 3) hsl3 H207 w W _ b20 _ _ _ _  (by have := rep_take2 (g2c.up u207.up) (hi := min x.sec.length 3) (by omega); rw [take_min3, ← List.map_take] at this; exact this) (by simpa [mkP, arsP] using harb.up (u9.trans u207).up) (s.pick [1, 0, 2, 3, 4, 5, 6, 7, 8] [_, _, _, _, _, _, _, _, _] rfl rfl)) rfl (fun z224 hz224 => (.done (by kernel_rfl) <|
                          .done (by kernel_rfl) <| .done (by kernel_rfl) <| .done (by kernel_rfl) <| .done (by kernel_rfl) <| .done (by kernel_rfl) <| .done (by kernel_rfl) <| .yv (.load rfl Fx.agg52 (.tail _ <|
                          .tail _ <| .tail _ <| .head _) rfl) <| .yv (.fieldAddr rfl Fx.field54_2) <| .nl)) fun z224 hz224 => ?_
                        obtain ⟨v224, pv224, H224, bv224, lf224⟩ := z224
                        obtain ⟨u224, rr224⟩ := hz224
                        dsimp only at u224 rr224 ⊢
                        obtain ⟨pn224, cn224, e224, _⟩ := rr224.sl
                        simp only [List.cons.injEq, and_true, List.length_map, hdsP_len] at e224
                        subst e224
                        exact .bl rfl (Fx.bsl52_1 _ _ _) rfl fun b225 => .fn (tl := [_, _, _]) rfl <| .ap (news := [.slice pn224 (x.sec.take 3).length cn224]) Fx.row52 rfl (fun _ => (.tail <|
                          .tail <| .tail <| .head)) rfl (.box (.head _) (fun j u h => by rw [Nat.zero_add]; exact h)) rfl (by simp [Value.oneCell']) (by simp [maxLen]) (by omega) rfl fun r226 _ => .ra (.tail _ <|
                          .tail _ <| .tail _ <| .head _) fun p226 c226 e226 => .yv (.fieldAddr rfl Fx.field54_2) rfl <| .st (.tail <| .tail <| .tail <| .tail <| .head) rfl rfl Fx.size52 (by rw [e226]; rfl) (Nat.le_of_ble_eq_true rfl) rfl <|
                          .nl <| .tN <| .me (H224, r226, _) trivial ⟨rfl, rfl, rfl, rfl, rfl, rfl, rfl, rfl, trivial⟩ (fun _ s => by rw [show (vssP (mkP (arsP p) (p.flags.toNat % 3) k x) x).length = 0 + 1 + 1 by rw [vssP, if_pos hsc]; rfl]; exact (s.pick [3, 4, 6, 7, 8, 9] _ rfl rfl)) ⟨u207.trans u224, by rw [vssP, if_pos hsc]; exact RepZ.app (.single (rr207.up u224.up) rfl) (.single (hdsP_par rr224) rfl)⟩
                      · try simp only [decide_eq_false_iff_not] at h214
                        have hsc : ¬ 0 < x.sec.length := by omega
                        exact .sk <| .tN <| .me (H207, r209, _) trivial ⟨rfl, rfl, rfl, rfl, rfl, rfl, rfl, rfl, trivial⟩ (fun _ s => by rw [show (vssP (mkP (arsP p) (p.flags.toNat % 3) k x) x).length = 0 + 1 by rw [vssP, if_neg hsc]; rfl]; exact (s.pick [2, 3, 5, 6, 7, 8] _ rfl rfl)) ⟨u207, by rw [vssP, if_neg hsc]; exact .single rr207 rfl⟩
                    ·
                      obtain ⟨H10, rs, ws⟩ := z
                      dsimp only at hC ⊢
                      obtain ⟨u10, hzs⟩ := hC
                      refine Sx.freezeSeq (ds := (vssP (mkP (arsP p) (p.flags.toNat % 3) k x) x).map (dVs .i64)) (by simp) hzs fun HE pS cS u11 e11 hSE => ?_
                      subst e11
                      have uE := uB.trans (u9.trans (u10.trans u11))
                      have hVE := hV.up (u9.trans (u10.trans u11)).up
                      exact .rg <| .yv (.fieldAddr rfl Fx.field49_3) rfl <| .yv (.load rfl Fx.agg47 (.tail _ <| .tail _ <| .head _) rfl) rfl <| .yv (.loadW rfl Fx.agg54 (.head _) rfl) rfl <|
                        .bl rfl (Fx.bsl47_1 _ _ _) rfl fun b231 => .ap (news := [strV (abcS k), .slice pV (intsP x + 1 + tabsP x) cV, .slice pS (vssP (mkP (arsP p) (p.flags.toNat % 3) k x) x).length cS]) Fx.row47 rfl (fun _ => (.tail <|
                        .tail <| .head)) rfl (.box (.head _) (fun j u h => by rw [Nat.zero_add]; exact h)) rfl (by simp [Value.oneCell', strV, abcS]) (by simp [maxLen]; omega) (by omega) rfl fun r232 _ => .ra (.tail _ <|
                        .tail _ <| .head _) fun p232 c232 e232 => .yv (.fieldAddr rfl Fx.field49_3) rfl <| .st (.tail <| .tail <| .tail <| .head) rfl rfl Fx.size47 (by rw [e232]; rfl) (Nat.le_of_ble_eq_true rfl) rfl <|
                        .nl <| .bN <| .tN <| .rg <| .yv (.add rfl rfl (w64 (by omega) (by omega))) rfl <| .m rfl rfl <| .nl <| .tN <| .ag (x := (k, H2, rc, xs)) (k + 1, HE, r232, xs ++ [strV (abcS k), .slice pV (intsP x + 1 + tabsP x) cV, .slice pS (vssP (mkP (arsP p) (p.flags.toNat % 3) k x) x).length cS]) ⟨rfl, trivial⟩ ⟨rfl, rfl, rfl, rfl, rfl, rfl, trivial⟩ (fun _ s => (s.pick [2, 3, 4, 5] _ rfl rfl)) ⟨by dsimp only; omega, u2.trans uE, by dsimp only; rw [cmpsP_succ hk, hx, List.map_append]; exact (hz.up uE.up).snoc (cp_shut (x := cmpP (arsP p) (p.flags.toNat % 3) k x) (by simp [cmpP, abcS]) hVE hSE) rfl⟩ (by dsimp only; omega)
            · try simp only [decide_eq_false_iff_not] at h123
              obtain rfl : k = (prtsP p).length := by omega
              rw [List.take_length] at hz
              refine Sx.freezeSeq (ds := (cmpsP (arsP p) (p.flags.toNat % 3) (prtsP p)).map (dCp .i64)) (by simp [cmpsP_len]) hz fun HF pc cc uF eF hcs => ?_
              subst eF
              have uZ := u2.trans uF
              refine .ex <| .tE <| .tE <| .bE <| .tN <| .sq <| .rg <| .yv (.loadW rfl Fx.agg49 (.head _) rfl) rfl <| .sW (.tail <| .head) rfl rfl Fx.size49 (by simp [Value.oneCell', strV]) rfl <|
                .nl <| .tN <| .rt <| ?_
              exact Sx.ret1 (.inl rfl) rfl (.cell rfl Fx.agg49 (.tail _ <| .head _) rfl) fun W t => ⟨_, HF, ft_shut (x := buildF p) (show fleetN.length ≤ 1000000 by decide) (hfl7.up uZ.up) (hlk7.up uZ.up) hcs, rfl, ((((u1.trans (u39.trans (u4.trans (u5.trans u6)))).trans u67).trans uZ).grow t)⟩
end Go.Proofs.YtmbiojpcidccjaaDoor
/- Contracts: ExprDepth. -/
namespace Go.Proofs.YtmbiojpcidccjaaDoor
open Go.RowKit Go.Par Go.Sx
set_option maxRecDepth 100000 in
theorem exprDepth_any (e : Ex) : ∀ (H : Hp) (cs : List Value) (w : World), Rep H (dEx .u8 e) cs → e.depth ≤ 1000000 → Agr H w →
    Calls Tryd.prog 13 #[.agg cs.toArray] w fun r w' => r = .returned (.int .i64 (e.depth : Nat)) ∧ Ext w w' := by
  induction e using Ex.ind with | _ op nm nn args ih
  intro H cs w h he hA
  rw [depth_mk] at he
  obtain ⟨p, c, rfl, hs, hnm⟩ := ex_open h
  have hcap := hs.cap
  refine Sx.enter (H := H) Tryd.func13 rfl Tryd.ntmps13 rfl hA ?_
  refine .sq <| .rg <| .bx rfl rfl rfl fun b1 => .a rfl rfl <| .nl <| .tN <| .sq <| .rg <| .a rfl rfl <| .nl <| .tN <| .sq <| .sq <| .rg <| .yv (.fieldAddr rfl Fx.field31_3) rfl <|
    .yv (.load rfl Fx.agg29 (.head _) rfl) rfl <| .yv (.lenSl Fx.sl29 rfl) rfl <| .m rfl rfl <| .nl <| .tN <| .bk <| .lp (X := Nat) [(1, _), (7, _)] ⟨rfl, rfl, trivial⟩ [_] (fun k => [(3, .int .i64 (Ex.deeps (args.take k) : Nat)), (8, .int .i64 (k : Nat))]) (fun k => H) (fun k => []) (fun k => k ≤ args.length) (fun k => args.length - k) 0 (fun _ s => s) ⟨rfl, rfl, trivial⟩ (by omega) fun k hC => ?_
  refine .sq <| .rg <| .yv (.lss rfl rfl) rfl <| .nl <| .tN <| .sq <| .cd rfl (fun h9 => ?_) (fun h9 => ?_)
  · try simp only [decide_eq_true_eq] at h9
    have hk : k < args.length := by omega
    obtain ⟨b5, o5, c5, hp5, r5, l5, m5⟩ := hs.elem (map_at hk)
    cases hp5
    have h1 := deeps_take args k
    have h2 := deeps_at hk
    have h3 := deeps_succ hk
    exact .sk <| .tN <| .sq <| .bk <| .sq <| .rg <| .m rfl rfl <| .a rfl rfl <| .nl <| .tN <| .rg <| .m rfl rfl <| .yv (.fieldAddr rfl Fx.field31_3) rfl <| .yv (.load rfl Fx.agg29 (.head _) rfl) rfl <|
      .m rfl rfl <| .yv (.indexSl Fx.sl29 rfl rfl rfl (by omega) (q := o5 + k * 4) rfl) rfl <| .yv (.loadMW rfl Fx.agg31 m5 l5) rfl <| .yv (.call Fx.call13 rfl (fun W s => ih _ (List.getElem_mem hk) H c5 W r5 (by omega) s.agr)) rfl <|
      .yv (.max2 rfl rfl (c := ((Ex.deeps (args.take (k + 1)) : Nat) : Int)) (by omega)) rfl <| .a rfl rfl <| .nl <| .bN <| .tN <| .rg <| .yv (.add rfl rfl (w64 (by omega) (by omega))) rfl <|
      .m rfl rfl <| .nl <| .tN <| .ag (k + 1) ⟨rfl, rfl, trivial⟩ ⟨rfl, rfl, trivial⟩ (fun _ s => s) (by omega) (by omega)
  · try simp only [decide_eq_false_iff_not] at h9
    obtain rfl : k = args.length := by omega
    rw [List.take_length]
    refine .ex <| .tE <| .tE <| .bE <| .tN <| .sq <| .rg <| .m rfl rfl <| .yv (.add rfl rfl (w64 (by omega) (by omega))) rfl <| .a rfl rfl <| .nl <| .tN <| .rt <| ?_
    exact Sx.ret1 (.inl rfl) rfl (.tmp rfl) fun W s => ⟨by rw [depth_mk]; rfl, s.ext⟩
set_option maxRecDepth 100000 in
theorem rexprDepth_any (e : Ex) : ∀ (H : Hp) (cs : List Value) (w : World), Rep H (dEx .i64 e) cs → e.depth ≤ 1000000 → Agr H w →
    Calls Tryd.prog 14 #[.agg cs.toArray] w fun r w' => r = .returned (.int .i64 (e.depth : Nat)) ∧ Ext w w' := by
  induction e using Ex.ind with | _ op nm nn args ih
  intro H cs w h he hA
  rw [depth_mk] at he
  obtain ⟨p, c, rfl, hs, hnm⟩ := ex_open h
  have hcap := hs.cap
  refine Sx.enter (H := H) Tryd.func14 rfl Tryd.ntmps14 rfl hA ?_
  refine .sq <| .rg <| .bx rfl rfl rfl fun b1 => .a rfl rfl <| .nl <| .tN <| .sq <| .rg <| .a rfl rfl <| .nl <| .tN <| .sq <| .sq <| .rg <| .yv (.fieldAddr rfl Fx.field26_3) rfl <|
    .yv (.load rfl Fx.agg24 (.head _) rfl) rfl <| .yv (.lenSl Fx.sl24 rfl) rfl <| .m rfl rfl <| .nl <| .tN <| .bk <| .lp (X := Nat) [(7, _), (8, _)] ⟨rfl, rfl, trivial⟩ [_] (fun k => [(3, .int .i64 (Ex.deeps (args.take k) : Nat)), (9, .int .i64 (k : Nat))]) (fun k => H) (fun k => []) (fun k => k ≤ args.length) (fun k => args.length - k) 0 (fun _ s => s) ⟨rfl, rfl, trivial⟩ (by omega) fun k hC => ?_
  refine .sq <| .rg <| .yv (.lss rfl rfl) rfl <| .nl <| .tN <| .sq <| .cd rfl (fun h10 => ?_) (fun h10 => ?_)
  · try simp only [decide_eq_true_eq] at h10
    have hk : k < args.length := by omega
    obtain ⟨b5, o5, c5, hp5, r5, l5, m5⟩ := hs.elem (map_at hk)
    cases hp5
    have h1 := deeps_take args k
    have h2 := deeps_at hk
    have h3 := deeps_succ hk
    exact .sk <| .tN <| .sq <| .bk <| .sq <| .rg <| .yv (.indexSl Fx.sl24 rfl rfl rfl (by omega) (q := o5 + k * 4) rfl) rfl <| .yv (.loadMW rfl Fx.agg26 m5 l5) rfl <|
      .al Fx.zero26 rfl fun b5 => .sV .head rfl rfl Fx.size26 l5 r5.one rfl <| .nl <| .tN <| .rg <| .m rfl rfl <| .yv (.loadW rfl Fx.agg26 (.head _) l5) rfl <| .yv (.call Fx.call14 rfl (fun W s => ih _ (List.getElem_mem hk) H c5 W r5 (by omega) s.agr)) rfl <|
      .yv (.max2 rfl rfl (c := ((Ex.deeps (args.take (k + 1)) : Nat) : Int)) (by omega)) rfl <| .a rfl rfl <| .nl <| .bN <| .tN <| .rg <| .yv (.add rfl rfl (w64 (by omega) (by omega))) rfl <|
      .m rfl rfl <| .nl <| .tN <| .ag (k + 1) ⟨rfl, rfl, trivial⟩ ⟨rfl, rfl, trivial⟩ (fun _ s => s.pick [1] [_] rfl rfl) (by omega) (by omega)
  · try simp only [decide_eq_false_iff_not] at h10
    obtain rfl : k = args.length := by omega
    rw [List.take_length]
    refine .ex <| .tE <| .tE <| .bE <| .tN <| .sq <| .rg <| .m rfl rfl <| .yv (.add rfl rfl (w64 (by omega) (by omega))) rfl <| .a rfl rfl <| .nl <| .tN <| .rt <| ?_
    exact Sx.ret1 (.inl rfl) rfl (.tmp rfl) fun W s => ⟨by rw [depth_mk]; rfl, s.ext⟩
end Go.Proofs.YtmbiojpcidccjaaDoor
/- Contracts: the bytes of the lexer. -/
namespace Go.Proofs.YtmbiojpcidccjaaDoor
open Go.RowKit Go.Par Go.Sx
set_option maxRecDepth 100000 in
theorem letter_any (c : UInt8) (w : World) : Calls Tryd.prog 86 #[byteV c] w fun r w' => r = .returned (.bool (letB c)) ∧ Ext w w' := by
  refine Sx.enter (H := (fun _ => none)) Tryd.func86 rfl Tryd.ntmps86 rfl (fun _ _ e => by cases e) ?_
  refine .sq <| .rg <| .a rfl rfl <| .nl <| .tN <| .sq <| .rg <| .m rfl rfl <| .yv (.geq rfl rfl) rfl <| .m rfl rfl <| .b2 (fun h5 => ?_) (fun h5 => ?_)
  · try simp only [decide_eq_true_eq] at h5
    refine .gd rfl rfl <| .yv (.move rfl) rfl <| .gd rfl rfl <| .yv (.leq rfl rfl) rfl <| .yv (.pickT rfl rfl) rfl <| .m rfl rfl <| .b2 (fun h9 => ?_) (fun h9 => ?_)
    · try simp only [decide_eq_true_eq] at h9
      refine .gF rfl rfl rfl rfl <| .gF rfl rfl rfl rfl <| .gF rfl rfl rfl rfl <| .gU rfl rfl rfl <| .gU rfl rfl rfl <| .gF rfl rfl rfl rfl <| .yv (.pickT rfl rfl) rfl <|
        .a rfl rfl <| .nl <| .tN <| .rt <| ?_
      exact Sx.ret1 (.inl rfl) rfl (.tmp rfl) fun W s => ⟨retB (by simp only [letB, Bool.or_eq_true, Bool.and_eq_true, decide_eq_true_eq, reduceCtorEq, true_iff, false_iff, iff_true, iff_false, beq_iff_eq, Bool.true_eq_false, Bool.false_eq_true]; try omega), s.ext⟩
    · try simp only [decide_eq_false_iff_not] at h9
      refine .gd rfl rfl <| .yv (.move rfl) rfl <| .gd rfl rfl <| .yv (.geq rfl rfl) rfl <| .gd rfl rfl <| .yv (.move rfl) rfl <| .b2 (fun h12 => ?_) (fun h12 => ?_)
      · try simp only [decide_eq_true_eq] at h12
        refine .gd rfl rfl <| .yv (.move rfl) rfl <| .gd rfl rfl <| .yv (.leq rfl rfl) rfl <| .gd rfl rfl <| .yv (.pickT rfl rfl) rfl <| .yv (.pickF rfl rfl) rfl <| .a rfl rfl <|
          .nl <| .tN <| .rt <| ?_
        exact Sx.ret1 (.inl rfl) rfl (.tmp rfl) fun W s => ⟨retB (by simp only [letB, Bool.or_eq_true, Bool.and_eq_true, decide_eq_true_eq, reduceCtorEq, true_iff, false_iff, iff_true, iff_false, beq_iff_eq, Bool.true_eq_false, Bool.false_eq_true]; try omega), s.ext⟩
      · try simp only [decide_eq_false_iff_not] at h12
        refine .gF rfl rfl rfl rfl <| .gF rfl rfl rfl rfl <| .gd rfl rfl <| .yv (.pickF rfl rfl) rfl <| .yv (.pickF rfl rfl) rfl <| .a rfl rfl <| .nl <| .tN <| .rt <| ?_
        exact Sx.ret1 (.inl rfl) rfl (.tmp rfl) fun W s => ⟨retB (by simp only [letB, Bool.or_eq_true, Bool.and_eq_true, decide_eq_true_eq, reduceCtorEq, true_iff, false_iff, iff_true, iff_false, beq_iff_eq, Bool.true_eq_false, Bool.false_eq_true]; try omega), s.ext⟩
  · try simp only [decide_eq_false_iff_not] at h5
    refine .gF rfl rfl rfl rfl <| .gF rfl rfl rfl rfl <| .yv (.pickF rfl rfl) rfl <| .m rfl rfl <| .gd rfl rfl <| .yv (.move rfl) rfl <| .gd rfl rfl <| .yv (.geq rfl rfl) rfl <|
      .gd rfl rfl <| .yv (.move rfl) rfl <| .b2 (fun h12 => ?_) (fun h12 => ?_)
    · try simp only [decide_eq_true_eq] at h12
      refine .gd rfl rfl <| .yv (.move rfl) rfl <| .gd rfl rfl <| .yv (.leq rfl rfl) rfl <| .gd rfl rfl <| .yv (.pickT rfl rfl) rfl <| .yv (.pickF rfl rfl) rfl <| .a rfl rfl <|
        .nl <| .tN <| .rt <| ?_
      exact Sx.ret1 (.inl rfl) rfl (.tmp rfl) fun W s => ⟨retB (by simp only [letB, Bool.or_eq_true, Bool.and_eq_true, decide_eq_true_eq, reduceCtorEq, true_iff, false_iff, iff_true, iff_false, beq_iff_eq, Bool.true_eq_false, Bool.false_eq_true]; try omega), s.ext⟩
    · try simp only [decide_eq_false_iff_not] at h12
      refine .gF rfl rfl rfl rfl <| .gF rfl rfl rfl rfl <| .gd rfl rfl <| .yv (.pickF rfl rfl) rfl <| .yv (.pickF rfl rfl) rfl <| .a rfl rfl <| .nl <| .tN <| .rt <| ?_
      exact Sx.ret1 (.inl rfl) rfl (.tmp rfl) fun W s => ⟨retB (by simp only [letB, Bool.or_eq_true, Bool.and_eq_true, decide_eq_true_eq, reduceCtorEq, true_iff, false_iff, iff_true, iff_false, beq_iff_eq, Bool.true_eq_false, Bool.false_eq_true]; try omega), s.ext⟩
set_option maxRecDepth 100000 in
theorem digit_any (c : UInt8) (w : World) : Calls Tryd.prog 90 #[byteV c] w fun r w' => r = .returned (.bool (digB c)) ∧ Ext w w' := by
  refine Sx.enter (H := (fun _ => none)) Tryd.func90 rfl Tryd.ntmps90 rfl (fun _ _ e => by cases e) ?_
  refine .sq <| .rg <| .a rfl rfl <| .nl <| .tN <| .sq <| .rg <| .m rfl rfl <| .yv (.geq rfl rfl) rfl <| .m rfl rfl <| .b2 (fun h5 => ?_) (fun h5 => ?_)
  · try simp only [decide_eq_true_eq] at h5
    refine .gd rfl rfl <| .yv (.move rfl) rfl <| .gd rfl rfl <| .yv (.leq rfl rfl) rfl <| .yv (.pickT rfl rfl) rfl <| .a rfl rfl <| .nl <| .tN <| .rt <| ?_
    exact Sx.ret1 (.inl rfl) rfl (.tmp rfl) fun W s => ⟨retB (by simp only [digB, Bool.or_eq_true, Bool.and_eq_true, decide_eq_true_eq, reduceCtorEq, true_iff, false_iff, iff_true, iff_false, beq_iff_eq, Bool.true_eq_false, Bool.false_eq_true]; try omega), s.ext⟩
  · try simp only [decide_eq_false_iff_not] at h5
    refine .gF rfl rfl rfl rfl <| .gF rfl rfl rfl rfl <| .yv (.pickF rfl rfl) rfl <| .a rfl rfl <| .nl <| .tN <| .rt <| ?_
    exact Sx.ret1 (.inl rfl) rfl (.tmp rfl) fun W s => ⟨retB (by simp only [digB, Bool.or_eq_true, Bool.and_eq_true, decide_eq_true_eq, reduceCtorEq, true_iff, false_iff, iff_true, iff_false, beq_iff_eq, Bool.true_eq_false, Bool.false_eq_true]; try omega), s.ext⟩
end Go.Proofs.YtmbiojpcidccjaaDoor
