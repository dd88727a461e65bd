/- Texts of the proof, one behind the other. -/
import Derived.Test.YtmbiojpcidccjaaDoorMb
/- Contracts: number. -/
namespace Go.Proofs.YtmbiojpcidccjaaDoor
open Go.RowKit Go.Par Go.Sx
/-- The contract of number at a depth. -/
def NumOf (rec : Bs → Ex × Bs) (M : Mk) (d : Nat) : Prop := ∀ (H : Hp) (w0 W : World) (bs : List Res) (b : Nat) (arV bv : Value) (left : Int) (by_ : Bs), Rep H (.seq 1 ((by_).map dU8)) [bv] → St H w0 (.box b (mkC M arV bv left) 142 :: bs) W →
  Calls Tryd.prog 112 #[.pointer (some ⟨b, 0, none⟩), .int .i64 (d : Nat)] W fun e W' => ∃ z : List Value × Value × Hp, (HUp w0 H z.2.2 ∧ Rep z.2.2 (dEx .i64 (rec by_).1) z.1 ∧ Rep z.2.2 (.seq 1 (((rec by_).2).map dU8)) [z.2.1]) ∧ e = .returned (.agg z.1.toArray) ∧ St z.2.2 w0 (.box b (mkC M arV z.2.1 left) 142 :: bs) W'
theorem rep_num {H : Hp} {n : Nat} (h : n < 9) : Rep H (dEx .i64 (.mk 1 [] (Int64.ofNat n) [])) [.int .i64 1, strV [], .int .i64 (n : Nat), .slice none 0 0] := by
  have e : (Int64.ofNat n).toInt = (n : Int) := by
    have key : ∀ i ∈ List.range 9, (Int64.ofNat i).toInt = (i : Int) := by decide
    exact key n (List.mem_range.2 h)
  have := ex_shut (H := H) (k := .i64) (op := 1) (nm := []) (n := Int64.ofNat n) (args := []) (s := .slice none 0 0) (by decide) (Rep.empty (by decide))
  rw [e] at this
  exact this
theorem ops_at {k : Nat} (h : k < 6) : [Value.int .i64 14, .int .i64 15, .int .i64 11, .int .i64 12, .int .i64 13, .int .i64 14][k]? = some (.int .i64 (([14, 15, 11, 12, 13, 14] : List UInt8).getD k 14).toNat) := by
  match k, h with
  | 0, _ => rfl
  | 1, _ => rfl
  | 2, _ => rfl
  | 3, _ => rfl
  | 4, _ => rfl
  | 5, _ => rfl
set_option maxRecDepth 100000 in
theorem number_step (M : Mk) (hM : okM M) (d : Nat) (hd : d ≤ 3) (rec : Bs → Ex × Bs) (hrec : d ≤ 2 → NumOf rec M (d + 1)) : NumOf (numS M d rec) M d := by
  intro H w0 W bs b arV bv left by_ hb s
  unfold numS
  refine Sx.enterS Tryd.func112 rfl Tryd.ntmps112 rfl s ?_
  refine .sq <| .rg <| .al Fx.zero26 rfl fun b4 => .nl <| .tN <| .sq <| .rg <| .m rfl rfl <| .cs (X := Value) Fx.call96 rfl (fun W s => next_st 12 (by decide) hb  (s.pickT (hd := [_, _]) (tl := bs) (hd' := [_, _]) [1, 0] rfl rfl)) rfl fun z9 hz9 => ?_
  have hk12 := nextB_lt by_ (n := 12) (by decide)
  generalize (nextB by_ 12).1 = k at hk12 ⊢
  generalize (nextB by_ 12).2 = b1 at hz9 ⊢
  refine .a rfl rfl <| .nl <| .tN <| .cu (X := Unit) [(0, _), (1, _), (4, _)] ⟨rfl, rfl, rfl, trivial⟩ (fun z => []) (fun z => H) (fun z => (.box b (mkC M arV z9 left) 142 :: .box b4 [.int .i64 0, .string ⟨#[]⟩, .int .i64 0, .slice none 0 0] 26 :: bs)) (fun z => ¬ (k < 2 ∨ (2 < d ∧ 5 < k)) ∧ ¬ (k < 4 ∨ (k = 4 ∧ M.params = 0)) ∧ ¬ k = 4 ∧ ¬ k = 5 ∧ ¬ (k = 6 ∧ 0 < M.tables) ∧ ¬ (k = 7 ∧ 0 < M.tables) ∧ ¬ k = 8) ?_ fun z hC => ?_
  ·
    refine .bk <| .cu (X := Bool) [(0, _), (1, _), (4, _), (5, _)] ⟨rfl, rfl, rfl, rfl, trivial⟩ (fun z => [(10, .bool z)]) (fun z => H) (fun z => (.box b (mkC M arV z9 left) 142 :: .box b4 [.int .i64 0, .string ⟨#[]⟩, .int .i64 0, .slice none 0 0] 26 :: bs)) (fun z => z = decide (k < 2 ∨ (2 < d ∧ 5 < k))) ?_ fun z hC => ?_
    ·
      refine .rg <| .m rfl rfl <| .yv (.lss rfl rfl) rfl <| .m rfl rfl <| .b2 (fun h13 => ?_) (fun h13 => ?_)
      · try simp only [decide_eq_true_eq] at h13
        exact .gF rfl rfl rfl rfl <| .gF rfl rfl rfl rfl <| .gF rfl rfl rfl rfl <| .gU rfl rfl rfl <| .gU rfl rfl rfl <| .gF rfl rfl rfl rfl <| .yv (.pickT rfl rfl) rfl <|
          .a rfl rfl <| .nl <| .tN <| .me _ ⟨rfl, trivial⟩ ⟨rfl, rfl, rfl, rfl, trivial⟩ (fun _ s => s) (by rw [Bool.eq_iff_iff, decide_eq_true_eq]; first | (rw [decide_eq_true_eq]; omega) | exact ⟨fun _ => by omega, fun _ => rfl⟩ | exact ⟨fun h => (by cases h), fun h => by omega⟩)
      · try simp only [decide_eq_false_iff_not] at h13
        refine .gd rfl rfl <| .yv (.move rfl) rfl <| .gd rfl rfl <| .yv (.gtr rfl rfl) rfl <| .gd rfl rfl <| .yv (.move rfl) rfl <| .b2 (fun h16 => ?_) (fun h16 => ?_)
        · try simp only [decide_eq_true_eq] at h16
          exact .gd rfl rfl <| .yv (.move rfl) rfl <| .gd rfl rfl <| .yv (.gtr rfl rfl) rfl <| .gd rfl rfl <| .yv (.pickT rfl rfl) rfl <| .yv (.pickF rfl rfl) rfl <| .a rfl rfl <|
            .nl <| .tN <| .me _ ⟨rfl, trivial⟩ ⟨rfl, rfl, rfl, rfl, trivial⟩ (fun _ s => s) (by rw [Bool.eq_iff_iff, decide_eq_true_eq]; first | (rw [decide_eq_true_eq]; omega) | exact ⟨fun _ => by omega, fun _ => rfl⟩ | exact ⟨fun h => (by cases h), fun h => by omega⟩)
        · try simp only [decide_eq_false_iff_not] at h16
          exact .gF rfl rfl rfl rfl <| .gF rfl rfl rfl rfl <| .gd rfl rfl <| .yv (.pickF rfl rfl) rfl <| .yv (.pickF rfl rfl) rfl <| .a rfl rfl <| .nl <| .tN <| .me _ ⟨rfl, trivial⟩ ⟨rfl, rfl, rfl, rfl, trivial⟩ (fun _ s => s) (by rw [Bool.eq_iff_iff, decide_eq_true_eq]; first | (rw [decide_eq_true_eq]; omega) | exact ⟨fun _ => by omega, fun _ => rfl⟩ | exact ⟨fun h => (by cases h), fun h => by omega⟩)
    ·
      have e10 := hC
      refine .cd rfl (fun h10 => ?_) (fun h10 => ?_)
      · have q10 : k < 2 ∨ (2 < d ∧ 5 < k) := by rw [h10] at e10; exact of_decide_eq_true e10.symm
        refine .sq <| .rg <| .m rfl rfl <| .cs (X := Value) Fx.call96 rfl (fun W s => next_st 9 (by decide) hz9  (s.pickT (hd := [_, _]) (tl := bs) (hd' := [_, _]) [0, 1] rfl rfl)) rfl fun z22 hz22 => .yv (.build rfl (Fx.bld26_0_2 _ _)) rfl <|
          .sW (.tail <| .head) rfl rfl Fx.size26 (by simp [Value.oneCell', strV]) rfl <| .nl <| .tN <| .rt <| .bR <| .tR <| ?_
        exact Sx.ret1 (.inl rfl) rfl (.cell rfl Fx.agg26 (.tail _ <| .head _) rfl) fun W t => ⟨(_, _, H), by rw [show numT M d rec k b1 = _ from by rw [numT, if_pos (by omega)]]; exact ⟨.refl, rep_num (nextB_lt _ (by decide)), hz22⟩, rfl, (t.pickT (hd := [_, _]) (tl := bs) (hd' := [_]) [0] rfl rfl)⟩
      · have q10 : ¬ (k < 2 ∨ (2 < d ∧ 5 < k)) := by rw [h10] at e10; exact of_decide_eq_false e10.symm
        refine .cu (X := Bool) [(0, _), (1, _), (4, _), (5, _)] ⟨rfl, rfl, rfl, rfl, trivial⟩ (fun z => [(24, .bool z)]) (fun z => H) (fun z => (.box b (mkC M arV z9 left) 142 :: .box b4 [.int .i64 0, .string ⟨#[]⟩, .int .i64 0, .slice none 0 0] 26 :: bs)) (fun z => z = decide (k < 4 ∨ (k = 4 ∧ M.params = 0))) ?_ fun z hC => ?_
        ·
          refine .rg <| .m rfl rfl <| .yv (.lss rfl rfl) rfl <| .m rfl rfl <| .b2 (fun h27 => ?_) (fun h27 => ?_)
          · try simp only [decide_eq_true_eq] at h27
            exact .gF rfl rfl rfl rfl <| .gF rfl rfl rfl rfl <| .gF rfl rfl rfl rfl <| .gU rfl rfl rfl <| .gU rfl rfl rfl <| .gU rfl rfl rfl <| .gU rfl rfl rfl <| .gU rfl rfl rfl <|
              .gF rfl rfl rfl rfl <| .yv (.pickT rfl rfl) rfl <| .a rfl rfl <| .nl <| .tN <| .me _ ⟨rfl, trivial⟩ ⟨rfl, rfl, rfl, rfl, trivial⟩ (fun _ s => s) (by rw [Bool.eq_iff_iff, decide_eq_true_eq]; first | (rw [decide_eq_true_eq]; omega) | exact ⟨fun _ => by omega, fun _ => rfl⟩ | exact ⟨fun h => (by cases h), fun h => by omega⟩)
          · try simp only [decide_eq_false_iff_not] at h27
            refine .gd rfl rfl <| .yv (.move rfl) rfl <| .gd rfl rfl <| .yv (.eql rfl rfl) rfl <| .gd rfl rfl <| .yv (.move rfl) rfl <| .b2 (fun h30 => ?_) (fun h30 => ?_)
            · try simp only [decide_eq_true_eq] at h30
              exact .gd rfl rfl <| .yv (.move rfl) rfl <| .gd rfl rfl <| .yv (.nilCheck rfl) rfl <| .gd rfl rfl <| .yv (.fieldAddr rfl Fx.field142_5) rfl <| .gd rfl rfl <| .yv (.load rfl Fx.agg3 (.head _) rfl) rfl <|
                .gd rfl rfl <| .yv (.eql rfl rfl) rfl <| .gd rfl rfl <| .yv (.pickT rfl rfl) rfl <| .yv (.pickF rfl rfl) rfl <| .a rfl rfl <| .nl <| .tN <| .me _ ⟨rfl, trivial⟩ ⟨rfl, rfl, rfl, rfl, trivial⟩ (fun _ s => s) (by rw [Bool.eq_iff_iff, decide_eq_true_eq]; first | (rw [decide_eq_true_eq]; omega) | exact ⟨fun _ => by omega, fun _ => rfl⟩ | exact ⟨fun h => (by cases h), fun h => by omega⟩)
            · try simp only [decide_eq_false_iff_not] at h30
              exact .gF rfl rfl rfl rfl <| .gF rfl rfl rfl rfl <| .gF rfl rfl rfl rfl <| .gF rfl rfl rfl rfl <| .gF rfl rfl rfl rfl <| .gd rfl rfl <| .yv (.pickF rfl rfl) rfl <|
                .yv (.pickF rfl rfl) rfl <| .a rfl rfl <| .nl <| .tN <| .me _ ⟨rfl, trivial⟩ ⟨rfl, rfl, rfl, rfl, trivial⟩ (fun _ s => s) (by rw [Bool.eq_iff_iff, decide_eq_true_eq]; first | (rw [decide_eq_true_eq]; omega) | exact ⟨fun _ => by omega, fun _ => rfl⟩ | exact ⟨fun h => (by cases h), fun h => by omega⟩)
        ·
          have e24 := hC
          refine .cd rfl (fun h24 => ?_) (fun h24 => ?_)
          · have q24 : k < 4 ∨ (k = 4 ∧ M.params = 0) := by rw [h24] at e24; exact of_decide_eq_true e24.symm
            refine .sq <| .rg <| .m rfl rfl <| .cs (X := Value × Hp) Fx.call114 rfl (fun W s => integer_st hM hz9  (s.pickT (hd := [_, _]) (tl := bs) (hd' := [_, _]) [0, 1] rfl rfl)) rfl fun z39 hz39 => .yv (.build rfl (Fx.bld26_0_1 _ _)) rfl <|
              .sW (.tail <| .head) rfl rfl Fx.size26 (by simp [Value.oneCell', strV]) rfl <| .nl <| .tN <| .rt <| .bR <| .tR <| ?_
            exact Sx.ret1 (.inl rfl) rfl (.cell rfl Fx.agg26 (.tail _ <| .head _) rfl) fun W t => ⟨(_, _, z39.2), by rw [show numT M d rec k b1 = _ from by rw [numT, if_neg (by omega), if_pos (by omega)]]; exact ⟨hz39.1, ex_shut (args := []) (by simp [nmB]) (Rep.empty (by decide)), hz39.2⟩, rfl, (t.pickT (hd := [_, _]) (tl := bs) (hd' := [_]) [0] rfl rfl)⟩
          · have q24 : ¬ (k < 4 ∨ (k = 4 ∧ M.params = 0)) := by rw [h24] at e24; exact of_decide_eq_false e24.symm
            refine .sq <| .rg <| .m rfl rfl <| .yv (.eql rfl rfl) rfl <| .a rfl rfl <| .nl <| .tN <| .cd rfl (fun h41 => ?_) (fun h41 => ?_)
            · try simp only [decide_eq_true_eq] at h41
              refine .sq <| .fl (trip := [(_, _, _), (_, _, _), (_, _, _), (_, _, _), (_, _, _), (_, _, _), (_, _, _), (_, _, _), (_, _, _), (_, _, _)]) 10 [(1, 0), (2, 0), (3, 0), (4, 0), (5, 0), (0, 1), (6, 2), (7, 0), (8, 0), (9, 0)] (by kernel_rfl) (by kernel_rfl) rfl <|
                .m rfl rfl <| .m rfl rfl <| .yv (.nilCheck rfl) rfl <| .yv (.fieldAddr rfl Fx.field142_5) rfl <| .yv (.load rfl Fx.agg3 (.head _) rfl) rfl <| .ct (X := Value) Fx.call55 rfl (fun W s => names_any H 112 2 (by omega) W s.agr) rfl fun v44 H44 hn44 u44 => ?_
              obtain ⟨pn44, cn44, e44, _⟩ := hn44.sl
              simp only [List.cons.injEq, and_true, List.length_map, namesB_len] at e44
              subst e44
              obtain ⟨bE, oE, hpE, mE⟩ := name_at hn44 (k := (nextB b1 M.params).1) (by have := nextB_lt b1 (n := M.params) (by omega); have := hM.2.2.1; omega)
              subst hpE
              refine .cs (X := Value) Fx.call96 rfl (fun W s => next_st M.params (by omega) (hz9.up u44.up)  (s.pickT (hd := [_, _]) (tl := bs) (hd' := [_, _]) [0, 1] rfl rfl)) rfl fun z50 hz50 => .yv (.indexSl Fx.sl56 rfl rfl (i := (nextB b1 M.params).1) rfl (by have := nextB_lt b1 (n := M.params) (by omega); have := hM.2.2.1; omega) (q := oE + (nextB b1 M.params).1 * 1) rfl) rfl <|
                .yv (.loadM rfl Fx.agg9 mE (k := 0) rfl rfl) rfl <| .yv (.build rfl (Fx.bld26_0_1 _ _)) rfl <| .fn (tl := [_]) rfl <| .sW (.tail <| .head) rfl rfl Fx.size26 (by simp [Value.oneCell', strV]) rfl <|
                .nl <| .tN <| .rt <| .bR <| .tR <| ?_
              exact Sx.ret1 (.inl rfl) rfl (.cell rfl Fx.agg26 (.tail _ <| .head _) rfl) fun W t => ⟨(_, _, H44), by rw [show numT M d rec k b1 = _ from by rw [numT, if_neg (by omega), if_neg (by omega), if_pos (by omega)]]; exact ⟨u44, ex_shut (args := []) (by simp [nmB]) (Rep.empty (by decide)), hz50⟩, rfl, (t.pickT (hd := [_, _]) (tl := bs) (hd' := [_]) [0] rfl rfl)⟩
            · try simp only [decide_eq_false_iff_not] at h41
              refine .sq <| .rg <| .m rfl rfl <| .yv (.eql rfl rfl) rfl <| .a rfl rfl <| .nl <| .tN <| .cd rfl (fun h54 => ?_) (fun h54 => ?_)
              · try simp only [decide_eq_true_eq] at h54
                refine .sq <| .rg <| .yv (.build rfl (Fx.bld26_0 _)) rfl <| .sW (.tail <| .head) rfl rfl Fx.size26 (by simp [Value.oneCell', strV]) rfl <| .nl <| .tN <| .rt <| .bR <|
                  .tR <| ?_
                exact Sx.ret1 (.inl rfl) rfl (.cell rfl Fx.agg26 (.tail _ <| .head _) rfl) fun W t => ⟨(_, _, H), by rw [show numT M d rec k b1 = _ from by rw [numT, if_neg (by omega), if_neg (by omega), if_neg (by omega), if_pos (by omega)]]; exact ⟨.refl, ex_shut (args := []) (nm := []) (by decide) (Rep.empty (by decide)), hz9⟩, rfl, (t.pickT (hd := [_, _]) (tl := bs) (hd' := [_]) [0] rfl rfl)⟩
              · try simp only [decide_eq_false_iff_not] at h54
                refine .cu (X := Bool) [(0, _), (1, _), (4, _), (5, _)] ⟨rfl, rfl, rfl, rfl, trivial⟩ (fun z => [(58, .bool z)]) (fun z => H) (fun z => (.box b (mkC M arV z9 left) 142 :: .box b4 [.int .i64 0, .string ⟨#[]⟩, .int .i64 0, .slice none 0 0] 26 :: bs)) (fun z => z = decide (k = 6 ∧ 0 < M.tables)) ?_ fun z hC => ?_
                ·
                  refine .rg <| .m rfl rfl <| .yv (.eql rfl rfl) rfl <| .m rfl rfl <| .b2 (fun h61 => ?_) (fun h61 => ?_)
                  · try simp only [decide_eq_true_eq] at h61
                    exact .gd rfl rfl <| .yv (.move rfl) rfl <| .gd rfl rfl <| .yv (.nilCheck rfl) rfl <| .gd rfl rfl <| .yv (.fieldAddr rfl Fx.field142_1) rfl <| .gd rfl rfl <| .yv (.load rfl Fx.agg3 (.head _) rfl) rfl <|
                      .gd rfl rfl <| .yv (.gtr rfl rfl) rfl <| .yv (.pickT rfl rfl) rfl <| .a rfl rfl <| .nl <| .tN <| .me _ ⟨rfl, trivial⟩ ⟨rfl, rfl, rfl, rfl, trivial⟩ (fun _ s => s) (by rw [Bool.eq_iff_iff, decide_eq_true_eq]; first | (rw [decide_eq_true_eq]; omega) | exact ⟨fun _ => by omega, fun _ => rfl⟩ | exact ⟨fun h => (by cases h), fun h => by omega⟩)
                  · try simp only [decide_eq_false_iff_not] at h61
                    exact .gF rfl rfl rfl rfl <| .gF rfl rfl rfl rfl <| .gF rfl rfl rfl rfl <| .gF rfl rfl rfl rfl <| .gF rfl rfl rfl rfl <| .yv (.pickF rfl rfl) rfl <| .a rfl rfl <|
                      .nl <| .tN <| .me _ ⟨rfl, trivial⟩ ⟨rfl, rfl, rfl, rfl, trivial⟩ (fun _ s => s) (by rw [Bool.eq_iff_iff, decide_eq_true_eq]; first | (rw [decide_eq_true_eq]; omega) | exact ⟨fun _ => by omega, fun _ => rfl⟩ | exact ⟨fun h => (by cases h), fun h => by omega⟩)
                ·
                  have e58 := hC
                  refine .cd rfl (fun h58 => ?_) (fun h58 => ?_)
                  · have q58 : k = 6 ∧ 0 < M.tables := by rw [h58] at e58; exact of_decide_eq_true e58.symm
                    refine .sq <| .rg <| .m rfl rfl <| .m rfl rfl <| .yv (.add rfl rfl (c := ((d + 1 : Nat) : Int)) ((w64 (by omega) (by omega)).trans (by omega))) rfl <| .cs (X := List Value × Value × Hp) Fx.call112 rfl (fun W s => hrec (by omega) H w0 W _ b arV _ left b1 hz9  (s.pickT (hd := [_, _]) (tl := bs) (hd' := [_, _]) [0, 1] rfl rfl)) rfl fun z71 hz71 => ?_
                    obtain ⟨x71, v71, H71⟩ := z71
                    obtain ⟨u71, r71, q71⟩ := hz71
                    dsimp only at u71 r71 q71 ⊢
                    generalize hE71 : (rec b1).1 = e71 at r71
                    obtain ⟨op71, nm71, n71, a71⟩ := e71
                    obtain ⟨p71, c71, rfl, hs71, hl71⟩ := ex_open r71
                    refine .bl rfl (Fx.bsl24_1 _ _ _ _) rfl fun b72 => .yv (.build rfl (Fx.bld26_0_1_3 _ _ _ _ _)) rfl <| .sW (.tail <| .tail <| .head) rfl rfl Fx.size26 (by simp [Value.oneCell', strV]) rfl <|
                      .nl <| .tN <| .rt <| .bR <| .tR <| ?_
                    refine At.pt (hd := [_, _, _]) (tl := bs) (hd' := [_, _, _]) [0, 2, 1] rfl rfl ?_
                    refine Sx.freezeBox fun Hf uf mf => ?_
                    exact Sx.ret1 (.inl rfl) rfl (.cell rfl Fx.agg26 (.head _) rfl) fun W t => ⟨(_, _, Hf), by rw [show numT M d rec k b1 = _ from by rw [numT, if_neg (by omega), if_neg (by omega), if_neg (by omega), if_neg (by omega), if_pos (by omega)], hE71]; exact ⟨u71.trans uf, ex_shut (nm := [116, 48]) (args := [.mk op71 nm71 n71 a71]) (by decide) (Rep.mk (n := 1) (c := 1) mf (.single (r71.up uf.up) rfl) rfl (Nat.le_refl _) (by decide)), q71.up uf.up⟩, rfl, t.drop⟩
                  · have q58 : ¬ (k = 6 ∧ 0 < M.tables) := by rw [h58] at e58; exact of_decide_eq_false e58.symm
                    refine .cu (X := Bool) [(0, _), (1, _), (4, _), (5, _)] ⟨rfl, rfl, rfl, rfl, trivial⟩ (fun z => [(74, .bool z)]) (fun z => H) (fun z => (.box b (mkC M arV z9 left) 142 :: .box b4 [.int .i64 0, .string ⟨#[]⟩, .int .i64 0, .slice none 0 0] 26 :: bs)) (fun z => z = decide (k = 7 ∧ 0 < M.tables)) ?_ fun z hC => ?_
                    ·
                      refine .rg <| .m rfl rfl <| .yv (.eql rfl rfl) rfl <| .m rfl rfl <| .b2 (fun h77 => ?_) (fun h77 => ?_)
                      · try simp only [decide_eq_true_eq] at h77
                        exact .gd rfl rfl <| .yv (.move rfl) rfl <| .gd rfl rfl <| .yv (.nilCheck rfl) rfl <| .gd rfl rfl <| .yv (.fieldAddr rfl Fx.field142_1) rfl <| .gd rfl rfl <| .yv (.load rfl Fx.agg3 (.head _) rfl) rfl <|
                          .gd rfl rfl <| .yv (.gtr rfl rfl) rfl <| .yv (.pickT rfl rfl) rfl <| .a rfl rfl <| .nl <| .tN <| .me _ ⟨rfl, trivial⟩ ⟨rfl, rfl, rfl, rfl, trivial⟩ (fun _ s => s) (by rw [Bool.eq_iff_iff, decide_eq_true_eq]; first | (rw [decide_eq_true_eq]; omega) | exact ⟨fun _ => by omega, fun _ => rfl⟩ | exact ⟨fun h => (by cases h), fun h => by omega⟩)
                      · try simp only [decide_eq_false_iff_not] at h77
                        exact .gF rfl rfl rfl rfl <| .gF rfl rfl rfl rfl <| .gF rfl rfl rfl rfl <| .gF rfl rfl rfl rfl <| .gF rfl rfl rfl rfl <| .yv (.pickF rfl rfl) rfl <| .a rfl rfl <|
                          .nl <| .tN <| .me _ ⟨rfl, trivial⟩ ⟨rfl, rfl, rfl, rfl, trivial⟩ (fun _ s => s) (by rw [Bool.eq_iff_iff, decide_eq_true_eq]; first | (rw [decide_eq_true_eq]; omega) | exact ⟨fun _ => by omega, fun _ => rfl⟩ | exact ⟨fun h => (by cases h), fun h => by omega⟩)
                    ·
                      have e74 := hC
                      refine .cd rfl (fun h74 => ?_) (fun h74 => ?_)
                      · have q74 : k = 7 ∧ 0 < M.tables := by rw [h74] at e74; exact of_decide_eq_true e74.symm
                        refine .sq <| .rg <| .yv (.build rfl (Fx.bld26_0_1 _ _)) rfl <| .sW (.tail <| .head) rfl rfl Fx.size26 (by simp [Value.oneCell', strV]) rfl <| .nl <| .tN <| .rt <|
                          .bR <| .tR <| ?_
                        exact Sx.ret1 (.inl rfl) rfl (.cell rfl Fx.agg26 (.tail _ <| .head _) rfl) fun W t => ⟨(_, _, H), by rw [show numT M d rec k b1 = _ from by rw [numT, if_neg (by omega), if_neg (by omega), if_neg (by omega), if_neg (by omega), if_neg (by omega), if_pos (by omega)]]; exact ⟨.refl, ex_shut (args := []) (nm := [116, 48]) (by decide) (Rep.empty (by decide)), hz9⟩, rfl, (t.pickT (hd := [_, _]) (tl := bs) (hd' := [_]) [0] rfl rfl)⟩
                      · have q74 : ¬ (k = 7 ∧ 0 < M.tables) := by rw [h74] at e74; exact of_decide_eq_false e74.symm
                        refine .sq <| .rg <| .m rfl rfl <| .yv (.eql rfl rfl) rfl <| .a rfl rfl <| .nl <| .tN <| .cd rfl (fun h85 => ?_) (fun h85 => ?_)
                        · try simp only [decide_eq_true_eq] at h85
                          refine .sq <| .rg <| .m rfl rfl <| .m rfl rfl <| .yv (.add rfl rfl (w64 (by omega) (by omega))) rfl <| .cs (X := List Value × Value × Hp) Fx.call112 rfl (fun W s => hrec (by omega) H w0 W _ b arV _ left b1 hz9  (s.pickT (hd := [_, _]) (tl := bs) (hd' := [_, _]) [0, 1] rfl rfl)) rfl fun z91 hz91 => ?_
                          obtain ⟨x91, v91, H91⟩ := z91
                          obtain ⟨u91, r91, q91⟩ := hz91
                          dsimp only at u91 r91 q91 ⊢
                          generalize hE91 : (rec b1).1 = e91 at r91
                          obtain ⟨op91, nm91, n91, a91⟩ := e91
                          obtain ⟨p91, c91, rfl, hs91, hl91⟩ := ex_open r91
                          refine .bl rfl (Fx.bsl24_1 _ _ _ _) rfl fun b92 => .yv (.build rfl (Fx.bld26_0_3 _ _ _ _)) rfl <| .sW (.tail <| .tail <| .head) rfl rfl Fx.size26 (by simp [Value.oneCell', strV]) rfl <|
                            .nl <| .tN <| .rt <| .bR <| .tR <| ?_
                          refine At.pt (hd := [_, _, _]) (tl := bs) (hd' := [_, _, _]) [0, 2, 1] rfl rfl ?_
                          refine Sx.freezeBox fun Hf uf mf => ?_
                          exact Sx.ret1 (.inl rfl) rfl (.cell rfl Fx.agg26 (.head _) rfl) fun W t => ⟨(_, _, Hf), by rw [show numT M d rec k b1 = _ from by rw [numT, if_neg (by omega), if_neg (by omega), if_neg (by omega), if_neg (by omega), if_neg (by omega), if_neg (by omega), if_pos (by omega)], hE91]; exact ⟨u91.trans uf, ex_shut (nm := []) (args := [.mk op91 nm91 n91 a91]) (by decide) (Rep.mk (n := 1) (c := 1) mf (.single (r91.up uf.up) rfl) rfl (Nat.le_refl _) (by decide)), q91.up uf.up⟩, rfl, t.drop⟩
                        · try simp only [decide_eq_false_iff_not] at h85
                          exact .sk <| .bN <| .tN <| .me () trivial ⟨rfl, rfl, rfl, trivial⟩ (fun _ s => s) (by omega)
  ·
    obtain ⟨hc1, hc2, hc3, hc4, hc5, hc6, hc7⟩ := hC
    refine .sq <| .rg <| .bl rfl (Fx.bsl137_6 _ _ _ _ _ _) rfl fun b94 => .m rfl rfl <| .cs (X := Value) Fx.call96 rfl (fun W s => next_st 6 (by decide) hz9  (s.pickT (hd := [_, _, _]) (tl := bs) (hd' := [_, _, _]) [1, 0, 2] rfl rfl)) rfl fun z96 hz96 => .yv (.indexSl Fx.sl137 rfl rfl (i := (nextB b1 6).1) rfl (by have := nextB_lt b1 (n := 6) (by decide); omega) (q := (nextB b1 6).1) (by omega)) rfl <|
      .yv (.load (v := .int .i64 (([14, 15, 11, 12, 13, 14] : List UInt8).getD (nextB b1 6).1 14).toNat) rfl Fx.agg3 (.tail _ <| .head _) (ops_at (nextB_lt b1 (n := 6) (by decide)))) rfl <|
      .a rfl rfl <| .nl <| .tN <| .sq <| .rg <| .m rfl rfl <| .m rfl rfl <| .yv (.add rfl rfl (w64 (by omega) (by omega))) rfl <| .cs (X := List Value × Value × Hp) Fx.call112 rfl (fun W s => hrec (by omega) H w0 W _ b arV _ left (nextB b1 6).2 hz96  (s.pickT (hd := [_, _, _]) (tl := bs) (hd' := [_, _, _]) [0, 1, 2] rfl rfl)) rfl fun z102 hz102 => ?_
    obtain ⟨x102, v102, H102⟩ := z102
    obtain ⟨u102, r102, q102⟩ := hz102
    dsimp only at u102 r102 q102 ⊢
    generalize hE102 : (rec (nextB b1 6).2).1 = e102 at r102
    obtain ⟨op102, nm102, n102, a102⟩ := e102
    obtain ⟨p102, c102, rfl, hs102, hl102⟩ := ex_open r102
    refine .al Fx.zero26 rfl fun b7 => .sW .head rfl rfl Fx.size26 (by simp [Value.oneCell', strV]) rfl <| .nl <| .tN <| .sq <| .fl (trip := [(_, _, _), (_, _, _), (_, _, _), (_, _, _), (_, _, _), (_, _, _), (_, _, _), (_, _, _)]) 8 [(0, 0), (1, 0), (2, 0), (3, 0), (4, 0), (5, 3), (6, 1), (7, 0)] (by kernel_rfl) (by kernel_rfl) rfl <|
      .m rfl rfl <| .yv (.loadW rfl Fx.agg26 (.head _) rfl) rfl <| .m rfl rfl <| .m rfl rfl <| .yv (.add rfl rfl (w64 (by omega) (by omega))) rfl <| .c3 (X := List Value × Value × Hp) Fx.call112 rfl (fun W s => hrec (by omega) H102 w0 W _ b arV _ left (rec (nextB b1 6).2).2 q102  (s.pickT (hd := [_, _, _, _]) (tl := bs) (hd' := [_, _, _, _]) [1, 0, 2, 3] rfl rfl)) rfl (fun z108 hz108 => (.done (by kernel_rfl) <|
      .done (by kernel_rfl) <| .done (by kernel_rfl) <| .yv (.loadW rfl Fx.agg26 (.tail _ <| .head _) rfl) <| .yv (.move rfl) <| .nl)) fun z108 hz108 => ?_
    obtain ⟨x108, v108, H108⟩ := z108
    obtain ⟨u108, r108, q108⟩ := hz108
    dsimp only at u108 r108 q108 ⊢
    generalize hE108 : (rec (rec (nextB b1 6).2).2).1 = e108 at r108
    obtain ⟨op108, nm108, n108, a108⟩ := e108
    obtain ⟨p108, c108, rfl, hs108, hl108⟩ := ex_open r108
    refine .bl rfl (Fx.bsl24_2 _ _ _ _ _ _ _ _) rfl fun b109 => .yv (.build rfl (Fx.bld26_0_3 _ _ _ _)) rfl <| .fn (tl := [_]) rfl <| .sW (.tail <| .tail <| .tail <|
      .tail <| .head) rfl rfl Fx.size26 (by simp [Value.oneCell', strV]) rfl <| .nl <| .tN <| .rt <| ?_
    refine At.pt (hd := [_, _, _, _, _]) (tl := bs) (hd' := [_, _, _]) [0, 4, 1] rfl rfl ?_
    refine Sx.freezeBox fun Hf uf mf => ?_
    exact Sx.ret1 (.inl rfl) rfl (.cell rfl Fx.agg26 (.head _) rfl) fun W t => ⟨(_, _, Hf), by rw [show numT M d rec k b1 = _ from by rw [numT, if_neg (by omega), if_neg (by omega), if_neg (by omega), if_neg (by omega), if_neg (by omega), if_neg (by omega), if_neg (by omega)], hE102, hE108]; exact ⟨(u102.trans u108).trans uf, ex_shut (nm := []) (args := [.mk op102 nm102 n102 a102, .mk op108 nm108 n108 a108]) (by decide) (Rep.mk (n := 2) (c := 2) mf (RepZ.app (RepZ.single ((r102.up u108.up).up uf.up) rfl) (RepZ.single (r108.up uf.up) rfl)) rfl (Nat.le_refl _) (by decide)), q108.up uf.up⟩, rfl, t.drop⟩
end Go.Proofs.YtmbiojpcidccjaaDoor
/- Contracts: numbers. -/
namespace Go.Proofs.YtmbiojpcidccjaaDoor
open Go.RowKit Go.Par Go.Sx
theorem num_any (M : Mk) (hM : okM M) : ∀ f, f ≤ 3 → NumOf (numE M f) M (3 - f)
  | 0, _ => number_step M hM 3 (by omega) _ (fun h => by omega)
  | f + 1, hf => by
    have e : 3 - (f + 1) = 2 - f := by omega
    rw [e]
    refine number_step M hM (2 - f) (by omega) (numE M f) fun _ => ?_
    rw [show 2 - f + 1 = 3 - f by omega]
    exact num_any M hM f (by omega)
set_option maxRecDepth 100000 in
theorem numbers_st {H : Hp} {w0 W : World} {bs : List Res} {b : Nat} {M : Mk} {arV bv : Value} {left : Int} {by_ : Bs} (hM : okM M) (n : Nat) (hn : n ≤ 100) (hb : Rep H (.seq 1 ((by_).map dU8)) [bv]) (s : St H w0 (.box b (mkC M arV bv left) 142 :: bs) W) :
    Calls Tryd.prog 113 #[.pointer (some ⟨b, 0, none⟩), .int .i64 (n : Nat)] W fun e W' => ∃ z : Value × Value × Hp, (HUp w0 H z.2.2 ∧ (∃ xs, RepZ z.2.2 4 ((numL M n by_).1.map (dEx .i64)) xs ∧ SliceAt z.2.2 z.1 n xs ∧ (numL M n by_).1.length = n) ∧ Rep z.2.2 (.seq 1 (((numL M n by_).2).map dU8)) [z.2.1]) ∧ e = .returned z.1 ∧ St z.2.2 w0 (.box b (mkC M arV z.2.1 left) 142 :: bs) W' := by
  refine Sx.enterS Tryd.func113 rfl Tryd.ntmps113 rfl s ?_
  refine .sq <| .rg <| .a rfl rfl <| .nl <| .tN <| .sq <| .rg <| .a rfl rfl <| ?_
  refine Sx.row0 26 4 ?_
  refine .nl <| .tN <| .sq <| .sq <| .rg <| .a rfl rfl <| .nl <| .tN <| .bk <| .lp (X := Nat × Hp × Value × List Value × Value) [(0, _), (1, _)] ⟨rfl, rfl, trivial⟩ (bs) (fun z => [(5, z.2.2.1), (6, .int .i64 (z.1 : Nat))]) (fun z => z.2.1) (fun z => [.row 26 4 z.2.2.1 z.1 z.2.2.2.1, .box b (mkC M arV z.2.2.2.2 left) 142]) (fun z => z.1 ≤ n ∧ HUp w0 H z.2.1 ∧ ∃ (es : List Ex) (b1 : Bs), es.length = z.1 ∧ RepZ z.2.1 4 (es.map (dEx .i64)) z.2.2.2.1 ∧ Rep z.2.1 (.seq 1 ((b1).map dU8)) [z.2.2.2.2] ∧ numL M n by_ = (es ++ (numL M (n - z.1) b1).1, (numL M (n - z.1) b1).2)) (fun z => n - z.1) (0, H, .slice none 0 0, [], bv) (fun _ s => s) ⟨rfl, rfl, trivial⟩ ⟨by dsimp only; omega, .refl, [], by_, rfl, RepZ.nil, hb, rfl⟩ fun z hC => ?_
  obtain ⟨k, H1, r, xs, bv⟩ := z
  dsimp only at hC ⊢
  obtain ⟨hk0, u1, es, b1, hlen, hz, hb1, heq⟩ := hC
  refine .sq <| .sq <| .rg <| .m rfl rfl <| .m rfl rfl <| .yv (.lss rfl rfl) rfl <| .nl <| .tN <| .cd rfl (fun h9 => ?_) (fun h9 => ?_)
  · try simp only [decide_eq_true_eq] at h9
    have hk : k < n := by omega
    refine .sk <| .tN <| .sq <| .bk <| .rg <| .m rfl rfl <| .m rfl rfl <| .cs (X := List Value × Value × Hp) Fx.call112 rfl (fun W s => num_any M hM 2 (by decide) H1 w0 W _ b arV _ left b1 hb1  (s.pickT (hd := [_, _]) (tl := bs) (hd' := [_, _]) [1, 0] rfl rfl)) rfl fun z14 hz14 => ?_
    obtain ⟨x14, v14, H14⟩ := z14
    obtain ⟨u14, r14, q14⟩ := hz14
    dsimp only at u14 r14 q14 ⊢
    generalize hE14 : (numE M 2 b1).1 = e14 at r14
    obtain ⟨op14, nm14, n14, a14⟩ := e14
    obtain ⟨p14, c14, rfl, hs14, hl14⟩ := ex_open r14
    exact .bl rfl (Fx.bsl24_1 _ _ _ _) rfl fun b15 => .ap (news := [.int .i64 op14.toNat, strV nm14, .int .i64 n14.toInt, .slice p14 a14.length c14]) Fx.row24 rfl (fun _ => (.tail <|
      .tail <| .head)) rfl (.box (.head _) (fun j u h => by rw [Nat.zero_add]; exact h)) rfl (by simp [Value.oneCell', strV]) (by simp [maxLen]; omega) (by omega) rfl fun r16 _ => .a rfl rfl <|
      .nl <| .bN <| .tN <| .rg <| .m rfl rfl <| .yv (.add rfl rfl (w64 (by omega) (by omega))) rfl <| .a rfl rfl <| .nl <| .tN <| .ag (x := (k, H1, r, xs, bv)) (k + 1, H14, r16, xs ++ [.int .i64 op14.toNat, strV nm14, .int .i64 n14.toInt, .slice p14 a14.length c14], v14) ⟨rfl, rfl, trivial⟩ ⟨rfl, rfl, trivial⟩ (fun _ s => (s.pickT (hd := [_, _, _]) (tl := bs) (hd' := [_, _]) [2, 1] rfl rfl)) ⟨by dsimp only; omega, u1.trans u14, es ++ [.mk op14 nm14 n14 a14], (numE M 2 b1).2, by simp; omega, by dsimp only; rw [List.map_append]; exact (hz.up u14.up).snoc r14 rfl, q14, by dsimp only; rw [heq, show n - k = (n - (k + 1)) + 1 by omega, numL, hE14, List.append_assoc]; rfl⟩ (by dsimp only; omega)
  · try simp only [decide_eq_false_iff_not] at h9
    obtain rfl : k = n := by omega
    rw [Nat.sub_self, numL, List.append_nil] at heq
    refine .ex <| .tE <| .tE <| .bE <| .tN <| .sq <| .rg <| .m rfl rfl <| .a rfl rfl <| .nl <| .tN <| .rt <| ?_
    refine At.pt (hd := [_, _]) (tl := bs) (hd' := [_, _]) [0, 1] rfl rfl ?_
    refine Sx.freezeAt fun H3 u3 hs3 => ?_
    exact Sx.ret1 (.inl rfl) rfl (.tmp rfl) fun W t => ⟨(r, bv, H3), by rw [heq]; exact ⟨u1.trans u3, ⟨xs, hz.up u3.up, hs3, hlen⟩, hb1.up u3.up⟩, rfl, t⟩
end Go.Proofs.YtmbiojpcidccjaaDoor
/- Facts on types and functions. -/
namespace Go.Proofs.YtmbiojpcidccjaaDoor
open Go.RowKit Go.Par Go.Sx
theorem Fx.call111 : callN Tryd.prog 111 = Bool.true := by kernel_rfl
theorem Fx.field142_2 : fieldN Tryd.prog 142 2 = Option.some 2 := by kernel_rfl
end Go.Proofs.YtmbiojpcidccjaaDoor
/- Contracts: truth. -/
namespace Go.Proofs.YtmbiojpcidccjaaDoor
open Go.RowKit Go.Par Go.Sx
/-- The contract of truth at a depth. -/
def TruOf (rec : Bs → Ex × Bs) (M : Mk) (d : Nat) : Prop := ∀ (H : Hp) (w0 W : World) (bs : List Res) (b : Nat) (arV bv : Value) (left : Int) (by_ : Bs), Rep H (.seq 1 ((by_).map dU8)) [bv] → St H w0 (.box b (mkC M arV bv left) 142 :: bs) W →
  Calls Tryd.prog 111 #[.pointer (some ⟨b, 0, none⟩), .int .i64 (d : Nat)] W fun e W' => ∃ z : List Value × Value × Hp, (HUp w0 H z.2.2 ∧ Rep z.2.2 (dEx .i64 (rec by_).1) z.1 ∧ Rep z.2.2 (.seq 1 (((rec by_).2).map dU8)) [z.2.1]) ∧ e = .returned (.agg z.1.toArray) ∧ St z.2.2 w0 (.box b (mkC M arV z.2.1 left) 142 :: bs) W'
theorem op2 {n : Nat} (h : n < 2) : (((2 + UInt8.ofNat n).toNat : Nat) : Int) = 2 + (n : Int) := by
  have key : ∀ i ∈ List.range 2, (2 + UInt8.ofNat i).toNat = 2 + i := by decide
  have := key n (List.mem_range.2 h); omega
theorem op16 {n : Nat} (h : n < 10) : (((16 + UInt8.ofNat n).toNat : Nat) : Int) = 16 + (n : Int) := by
  have key : ∀ i ∈ List.range 10, (16 + UInt8.ofNat i).toNat = 16 + i := by decide
  have := key n (List.mem_range.2 h); omega
set_option maxRecDepth 100000 in
theorem truth_step (M : Mk) (hM : okM M) (d : Nat) (hd : d ≤ 2) (rec : Bs → Ex × Bs) (hrec : d ≤ 1 → TruOf rec M (d + 1)) : TruOf (truS M d rec) M d := by
  intro H w0 W bs b arV bv left by_ hb s
  unfold truS
  refine Sx.enterS Tryd.func111 rfl Tryd.ntmps111 rfl s ?_
  refine .sq <| .rg <| .al Fx.zero26 rfl fun b4 => .nl <| .tN <| .sq <| .rg <| .m rfl rfl <| .cs (X := Value) Fx.call96 rfl (fun W s => next_st 10 (by decide) hb  (s.pickT (hd := [_, _]) (tl := bs) (hd' := [_, _]) [1, 0] rfl rfl)) rfl fun z10 hz10 => ?_
  have hk12 := nextB_lt by_ (n := 10) (by decide)
  generalize (nextB by_ 10).1 = k at hk12 ⊢
  generalize (nextB by_ 10).2 = b1 at hz10 ⊢
  refine .a rfl rfl <| .nl <| .tN <| .cu (X := Unit) [(0, _), (4, _)] ⟨rfl, rfl, trivial⟩ (fun z => []) (fun z => H) (fun z => (.box b (mkC M arV z10 left) 142 :: .box b4 [.int .i64 0, .string ⟨#[]⟩, .int .i64 0, .slice none 0 0] 26 :: bs)) (fun z => ¬ k = 0 ∧ ¬ (k = 1 ∨ (1 < d ∧ 4 < k)) ∧ ¬ (k = 2 ∧ 0 < M.flags) ∧ ¬ (k = 3 ∧ 0 < M.tables) ∧ ¬ k = 5 ∧ ¬ (k = 6 ∨ k = 7)) ?_ fun z hC => ?_
  ·
    refine .bk <| .sq <| .rg <| .m rfl rfl <| .yv (.eql rfl rfl) rfl <| .a rfl rfl <| .nl <| .tN <| .cd rfl (fun h11 => ?_) (fun h11 => ?_)
    · try simp only [decide_eq_true_eq] at h11
      refine .sq <| .rg <| .m rfl rfl <| .cs (X := Value) Fx.call96 rfl (fun W s => next_st 2 (by decide) hz10  (s.pickT (hd := [_, _]) (tl := bs) (hd' := [_, _]) [0, 1] rfl rfl)) rfl fun z15 hz15 => .yv (.add rfl rfl (c := (((2 + UInt8.ofNat (nextB b1 2).1).toNat : Nat) : Int)) (by have := nextB_lt b1 (n := 2) (by decide); rw [op2 this]; exact (w64 (by omega) (by omega)).trans (by omega))) rfl <|
        .yv (.build rfl (Fx.bld26_0 _)) rfl <| .sW (.tail <| .head) rfl rfl Fx.size26 (by simp [Value.oneCell', strV]) rfl <| .nl <| .tN <| .rt <| .bR <| .tR <| ?_
      exact Sx.ret1 (.inl rfl) rfl (.cell rfl Fx.agg26 (.tail _ <| .head _) rfl) fun W t => ⟨(_, _, H), by rw [show truT M d rec k b1 = _ from by rw [truT, if_pos (by omega)]]; exact ⟨.refl, ex_shut (args := []) (nm := []) (by decide) (Rep.empty (by decide)), hz15⟩, rfl, (t.pickT (hd := [_, _]) (tl := bs) (hd' := [_]) [0] rfl rfl)⟩
    · try simp only [decide_eq_false_iff_not] at h11
      refine .cu (X := Bool) [(0, _), (1, _), (4, _), (5, _)] ⟨rfl, rfl, rfl, rfl, trivial⟩ (fun z => [(18, .bool z)]) (fun z => H) (fun z => (.box b (mkC M arV z10 left) 142 :: .box b4 [.int .i64 0, .string ⟨#[]⟩, .int .i64 0, .slice none 0 0] 26 :: bs)) (fun z => z = decide (k = 1 ∨ (1 < d ∧ 4 < k))) ?_ fun z hC => ?_
      ·
        refine .rg <| .m rfl rfl <| .yv (.eql rfl rfl) rfl <| .m rfl rfl <| .b2 (fun h21 => ?_) (fun h21 => ?_)
        · try simp only [decide_eq_true_eq] at h21
          exact .gF rfl rfl rfl rfl <| .gF rfl rfl rfl rfl <| .gF rfl rfl rfl rfl <| .gU rfl rfl rfl <| .gU rfl rfl rfl <| .gF rfl rfl rfl rfl <| .yv (.pickT rfl rfl) rfl <|
            .a rfl rfl <| .nl <| .tN <| .me _ ⟨rfl, trivial⟩ ⟨rfl, rfl, rfl, rfl, trivial⟩ (fun _ s => s) (by rw [Bool.eq_iff_iff, decide_eq_true_eq]; first | (rw [decide_eq_true_eq]; omega) | exact ⟨fun _ => by omega, fun _ => rfl⟩ | exact ⟨fun h => (by cases h), fun h => by omega⟩)
        · try simp only [decide_eq_false_iff_not] at h21
          refine .gd rfl rfl <| .yv (.move rfl) rfl <| .gd rfl rfl <| .yv (.gtr rfl rfl) rfl <| .gd rfl rfl <| .yv (.move rfl) rfl <| .b2 (fun h24 => ?_) (fun h24 => ?_)
          · try simp only [decide_eq_true_eq] at h24
            exact .gd rfl rfl <| .yv (.move rfl) rfl <| .gd rfl rfl <| .yv (.gtr rfl rfl) rfl <| .gd rfl rfl <| .yv (.pickT rfl rfl) rfl <| .yv (.pickF rfl rfl) rfl <| .a rfl rfl <|
              .nl <| .tN <| .me _ ⟨rfl, trivial⟩ ⟨rfl, rfl, rfl, rfl, trivial⟩ (fun _ s => s) (by rw [Bool.eq_iff_iff, decide_eq_true_eq]; first | (rw [decide_eq_true_eq]; omega) | exact ⟨fun _ => by omega, fun _ => rfl⟩ | exact ⟨fun h => (by cases h), fun h => by omega⟩)
          · try simp only [decide_eq_false_iff_not] at h24
            exact .gF rfl rfl rfl rfl <| .gF rfl rfl rfl rfl <| .gd rfl rfl <| .yv (.pickF rfl rfl) rfl <| .yv (.pickF rfl rfl) rfl <| .a rfl rfl <| .nl <| .tN <| .me _ ⟨rfl, trivial⟩ ⟨rfl, rfl, rfl, rfl, trivial⟩ (fun _ s => s) (by rw [Bool.eq_iff_iff, decide_eq_true_eq]; first | (rw [decide_eq_true_eq]; omega) | exact ⟨fun _ => by omega, fun _ => rfl⟩ | exact ⟨fun h => (by cases h), fun h => by omega⟩)
      ·
        have e18 := hC
        refine .cd rfl (fun h18 => ?_) (fun h18 => ?_)
        · have q18 : k = 1 ∨ (1 < d ∧ 4 < k) := by rw [h18] at e18; exact of_decide_eq_true e18.symm
          refine .sq <| .rg <| .yv (.build rfl (Fx.bld26_0_1 _ _)) rfl <| .sW (.tail <| .head) rfl rfl Fx.size26 (by simp [Value.oneCell', strV]) rfl <| .nl <| .tN <| .rt <|
            .bR <| .tR <| ?_
          exact Sx.ret1 (.inl rfl) rfl (.cell rfl Fx.agg26 (.tail _ <| .head _) rfl) fun W t => ⟨(_, _, H), by rw [show truT M d rec k b1 = _ from by rw [truT, if_neg (by omega), if_pos (by omega)]]; exact ⟨.refl, ex_shut (args := []) (nm := [98, 48]) (by decide) (Rep.empty (by decide)), hz10⟩, rfl, (t.pickT (hd := [_, _]) (tl := bs) (hd' := [_]) [0] rfl rfl)⟩
        · have q18 : ¬ (k = 1 ∨ (1 < d ∧ 4 < k)) := by rw [h18] at e18; exact of_decide_eq_false e18.symm
          refine .cu (X := Bool) [(0, _), (1, _), (4, _), (5, _)] ⟨rfl, rfl, rfl, rfl, trivial⟩ (fun z => [(30, .bool z)]) (fun z => H) (fun z => (.box b (mkC M arV z10 left) 142 :: .box b4 [.int .i64 0, .string ⟨#[]⟩, .int .i64 0, .slice none 0 0] 26 :: bs)) (fun z => z = decide (k = 2 ∧ 0 < M.flags)) ?_ fun z hC => ?_
          ·
            refine .rg <| .m rfl rfl <| .yv (.eql rfl rfl) rfl <| .m rfl rfl <| .b2 (fun h33 => ?_) (fun h33 => ?_)
            · try simp only [decide_eq_true_eq] at h33
              exact .gd rfl rfl <| .yv (.move rfl) rfl <| .gd rfl rfl <| .yv (.nilCheck rfl) rfl <| .gd rfl rfl <| .yv (.fieldAddr rfl Fx.field142_2) rfl <| .gd rfl rfl <| .yv (.load rfl Fx.agg3 (.head _) rfl) rfl <|
                .gd rfl rfl <| .yv (.gtr rfl rfl) rfl <| .yv (.pickT rfl rfl) rfl <| .a rfl rfl <| .nl <| .tN <| .me _ ⟨rfl, trivial⟩ ⟨rfl, rfl, rfl, rfl, trivial⟩ (fun _ s => s) (by rw [Bool.eq_iff_iff, decide_eq_true_eq]; first | (rw [decide_eq_true_eq]; omega) | exact ⟨fun _ => by omega, fun _ => rfl⟩ | exact ⟨fun h => (by cases h), fun h => by omega⟩)
            · try simp only [decide_eq_false_iff_not] at h33
              exact .gF rfl rfl rfl rfl <| .gF rfl rfl rfl rfl <| .gF rfl rfl rfl rfl <| .gF rfl rfl rfl rfl <| .gF rfl rfl rfl rfl <| .yv (.pickF rfl rfl) rfl <| .a rfl rfl <|
                .nl <| .tN <| .me _ ⟨rfl, trivial⟩ ⟨rfl, rfl, rfl, rfl, trivial⟩ (fun _ s => s) (by rw [Bool.eq_iff_iff, decide_eq_true_eq]; first | (rw [decide_eq_true_eq]; omega) | exact ⟨fun _ => by omega, fun _ => rfl⟩ | exact ⟨fun h => (by cases h), fun h => by omega⟩)
          ·
            have e30 := hC
            refine .cd rfl (fun h30 => ?_) (fun h30 => ?_)
            · have q30 : k = 2 ∧ 0 < M.flags := by rw [h30] at e30; exact of_decide_eq_true e30.symm
              refine .sq <| .fl (trip := [(_, _, _), (_, _, _), (_, _, _), (_, _, _), (_, _, _), (_, _, _), (_, _, _), (_, _, _), (_, _, _), (_, _, _)]) 10 [(1, 0), (2, 0), (3, 0), (4, 0), (5, 0), (0, 1), (6, 2), (7, 0), (8, 0), (9, 0)] (by kernel_rfl) (by kernel_rfl) rfl <|
                .m rfl rfl <| .m rfl rfl <| .yv (.nilCheck rfl) rfl <| .yv (.fieldAddr rfl Fx.field142_2) rfl <| .yv (.load rfl Fx.agg3 (.head _) rfl) rfl <| .ct (X := Value) Fx.call55 rfl (fun W s => names_any H 102 2 (by omega) W s.agr) rfl fun v40 H40 hn40 u40 => ?_
              obtain ⟨pn40, cn40, e40, _⟩ := hn40.sl
              simp only [List.cons.injEq, and_true, List.length_map, namesB_len] at e40
              subst e40
              obtain ⟨bE, oE, hpE, mE⟩ := name_at hn40 (k := (nextB b1 M.flags).1) (by have := nextB_lt b1 (n := M.flags) (by omega); have := hM.2.2.2; omega)
              subst hpE
              refine .cs (X := Value) Fx.call96 rfl (fun W s => next_st M.flags (by omega) (hz10.up u40.up)  (s.pickT (hd := [_, _]) (tl := bs) (hd' := [_, _]) [0, 1] rfl rfl)) rfl fun z46 hz46 => .yv (.indexSl Fx.sl56 rfl rfl (i := (nextB b1 M.flags).1) rfl (by have := nextB_lt b1 (n := M.flags) (by omega); have := hM.2.2.2; omega) (q := oE + (nextB b1 M.flags).1 * 1) rfl) rfl <|
                .yv (.loadM rfl Fx.agg9 mE (k := 0) rfl rfl) rfl <| .yv (.build rfl (Fx.bld26_0_1 _ _)) rfl <| .fn (tl := [_]) rfl <| .sW (.tail <| .head) rfl rfl Fx.size26 (by simp [Value.oneCell', strV]) rfl <|
                .nl <| .tN <| .rt <| .bR <| .tR <| ?_
              exact Sx.ret1 (.inl rfl) rfl (.cell rfl Fx.agg26 (.tail _ <| .head _) rfl) fun W t => ⟨(_, _, H40), by rw [show truT M d rec k b1 = _ from by rw [truT, if_neg (by omega), if_neg (by omega), if_pos (by omega)]]; exact ⟨u40, ex_shut (args := []) (by simp [nmB]) (Rep.empty (by decide)), hz46⟩, rfl, (t.pickT (hd := [_, _]) (tl := bs) (hd' := [_]) [0] rfl rfl)⟩
            · have q30 : ¬ (k = 2 ∧ 0 < M.flags) := by rw [h30] at e30; exact of_decide_eq_false e30.symm
              refine .cu (X := Bool) [(0, _), (1, _), (4, _), (5, _)] ⟨rfl, rfl, rfl, rfl, trivial⟩ (fun z => [(50, .bool z)]) (fun z => H) (fun z => (.box b (mkC M arV z10 left) 142 :: .box b4 [.int .i64 0, .string ⟨#[]⟩, .int .i64 0, .slice none 0 0] 26 :: bs)) (fun z => z = decide (k = 3 ∧ 0 < M.tables)) ?_ fun z hC => ?_
              ·
                refine .rg <| .m rfl rfl <| .yv (.eql rfl rfl) rfl <| .m rfl rfl <| .b2 (fun h53 => ?_) (fun h53 => ?_)
                · try simp only [decide_eq_true_eq] at h53
                  exact .gd rfl rfl <| .yv (.move rfl) rfl <| .gd rfl rfl <| .yv (.nilCheck rfl) rfl <| .gd rfl rfl <| .yv (.fieldAddr rfl Fx.field142_1) rfl <| .gd rfl rfl <| .yv (.load rfl Fx.agg3 (.head _) rfl) rfl <|
                    .gd rfl rfl <| .yv (.gtr rfl rfl) rfl <| .yv (.pickT rfl rfl) rfl <| .a rfl rfl <| .nl <| .tN <| .me _ ⟨rfl, trivial⟩ ⟨rfl, rfl, rfl, rfl, trivial⟩ (fun _ s => s) (by rw [Bool.eq_iff_iff, decide_eq_true_eq]; first | (rw [decide_eq_true_eq]; omega) | exact ⟨fun _ => by omega, fun _ => rfl⟩ | exact ⟨fun h => (by cases h), fun h => by omega⟩)
                · try simp only [decide_eq_false_iff_not] at h53
                  exact .gF rfl rfl rfl rfl <| .gF rfl rfl rfl rfl <| .gF rfl rfl rfl rfl <| .gF rfl rfl rfl rfl <| .gF rfl rfl rfl rfl <| .yv (.pickF rfl rfl) rfl <| .a rfl rfl <|
                    .nl <| .tN <| .me _ ⟨rfl, trivial⟩ ⟨rfl, rfl, rfl, rfl, trivial⟩ (fun _ s => s) (by rw [Bool.eq_iff_iff, decide_eq_true_eq]; first | (rw [decide_eq_true_eq]; omega) | exact ⟨fun _ => by omega, fun _ => rfl⟩ | exact ⟨fun h => (by cases h), fun h => by omega⟩)
              ·
                have e50 := hC
                refine .cd rfl (fun h50 => ?_) (fun h50 => ?_)
                · have q50 : k = 3 ∧ 0 < M.tables := by rw [h50] at e50; exact of_decide_eq_true e50.symm
                  refine .sq <| .rg <| .m rfl rfl <| .cs (X := List Value × Value × Hp) Fx.call112 rfl (fun W s => num_any M hM 2 (by decide) H w0 W _ b arV _ left b1 hz10  (s.pickT (hd := [_, _]) (tl := bs) (hd' := [_, _]) [0, 1] rfl rfl)) rfl fun z61 hz61 => ?_
                  obtain ⟨x61, v61, H61⟩ := z61
                  obtain ⟨u61, r61, q61⟩ := hz61
                  dsimp only at u61 r61 q61 ⊢
                  generalize hE61 : (numE M 2 b1).1 = e61 at r61
                  obtain ⟨op61, nm61, n61, a61⟩ := e61
                  obtain ⟨p61, c61, rfl, hs61, hl61⟩ := ex_open r61
                  refine .bl rfl (Fx.bsl24_1 _ _ _ _) rfl fun b62 => .yv (.build rfl (Fx.bld26_0_1_3 _ _ _ _ _)) rfl <| .sW (.tail <| .tail <| .head) rfl rfl Fx.size26 (by simp [Value.oneCell', strV]) rfl <|
                    .nl <| .tN <| .rt <| .bR <| .tR <| ?_
                  refine At.pt (hd := [_, _, _]) (tl := bs) (hd' := [_, _, _]) [0, 2, 1] rfl rfl ?_
                  refine Sx.freezeBox fun Hf uf mf => ?_
                  exact Sx.ret1 (.inl rfl) rfl (.cell rfl Fx.agg26 (.head _) rfl) fun W t => ⟨(_, _, Hf), by rw [show truT M d rec k b1 = _ from by rw [truT, if_neg (by omega), if_neg (by omega), if_neg (by omega), if_pos (by omega)], hE61]; exact ⟨u61.trans uf, ex_shut (nm := [116, 48]) (args := [.mk op61 nm61 n61 a61]) (by decide) (Rep.mk (n := 1) (c := 1) mf (.single (r61.up uf.up) rfl) rfl (Nat.le_refl _) (by decide)), q61.up uf.up⟩, rfl, t.drop⟩
                · have q50 : ¬ (k = 3 ∧ 0 < M.tables) := by rw [h50] at e50; exact of_decide_eq_false e50.symm
                  refine .sq <| .rg <| .m rfl rfl <| .yv (.eql rfl rfl) rfl <| .a rfl rfl <| .nl <| .tN <| .cd rfl (fun h64 => ?_) (fun h64 => ?_)
                  · try simp only [decide_eq_true_eq] at h64
                    refine .sq <| .rg <| .m rfl rfl <| .m rfl rfl <| .yv (.add rfl rfl (c := ((d + 1 : Nat) : Int)) ((w64 (by omega) (by omega)).trans (by omega))) rfl <| .cs (X := List Value × Value × Hp) Fx.call111 rfl (fun W s => hrec (by omega) H w0 W _ b arV _ left b1 hz10  (s.pickT (hd := [_, _]) (tl := bs) (hd' := [_, _]) [0, 1] rfl rfl)) rfl fun z70 hz70 => ?_
                    obtain ⟨x70, v70, H70⟩ := z70
                    obtain ⟨u70, r70, q70⟩ := hz70
                    dsimp only at u70 r70 q70 ⊢
                    generalize hE70 : (rec b1).1 = e70 at r70
                    obtain ⟨op70, nm70, n70, a70⟩ := e70
                    obtain ⟨p70, c70, rfl, hs70, hl70⟩ := ex_open r70
                    refine .bl rfl (Fx.bsl24_1 _ _ _ _) rfl fun b71 => .yv (.build rfl (Fx.bld26_0_3 _ _ _ _)) rfl <| .sW (.tail <| .tail <| .head) rfl rfl Fx.size26 (by simp [Value.oneCell', strV]) rfl <|
                      .nl <| .tN <| .rt <| .bR <| .tR <| ?_
                    refine At.pt (hd := [_, _, _]) (tl := bs) (hd' := [_, _, _]) [0, 2, 1] rfl rfl ?_
                    refine Sx.freezeBox fun Hf uf mf => ?_
                    exact Sx.ret1 (.inl rfl) rfl (.cell rfl Fx.agg26 (.head _) rfl) fun W t => ⟨(_, _, Hf), by rw [show truT M d rec k b1 = _ from by rw [truT, if_neg (by omega), if_neg (by omega), if_neg (by omega), if_neg (by omega), if_pos (by omega)], hE70]; exact ⟨u70.trans uf, ex_shut (nm := []) (args := [.mk op70 nm70 n70 a70]) (by decide) (Rep.mk (n := 1) (c := 1) mf (.single (r70.up uf.up) rfl) rfl (Nat.le_refl _) (by decide)), q70.up uf.up⟩, rfl, t.drop⟩
                  · try simp only [decide_eq_false_iff_not] at h64
                    refine .cu (X := Bool) [(0, _), (1, _), (4, _), (5, _)] ⟨rfl, rfl, rfl, rfl, trivial⟩ (fun z => [(73, .bool z)]) (fun z => H) (fun z => (.box b (mkC M arV z10 left) 142 :: .box b4 [.int .i64 0, .string ⟨#[]⟩, .int .i64 0, .slice none 0 0] 26 :: bs)) (fun z => z = decide (k = 6 ∨ k = 7)) ?_ fun z hC => ?_
                    ·
                      refine .rg <| .m rfl rfl <| .yv (.eql rfl rfl) rfl <| .m rfl rfl <| .b2 (fun h76 => ?_) (fun h76 => ?_)
                      · try simp only [decide_eq_true_eq] at h76
                        exact .gF rfl rfl rfl rfl <| .gF rfl rfl rfl rfl <| .yv (.pickT rfl rfl) rfl <| .a rfl rfl <| .nl <| .tN <| .me _ ⟨rfl, trivial⟩ ⟨rfl, rfl, rfl, rfl, trivial⟩ (fun _ s => s) (by rw [Bool.eq_iff_iff, decide_eq_true_eq]; first | (rw [decide_eq_true_eq]; omega) | exact ⟨fun _ => by omega, fun _ => rfl⟩ | exact ⟨fun h => (by cases h), fun h => by omega⟩)
                      · try simp only [decide_eq_false_iff_not] at h76
                        exact .gd rfl rfl <| .yv (.move rfl) rfl <| .gd rfl rfl <| .yv (.eql rfl rfl) rfl <| .yv (.pickF rfl rfl) rfl <| .a rfl rfl <| .nl <| .tN <| .me _ ⟨rfl, trivial⟩ ⟨rfl, rfl, rfl, rfl, trivial⟩ (fun _ s => s) (by rw [Bool.eq_iff_iff, decide_eq_true_eq]; first | (rw [decide_eq_true_eq]; omega) | exact ⟨fun _ => by omega, fun _ => rfl⟩ | exact ⟨fun h => (by cases h), fun h => by omega⟩)
                    ·
                      have e73 := hC
                      refine .cd rfl (fun h73 => ?_) (fun h73 => ?_)
                      · have q73 : k = 6 ∨ k = 7 := by rw [h73] at e73; exact of_decide_eq_true e73.symm
                        refine .sq <| .rg <| .m rfl rfl <| .m rfl rfl <| .yv (.add rfl rfl (c := ((d + 1 : Nat) : Int)) ((w64 (by omega) (by omega)).trans (by omega))) rfl <| .cs (X := List Value × Value × Hp) Fx.call111 rfl (fun W s => hrec (by omega) H w0 W _ b arV _ left b1 hz10  (s.pickT (hd := [_, _]) (tl := bs) (hd' := [_, _]) [0, 1] rfl rfl)) rfl fun z83 hz83 => ?_
                        obtain ⟨x83, v83, H83⟩ := z83
                        obtain ⟨u83, r83, q83⟩ := hz83
                        dsimp only at u83 r83 q83 ⊢
                        generalize hE83 : (rec b1).1 = e83 at r83
                        obtain ⟨op83, nm83, n83, a83⟩ := e83
                        obtain ⟨p83, c83, rfl, hs83, hl83⟩ := ex_open r83
                        refine .al Fx.zero26 rfl fun b6 => .sW .head rfl rfl Fx.size26 (by simp [Value.oneCell', strV]) rfl <| .nl <| .tN <| .sq <| .fl (trip := [(_, _, _), (_, _, _), (_, _, _), (_, _, _), (_, _, _), (_, _, _), (_, _, _), (_, _, _), (_, _, _)]) 9 [(0, 0), (1, 0), (2, 0), (3, 0), (4, 0), (5, 0), (6, 3), (7, 1), (8, 0)] (by kernel_rfl) (by kernel_rfl) rfl <|
                          .m rfl rfl <| .yv (.add rfl rfl (c := (((16 + UInt8.ofNat k).toNat : Nat) : Int)) (by rw [op16 hk12]; exact (w64 (by omega) (by omega)).trans (by omega))) rfl <|
                          .yv (.loadW rfl Fx.agg26 (.head _) rfl) rfl <| .m rfl rfl <| .m rfl rfl <| .yv (.add rfl rfl (c := ((d + 1 : Nat) : Int)) ((w64 (by omega) (by omega)).trans (by omega))) rfl <|
                          .c3 (X := List Value × Value × Hp) Fx.call111 rfl (fun W s => hrec (by omega) H83 w0 W _ b arV _ left (rec b1).2 q83  (s.pickT (hd := [_, _, _]) (tl := bs) (hd' := [_, _, _]) [1, 0, 2] rfl rfl)) rfl (fun z90 hz90 => (.done (by kernel_rfl) <|
                          .done (by kernel_rfl) <| .done (by kernel_rfl) <| .yv (.loadW rfl Fx.agg26 (.tail _ <| .head _) rfl) <| .yv (.add rfl rfl (c := (((16 + UInt8.ofNat k).toNat : Nat) : Int)) (by rw [op16 hk12]; exact (w64 (by omega) (by omega)).trans (by omega))) <|
                          .yv (.move rfl) <| .nl)) fun z90 hz90 => ?_
                        obtain ⟨x90, v90, H90⟩ := z90
                        obtain ⟨u90, r90, q90⟩ := hz90
                        dsimp only at u90 r90 q90 ⊢
                        generalize hE90 : (rec (rec b1).2).1 = e90 at r90
                        obtain ⟨op90, nm90, n90, a90⟩ := e90
                        obtain ⟨p90, c90, rfl, hs90, hl90⟩ := ex_open r90
                        refine .bl rfl (Fx.bsl24_2 _ _ _ _ _ _ _ _) rfl fun b91 => .yv (.build rfl (Fx.bld26_0_3 _ _ _ _)) rfl <| .fn (tl := [_]) rfl <| .sW (.tail <| .tail <| .tail <|
                          .head) rfl rfl Fx.size26 (by simp [Value.oneCell', strV]) rfl <| .nl <| .tN <| .rt <| .bR <| .tR <| ?_
                        refine At.pt (hd := [_, _, _, _]) (tl := bs) (hd' := [_, _, _]) [0, 3, 1] rfl rfl ?_
                        refine Sx.freezeBox fun Hf uf mf => ?_
                        exact Sx.ret1 (.inl rfl) rfl (.cell rfl Fx.agg26 (.head _) rfl) fun W t => ⟨(_, _, Hf), by rw [show truT M d rec k b1 = _ from by rw [truT, if_neg (by omega), if_neg (by omega), if_neg (by omega), if_neg (by omega), if_neg (by omega), if_pos (by omega)], hE83, hE90]; exact ⟨(u83.trans u90).trans uf, ex_shut (nm := []) (args := [.mk op83 nm83 n83 a83, .mk op90 nm90 n90 a90]) (by decide) (Rep.mk (n := 2) (c := 2) mf (RepZ.app (RepZ.single ((r83.up u90.up).up uf.up) rfl) (RepZ.single (r90.up uf.up) rfl)) rfl (Nat.le_refl _) (by decide)), q90.up uf.up⟩, rfl, t.drop⟩
                      · have q73 : ¬ (k = 6 ∨ k = 7) := by rw [h73] at e73; exact of_decide_eq_false e73.symm
                        exact .sk <| .bN <| .tN <| .me () trivial ⟨rfl, rfl, trivial⟩ (fun _ s => s) (by omega)
  ·
    obtain ⟨hc1, hc2, hc3, hc4, hc5, hc6⟩ := hC
    refine .sq <| .rg <| .m rfl rfl <| .cs (X := Value) Fx.call96 rfl (fun W s => next_st 6 (by decide) hz10  (s.pickT (hd := [_, _]) (tl := bs) (hd' := [_, _]) [0, 1] rfl rfl)) rfl fun z94 hz94 => .yv (.add rfl rfl (c := (((16 + UInt8.ofNat (nextB b1 6).1).toNat : Nat) : Int)) (by have := nextB_lt b1 (n := 6) (by decide); rw [op16 (by omega)]; exact (w64 (by omega) (by omega)).trans (by omega))) rfl <|
      .a rfl rfl <| .nl <| .tN <| .sq <| .rg <| .m rfl rfl <| .cs (X := List Value × Value × Hp) Fx.call112 rfl (fun W s => num_any M hM 2 (by decide) H w0 W _ b arV _ left (nextB b1 6).2 hz94  (s.pickT (hd := [_, _]) (tl := bs) (hd' := [_, _]) [0, 1] rfl rfl)) rfl fun z97 hz97 => ?_
    obtain ⟨x97, v97, H97⟩ := z97
    obtain ⟨u97, r97, q97⟩ := hz97
    dsimp only at u97 r97 q97 ⊢
    generalize hE97 : (numE M 2 (nextB b1 6).2).1 = e97 at r97
    obtain ⟨op97, nm97, n97, a97⟩ := e97
    obtain ⟨p97, c97, rfl, hs97, hl97⟩ := ex_open r97
    refine .al Fx.zero26 rfl fun b8 => .sW .head rfl rfl Fx.size26 (by simp [Value.oneCell', strV]) rfl <| .nl <| .tN <| .sq <| .fl (trip := [(_, _, _), (_, _, _), (_, _, _), (_, _, _), (_, _, _), (_, _, _)]) 6 [(0, 0), (1, 0), (2, 0), (3, 3), (4, 1), (5, 0)] (by kernel_rfl) (by kernel_rfl) rfl <|
      .m rfl rfl <| .yv (.loadW rfl Fx.agg26 (.head _) rfl) rfl <| .m rfl rfl <| .c3 (X := List Value × Value × Hp) Fx.call112 rfl (fun W s => num_any M hM 2 (by decide) H97 w0 W _ b arV _ left (numE M 2 (nextB b1 6).2).2 q97  (s.pickT (hd := [_, _, _]) (tl := bs) (hd' := [_, _, _]) [1, 0, 2] rfl rfl)) rfl (fun z101 hz101 => (.done (by kernel_rfl) <|
      .yv (.loadW rfl Fx.agg26 (.tail _ <| .head _) rfl) <| .yv (.move rfl) <| .nl)) fun z101 hz101 => ?_
    obtain ⟨x101, v101, H101⟩ := z101
    obtain ⟨u101, r101, q101⟩ := hz101
    dsimp only at u101 r101 q101 ⊢
    generalize hE101 : (numE M 2 (numE M 2 (nextB b1 6).2).2).1 = e101 at r101
    obtain ⟨op101, nm101, n101, a101⟩ := e101
    obtain ⟨p101, c101, rfl, hs101, hl101⟩ := ex_open r101
    refine .bl rfl (Fx.bsl24_2 _ _ _ _ _ _ _ _) rfl fun b102 => .yv (.build rfl (Fx.bld26_0_3 _ _ _ _)) rfl <| .fn (tl := [_]) rfl <| .sW (.tail <| .tail <| .tail <|
      .head) rfl rfl Fx.size26 (by simp [Value.oneCell', strV]) rfl <| .nl <| .tN <| .rt <| ?_
    refine At.pt (hd := [_, _, _, _]) (tl := bs) (hd' := [_, _, _]) [0, 3, 1] rfl rfl ?_
    refine Sx.freezeBox fun Hf uf mf => ?_
    exact Sx.ret1 (.inl rfl) rfl (.cell rfl Fx.agg26 (.head _) rfl) fun W t => ⟨(_, _, Hf), by rw [show truT M d rec k b1 = _ from by rw [truT, if_neg (by omega), if_neg (by omega), if_neg (by omega), if_neg (by omega), if_neg (by omega), if_neg (by omega)], hE97, hE101]; exact ⟨(u97.trans u101).trans uf, ex_shut (nm := []) (args := [.mk op97 nm97 n97 a97, .mk op101 nm101 n101 a101]) (by decide) (Rep.mk (n := 2) (c := 2) mf (RepZ.app (RepZ.single ((r97.up u101.up).up uf.up) rfl) (RepZ.single (r101.up uf.up) rfl)) rfl (Nat.le_refl _) (by decide)), q101.up uf.up⟩, rfl, t.drop⟩
theorem truth_any (M : Mk) (hM : okM M) : ∀ f, f ≤ 2 → TruOf (truE M f) M (2 - f)
  | 0, _ => truth_step M hM 2 (by omega) _ (fun h => by omega)
  | f + 1, hf => by
    have e : 2 - (f + 1) = 1 - f := by omega
    rw [e]
    refine truth_step M hM (1 - f) (by omega) (truE M f) fun _ => ?_
    rw [show 1 - f + 1 = 2 - f by omega]
    exact truth_any M hM f (by omega)
end Go.Proofs.YtmbiojpcidccjaaDoor
/- Facts on types and functions. -/
namespace Go.Proofs.YtmbiojpcidccjaaDoor
open Go.RowKit Go.Par Go.Sx
theorem Fx.agg136 : aggN Tryd.prog 136 = Option.some Option.none := by kernel_rfl
theorem Fx.agg137 : aggN Tryd.prog 137 = Option.some Option.none := by kernel_rfl
theorem Fx.call75 : callN Tryd.prog 75 = Bool.true := by kernel_rfl
theorem Fx.call113 : callN Tryd.prog 113 = Bool.true := by kernel_rfl
theorem Fx.field142_3 : fieldN Tryd.prog 142 3 = Option.some 3 := by kernel_rfl
theorem Fx.field142_4 : fieldN Tryd.prog 142 4 = Option.some 4 := by kernel_rfl
theorem Fx.sl136 : slN Tryd.prog 136 = Option.some 1 := by kernel_rfl
theorem Fx.bld104_0 (x0 : Int) : buildN Tryd.prog 104 [(0, .int .i64 x0)] = some [.int .i64 x0, .string ⟨#[]⟩, .string ⟨#[]⟩, .slice none 0 0, .slice none 0 0, .slice none 0 0] := by kernel_rfl
theorem Fx.bld104_0_1_2_3 (x0 : Int) (x1 : ByteArray) (x2 : ByteArray) (x3p : Option Addr) (x3n x3c : Nat) : buildN Tryd.prog 104 [(0, .int .i64 x0), (1, .string x1), (2, .string x2), (3, .slice x3p x3n x3c)] = some [.int .i64 x0, .string x1, .string x2, .slice x3p x3n x3c, .slice none 0 0, .slice none 0 0] := by kernel_rfl
theorem Fx.bld104_0_1_3 (x0 : Int) (x1 : ByteArray) (x3p : Option Addr) (x3n x3c : Nat) : buildN Tryd.prog 104 [(0, .int .i64 x0), (1, .string x1), (3, .slice x3p x3n x3c)] = some [.int .i64 x0, .string x1, .string ⟨#[]⟩, .slice x3p x3n x3c, .slice none 0 0, .slice none 0 0] := by kernel_rfl
theorem Fx.bld104_0_1_3_5 (x0 : Int) (x1 : ByteArray) (x3p : Option Addr) (x3n x3c : Nat) (x5p : Option Addr) (x5n x5c : Nat) : buildN Tryd.prog 104 [(0, .int .i64 x0), (1, .string x1), (3, .slice x3p x3n x3c), (5, .slice x5p x5n x5c)] = some [.int .i64 x0, .string x1, .string ⟨#[]⟩, .slice x3p x3n x3c, .slice none 0 0, .slice x5p x5n x5c] := by kernel_rfl
theorem Fx.bld104_0_2_3 (x0 : Int) (x2 : ByteArray) (x3p : Option Addr) (x3n x3c : Nat) : buildN Tryd.prog 104 [(0, .int .i64 x0), (2, .string x2), (3, .slice x3p x3n x3c)] = some [.int .i64 x0, .string ⟨#[]⟩, .string x2, .slice x3p x3n x3c, .slice none 0 0, .slice none 0 0] := by kernel_rfl
theorem Fx.bld104_0_3_4 (x0 : Int) (x3p : Option Addr) (x3n x3c : Nat) (x4p : Option Addr) (x4n x4c : Nat) : buildN Tryd.prog 104 [(0, .int .i64 x0), (3, .slice x3p x3n x3c), (4, .slice x4p x4n x4c)] = some [.int .i64 x0, .string ⟨#[]⟩, .string ⟨#[]⟩, .slice x3p x3n x3c, .slice x4p x4n x4c, .slice none 0 0] := by kernel_rfl
theorem Fx.bld104_0_3_4_5 (x0 : Int) (x3p : Option Addr) (x3n x3c : Nat) (x4p : Option Addr) (x4n x4c : Nat) (x5p : Option Addr) (x5n x5c : Nat) : buildN Tryd.prog 104 [(0, .int .i64 x0), (3, .slice x3p x3n x3c), (4, .slice x4p x4n x4c), (5, .slice x5p x5n x5c)] = some [.int .i64 x0, .string ⟨#[]⟩, .string ⟨#[]⟩, .slice x3p x3n x3c, .slice x4p x4n x4c, .slice x5p x5n x5c] := by kernel_rfl
theorem Fx.bld104_0_3_5 (x0 : Int) (x3p : Option Addr) (x3n x3c : Nat) (x5p : Option Addr) (x5n x5c : Nat) : buildN Tryd.prog 104 [(0, .int .i64 x0), (3, .slice x3p x3n x3c), (5, .slice x5p x5n x5c)] = some [.int .i64 x0, .string ⟨#[]⟩, .string ⟨#[]⟩, .slice x3p x3n x3c, .slice none 0 0, .slice x5p x5n x5c] := by kernel_rfl
end Go.Proofs.YtmbiojpcidccjaaDoor
/- Contracts: stmt. -/
namespace Go.Proofs.YtmbiojpcidccjaaDoor
open Go.RowKit Go.Par Go.Sx
/-- The contract of body at a depth. -/
def BodOf (bd : Bs × Nat → List Sm × (Bs × Nat)) (M : Mk) (d : Nat) : Prop := ∀ (H : Hp) (w0 W : World) (bs : List Res) (b : Nat) (arV bv : Value) (lf : Nat) (by_ : Bs), lf ≤ 12 → Rep H (.seq 1 (M.ars.map dAr)) [arV] → Rep H (.seq 1 ((by_).map dU8)) [bv] → St H w0 (.box b (mkC M arV bv (lf : Nat)) 142 :: bs) W →
  Calls Tryd.prog 75 #[.pointer (some ⟨b, 0, none⟩), .int .i64 (d : Nat)] W fun e W' => ∃ z : Value × Value × Hp, (HUp w0 H z.2.2 ∧ Rep z.2.2 (.seq 6 ((bd (by_, lf)).1.map (dSm .i64))) [z.1] ∧ Rep z.2.2 (.seq 1 (((bd (by_, lf)).2.1).map dU8)) [z.2.1] ∧ (bd (by_, lf)).2.2 ≤ 12) ∧ e = .returned z.1 ∧ St z.2.2 w0 (.box b (mkC M arV z.2.1 ((bd (by_, lf)).2.2 : Nat)) 142 :: bs) W'
/-- The contract of stmt at a depth. -/
def StOf (bd : Bs × Nat → List Sm × (Bs × Nat)) (M : Mk) (d : Nat) : Prop := ∀ (H : Hp) (w0 W : World) (bs : List Res) (b : Nat) (arV bv : Value) (lf : Nat) (by_ : Bs) (k : Nat), lf ≤ 12 → Rep H (.seq 1 (M.ars.map dAr)) [arV] → Rep H (.seq 1 ((by_).map dU8)) [bv] → St H w0 (.box b (mkC M arV bv (lf : Nat)) 142 :: bs) W →
  Calls Tryd.prog 97 #[.pointer (some ⟨b, 0, none⟩), .int .i64 (k : Nat), .int .i64 (d : Nat)] W fun e W' => ∃ z : List Value × Value × Hp, (HUp w0 H z.2.2 ∧ Rep z.2.2 (dSm .i64 (stmT M k d bd by_ lf).1) z.1 ∧ Rep z.2.2 (.seq 1 (((stmT M k d bd by_ lf).2.1).map dU8)) [z.2.1] ∧ (stmT M k d bd by_ lf).2.2 ≤ 12) ∧ e = .returned (.agg z.1.toArray) ∧ St z.2.2 w0 (.box b (mkC M arV z.2.1 ((stmT M k d bd by_ lf).2.2 : Nat)) 142 :: bs) W'
def okA (M : Mk) : Prop := okM M ∧ 0 < M.ars.length ∧ M.ars.length ≤ 3 ∧ M.own < M.ars.length ∧ ∀ l ∈ M.ars, 0 < l.length ∧ l.length ≤ 3 ∧ ∀ n ∈ l, n ≤ 2
theorem okA.len {M : Mk} (h : okA M) {c : Nat} (hc : c < M.ars.length) : 0 < arL M c ∧ arL M c ≤ 3 := by
  have := h.2.2.2.2 _ (List.getElem_mem hc)
  unfold arL; rw [getD_at hc]; exact ⟨this.1, this.2.1⟩
theorem okA.num {M : Mk} (h : okA M) {c k : Nat} (hc : c < M.ars.length) (hk : k < arL M c) : arN M c k ≤ 2 := by
  have := h.2.2.2.2 _ (List.getElem_mem hc)
  unfold arL at hk
  unfold arN
  rw [getD_at hc] at hk ⊢
  rw [getD_at hk]; exact this.2.2 _ (List.getElem_mem hk)
theorem ar_at {H : Hp} {M : Mk} {pA : Option Addr} {cA c : Nat} (h : Rep H (.seq 1 (M.ars.map dAr)) [.slice pA M.ars.length cA]) (hc : c < M.ars.length) : ∃ b o p k, pA = some ⟨b, o, none⟩ ∧ MemAt H b (o + c * 1) [.slice p (arL M c) k] ∧ Rep H (.seq 1 ((M.ars.getD c []).map dNat)) [.slice p (arL M c) k] := by
  obtain ⟨b, o, cs, e, r, l, m⟩ := h.elem (map_at (f := dAr) hc)
  unfold dAr at r
  obtain ⟨p, k, rfl, _⟩ := r.sl
  rw [List.length_map] at r m
  refine ⟨b, o, p, k, e, ?_, ?_⟩
  · unfold arL; rw [getD_at hc]; exact m
  · unfold arL; rw [getD_at hc]; exact r
theorem arn_at {H : Hp} {M : Mk} {p : Option Addr} {c k j : Nat} (h : Rep H (.seq 1 ((M.ars.getD c []).map dNat)) [.slice p (arL M c) k]) (hj : j < arL M c) : ∃ b o, p = some ⟨b, o, none⟩ ∧ MemAt H b (o + j * 1) [.int .i64 (arN M c j : Nat)] := by
  unfold arL at hj
  obtain ⟨b, o, cs, e, r, l, m⟩ := h.elem (map_at (f := dNat) hj)
  unfold dNat Rep at r
  obtain ⟨rfl, _⟩ := r
  refine ⟨b, o, e, ?_⟩
  unfold arN; rw [getD_at hj]; exact m
theorem abc_at {c : Nat} (h : c < 3) : [strV [97], strV [98], strV [99]][c]? = some (strV [UInt8.ofNat (97 + c)]) := by
  match c, h with
  | 0, _ => rfl
  | 1, _ => rfl
  | 2, _ => rfl
set_option maxHeartbeats 1000000 in
set_option maxRecDepth 100000 in
theorem stmt_step (M : Mk) (hM : okA M) (d : Nat) (hd : d ≤ 3) (bd : Bs × Nat → List Sm × (Bs × Nat)) (hbd : d < 3 → BodOf bd M (d + 1)) : StOf bd M d := by
  intro H w0 W bs b arV bv lf by_ k hlf hAr hb s
  obtain ⟨pA, cA, eA, _⟩ := hAr.sl
  simp only [List.cons.injEq, and_true, List.length_map] at eA
  subst eA
  rw [← List.length_map (f := dAr)] at hAr
  rw [List.length_map] at hAr
  have hcapA := hAr.cap
  refine Sx.enterS Tryd.func97 rfl Tryd.ntmps97 rfl s ?_
  refine .sq <| .rg <| .al Fx.zero104 rfl fun b6 => .nl <| .tN <| .cu (X := Value) [(0, _), (6, _)] ⟨rfl, rfl, trivial⟩ (fun z => []) (fun z => H) (fun z => (.box b (mkC M (.slice pA M.ars.length cA) z (lf : Nat)) 142 :: .box b6 [.int .i64 0, .string ⟨#[]⟩, .string ⟨#[]⟩, .slice none 0 0, .slice none 0 0, .slice none 0 0] 104 :: bs)) (fun z => Rep H (.seq 1 ((if k = 12 then (nextB by_ 3).2 else by_).map dU8)) [z] ∧ ¬ k = 2 ∧ ¬ (k = 3 ∧ 0 < M.tables) ∧ ¬ (k = 4 ∧ 0 < M.tables) ∧ ¬ ((k = 5 ∨ k = 6) ∧ d < 3) ∧ ¬ (k = 7 ∧ d < 2) ∧ ¬ (k = 8 ∨ k = 9) ∧ ¬ k = 10 ∧ ¬ (k = 11 ∧ d < 3) ∧ ¬ (k = 12 ∧ (nextB by_ 3).1 = 0)) ?_ fun z hC => ?_
  ·
    refine .bk <| .sq <| .rg <| .m rfl rfl <| .yv (.eql rfl rfl) rfl <| .a rfl rfl <| .nl <| .tN <| .cd rfl (fun h18 => ?_) (fun h18 => ?_)
    · try simp only [decide_eq_true_eq] at h18
      refine .sq <| .rg <| .m rfl rfl <| .cs (X := List Value × Value × Hp) Fx.call111 rfl (fun W s => truth_any M hM.1 2 (by decide) H w0 W _ b _ _ _ by_ hb  (s.pickT (hd := [_, _]) (tl := bs) (hd' := [_, _]) [1, 0] rfl rfl)) rfl fun z22 hz22 => ?_
      obtain ⟨x22, v22, H22⟩ := z22
      obtain ⟨u22, r22, q22⟩ := hz22
      dsimp only at u22 r22 q22 ⊢
      generalize hE22 : (truE M 2 by_).1 = e22 at r22
      obtain ⟨op22, nm22, n22, a22⟩ := e22
      obtain ⟨p22, c22, rfl, hs22, hl22⟩ := ex_open r22
      refine .bl rfl (Fx.bsl24_1 _ _ _ _) rfl fun b23 => .yv (.build rfl (Fx.bld104_0_1_3 _ _ _ _ _)) rfl <| .sW (.tail <| .tail <| .head) rfl rfl Fx.size104 (by simp [Value.oneCell', strV]) rfl <|
        .nl <| .tN <| .rt <| .bR <| .tR <| ?_
      refine At.pt (hd := [_, _, _]) (tl := bs) (hd' := [_, _, _]) [0, 2, 1] rfl rfl ?_
      refine Sx.freezeBox fun Hf uf mf => ?_
      exact Sx.ret1 (.inl rfl) rfl (.cell rfl Fx.agg104 (.head _) rfl) fun W t => ⟨(_, _, Hf), by rw [show stmT M k d bd by_ lf = _ from by rw [stmT, if_pos (by omega)], hE22]; exact ⟨u22.trans uf, sm_shut (kd := 1) (nm := [98, 48]) (hd := []) (ex := [.mk op22 nm22 n22 a22]) (th := []) (el := []) (by first | decide | simp [nmB]) (by first | decide | simp [nmB]) (Rep.mk (n := 1) (c := 1) mf (.single ((r22).up uf.up) rfl) rfl (Nat.le_refl _) (by decide)) (Rep.empty (by decide)) (Rep.empty (by decide)), q22.up uf.up, hlf⟩, rfl, by rw [show stmT M k d bd by_ lf = _ from by rw [stmT, if_pos (by omega)], hE22]; exact t.drop⟩
    · try simp only [decide_eq_false_iff_not] at h18
      refine .cu (X := Bool) [(0, _), (1, _), (2, _), (6, _)] ⟨rfl, rfl, rfl, rfl, trivial⟩ (fun z => [(25, .bool z)]) (fun z => H) (fun z => (.box b (mkC M (.slice pA M.ars.length cA) bv (lf : Nat)) 142 :: .box b6 [.int .i64 0, .string ⟨#[]⟩, .string ⟨#[]⟩, .slice none 0 0, .slice none 0 0, .slice none 0 0] 104 :: bs)) (fun z => z = decide (k = 3 ∧ 0 < M.tables)) ?_ fun z hC => ?_
      ·
        refine .rg <| .m rfl rfl <| .yv (.eql rfl rfl) rfl <| .m rfl rfl <| .b2 (fun h28 => ?_) (fun h28 => ?_)
        · try simp only [decide_eq_true_eq] at h28
          exact .gd rfl rfl <| .yv (.move rfl) rfl <| .gd rfl rfl <| .yv (.nilCheck rfl) rfl <| .gd rfl rfl <| .yv (.fieldAddr rfl Fx.field142_1) rfl <| .gd rfl rfl <| .yv (.load rfl Fx.agg3 (.tail _ <|
            .head _) rfl) rfl <| .gd rfl rfl <| .yv (.gtr rfl rfl) rfl <| .yv (.pickT rfl rfl) rfl <| .a rfl rfl <| .nl <| .tN <| .me _ ⟨rfl, trivial⟩ ⟨rfl, rfl, rfl, rfl, trivial⟩ (fun _ s => (s.pickT (hd := [_, _]) (tl := bs) (hd' := [_, _]) [1, 0] rfl rfl)) (by rw [Bool.eq_iff_iff, decide_eq_true_eq]; first | (rw [decide_eq_true_eq]; omega) | exact ⟨fun _ => by omega, fun _ => rfl⟩ | exact ⟨fun h => (by cases h), fun h => by omega⟩)
        · try simp only [decide_eq_false_iff_not] at h28
          exact .gF rfl rfl rfl rfl <| .gF rfl rfl rfl rfl <| .gF rfl rfl rfl rfl <| .gF rfl rfl rfl rfl <| .gF rfl rfl rfl rfl <| .yv (.pickF rfl rfl) rfl <| .a rfl rfl <|
            .nl <| .tN <| .me _ ⟨rfl, trivial⟩ ⟨rfl, rfl, rfl, rfl, trivial⟩ (fun _ s => (s.pickT (hd := [_, _]) (tl := bs) (hd' := [_, _]) [1, 0] rfl rfl)) (by rw [Bool.eq_iff_iff, decide_eq_true_eq]; first | (rw [decide_eq_true_eq]; omega) | exact ⟨fun _ => by omega, fun _ => rfl⟩ | exact ⟨fun h => (by cases h), fun h => by omega⟩)
      ·
        have e25 := hC
        refine .cd rfl (fun h25 => ?_) (fun h25 => ?_)
        · have q25 : k = 3 ∧ 0 < M.tables := by rw [h25] at e25; exact of_decide_eq_true e25.symm
          refine .sq <| .rg <| .m rfl rfl <| .cs (X := List Value × Value × Hp) Fx.call112 rfl (fun W s => num_any M hM.1 3 (by decide) H w0 W _ b _ _ _ by_ hb  (s.pickT (hd := [_, _]) (tl := bs) (hd' := [_, _]) [0, 1] rfl rfl)) rfl fun z36 hz36 => ?_
          obtain ⟨x36, v36, H36⟩ := z36
          obtain ⟨u36, r36, q36⟩ := hz36
          dsimp only at u36 r36 q36 ⊢
          generalize hE36 : (numE M 3 by_).1 = e36 at r36
          obtain ⟨op36, nm36, n36, a36⟩ := e36
          obtain ⟨p36, c36, rfl, hs36, hl36⟩ := ex_open r36
          refine .m rfl rfl <| .cs (X := List Value × Value × Hp) Fx.call112 rfl (fun W s => num_any M hM.1 3 (by decide) H36 w0 W _ b _ _ _ _ q36  (s.pickT (hd := [_, _]) (tl := bs) (hd' := [_, _]) [0, 1] rfl rfl)) rfl fun z38 hz38 => ?_
          obtain ⟨x38, v38, H38⟩ := z38
          obtain ⟨u38, r38, q38⟩ := hz38
          dsimp only at u38 r38 q38 ⊢
          generalize hE38 : (numE M 3 (numE M 3 by_).2).1 = e38 at r38
          obtain ⟨op38, nm38, n38, a38⟩ := e38
          obtain ⟨p38, c38, rfl, hs38, hl38⟩ := ex_open r38
          refine .bl rfl (Fx.bsl24_2 _ _ _ _ _ _ _ _) rfl fun b39 => .yv (.build rfl (Fx.bld104_0_1_3 _ _ _ _ _)) rfl <| .sW (.tail <| .tail <| .head) rfl rfl Fx.size104 (by simp [Value.oneCell', strV]) rfl <|
            .nl <| .tN <| .rt <| .bR <| .tR <| ?_
          refine At.pt (hd := [_, _, _]) (tl := bs) (hd' := [_, _, _]) [0, 2, 1] rfl rfl ?_
          refine Sx.freezeBox fun Hf uf mf => ?_
          exact Sx.ret1 (.inl rfl) rfl (.cell rfl Fx.agg104 (.head _) rfl) fun W t => ⟨(_, _, Hf), by rw [show stmT M k d bd by_ lf = _ from by rw [stmT, if_neg (by omega), if_pos (by omega)], hE36, hE38]; exact ⟨(u36.trans u38).trans uf, sm_shut (kd := 2) (nm := [116, 48]) (hd := []) (ex := [.mk op36 nm36 n36 a36, .mk op38 nm38 n38 a38]) (th := []) (el := []) (by first | decide | simp [nmB]) (by first | decide | simp [nmB]) (Rep.mk (n := 2) (c := 2) mf (RepZ.app (RepZ.single ((r36.up u38.up).up uf.up) rfl) (RepZ.single (r38.up uf.up) rfl)) rfl (Nat.le_refl _) (by decide)) (Rep.empty (by decide)) (Rep.empty (by decide)), q38.up uf.up, hlf⟩, rfl, by rw [show stmT M k d bd by_ lf = _ from by rw [stmT, if_neg (by omega), if_pos (by omega)], hE36, hE38]; exact t.drop⟩
        · have q25 : ¬ (k = 3 ∧ 0 < M.tables) := by rw [h25] at e25; exact of_decide_eq_false e25.symm
          refine .cu (X := Bool) [(0, _), (1, _), (2, _), (6, _)] ⟨rfl, rfl, rfl, rfl, trivial⟩ (fun z => [(41, .bool z)]) (fun z => H) (fun z => (.box b (mkC M (.slice pA M.ars.length cA) bv (lf : Nat)) 142 :: .box b6 [.int .i64 0, .string ⟨#[]⟩, .string ⟨#[]⟩, .slice none 0 0, .slice none 0 0, .slice none 0 0] 104 :: bs)) (fun z => z = decide (k = 4 ∧ 0 < M.tables)) ?_ fun z hC => ?_
          ·
            refine .rg <| .m rfl rfl <| .yv (.eql rfl rfl) rfl <| .m rfl rfl <| .b2 (fun h44 => ?_) (fun h44 => ?_)
            · try simp only [decide_eq_true_eq] at h44
              exact .gd rfl rfl <| .yv (.move rfl) rfl <| .gd rfl rfl <| .yv (.nilCheck rfl) rfl <| .gd rfl rfl <| .yv (.fieldAddr rfl Fx.field142_1) rfl <| .gd rfl rfl <| .yv (.load rfl Fx.agg3 (.head _) rfl) rfl <|
                .gd rfl rfl <| .yv (.gtr rfl rfl) rfl <| .yv (.pickT rfl rfl) rfl <| .a rfl rfl <| .nl <| .tN <| .me _ ⟨rfl, trivial⟩ ⟨rfl, rfl, rfl, rfl, trivial⟩ (fun _ s => s) (by rw [Bool.eq_iff_iff, decide_eq_true_eq]; first | (rw [decide_eq_true_eq]; omega) | exact ⟨fun _ => by omega, fun _ => rfl⟩ | exact ⟨fun h => (by cases h), fun h => by omega⟩)
            · try simp only [decide_eq_false_iff_not] at h44
              exact .gF rfl rfl rfl rfl <| .gF rfl rfl rfl rfl <| .gF rfl rfl rfl rfl <| .gF rfl rfl rfl rfl <| .gF rfl rfl rfl rfl <| .yv (.pickF rfl rfl) rfl <| .a rfl rfl <|
                .nl <| .tN <| .me _ ⟨rfl, trivial⟩ ⟨rfl, rfl, rfl, rfl, trivial⟩ (fun _ s => s) (by rw [Bool.eq_iff_iff, decide_eq_true_eq]; first | (rw [decide_eq_true_eq]; omega) | exact ⟨fun _ => by omega, fun _ => rfl⟩ | exact ⟨fun h => (by cases h), fun h => by omega⟩)
          ·
            have e41 := hC
            refine .cd rfl (fun h41 => ?_) (fun h41 => ?_)
            · have q41 : k = 4 ∧ 0 < M.tables := by rw [h41] at e41; exact of_decide_eq_true e41.symm
              refine .sq <| .rg <| .m rfl rfl <| .cs (X := List Value × Value × Hp) Fx.call112 rfl (fun W s => num_any M hM.1 3 (by decide) H w0 W _ b _ _ _ by_ hb  (s.pickT (hd := [_, _]) (tl := bs) (hd' := [_, _]) [0, 1] rfl rfl)) rfl fun z52 hz52 => ?_
              obtain ⟨x52, v52, H52⟩ := z52
              obtain ⟨u52, r52, q52⟩ := hz52
              dsimp only at u52 r52 q52 ⊢
              generalize hE52 : (numE M 3 by_).1 = e52 at r52
              obtain ⟨op52, nm52, n52, a52⟩ := e52
              obtain ⟨p52, c52, rfl, hs52, hl52⟩ := ex_open r52
              refine .bl rfl (Fx.bsl24_1 _ _ _ _) rfl fun b53 => .yv (.build rfl (Fx.bld104_0_1_3 _ _ _ _ _)) rfl <| .sW (.tail <| .tail <| .head) rfl rfl Fx.size104 (by simp [Value.oneCell', strV]) rfl <|
                .nl <| .tN <| .rt <| .bR <| .tR <| ?_
              refine At.pt (hd := [_, _, _]) (tl := bs) (hd' := [_, _, _]) [0, 2, 1] rfl rfl ?_
              refine Sx.freezeBox fun Hf uf mf => ?_
              exact Sx.ret1 (.inl rfl) rfl (.cell rfl Fx.agg104 (.head _) rfl) fun W t => ⟨(_, _, Hf), by rw [show stmT M k d bd by_ lf = _ from by rw [stmT, if_neg (by omega), if_neg (by omega), if_pos (by omega)], hE52]; exact ⟨u52.trans uf, sm_shut (kd := 3) (nm := [116, 48]) (hd := []) (ex := [.mk op52 nm52 n52 a52]) (th := []) (el := []) (by first | decide | simp [nmB]) (by first | decide | simp [nmB]) (Rep.mk (n := 1) (c := 1) mf (.single ((r52).up uf.up) rfl) rfl (Nat.le_refl _) (by decide)) (Rep.empty (by decide)) (Rep.empty (by decide)), q52.up uf.up, hlf⟩, rfl, by rw [show stmT M k d bd by_ lf = _ from by rw [stmT, if_neg (by omega), if_neg (by omega), if_pos (by omega)], hE52]; exact t.drop⟩
            · have q41 : ¬ (k = 4 ∧ 0 < M.tables) := by rw [h41] at e41; exact of_decide_eq_false e41.symm
              refine .cu (X := Bool) [(0, _), (1, _), (2, _), (6, _)] ⟨rfl, rfl, rfl, rfl, trivial⟩ (fun z => [(55, .bool z)]) (fun z => H) (fun z => (.box b (mkC M (.slice pA M.ars.length cA) bv (lf : Nat)) 142 :: .box b6 [.int .i64 0, .string ⟨#[]⟩, .string ⟨#[]⟩, .slice none 0 0, .slice none 0 0, .slice none 0 0] 104 :: bs)) (fun z => z = decide ((k = 5 ∨ k = 6) ∧ d < 3)) ?_ fun z hC => ?_
              ·
                refine .rg <| .m rfl rfl <| .yv (.eql rfl rfl) rfl <| .m rfl rfl <| .b2 (fun h58 => ?_) (fun h58 => ?_)
                · try simp only [decide_eq_true_eq] at h58
                  exact .gF rfl rfl rfl rfl <| .gF rfl rfl rfl rfl <| .yv (.pickT rfl rfl) rfl <| .m rfl rfl <| .gd rfl rfl <| .yv (.move rfl) rfl <| .gd rfl rfl <| .yv (.lss rfl rfl) rfl <|
                    .yv (.pickT rfl rfl) rfl <| .a rfl rfl <| .nl <| .tN <| .me _ ⟨rfl, trivial⟩ ⟨rfl, rfl, rfl, rfl, trivial⟩ (fun _ s => s) (by rw [Bool.eq_iff_iff, decide_eq_true_eq]; first | (rw [decide_eq_true_eq]; omega) | exact ⟨fun _ => by omega, fun _ => rfl⟩ | exact ⟨fun h => (by cases h), fun h => by omega⟩)
                · try simp only [decide_eq_false_iff_not] at h58
                  refine .gd rfl rfl <| .yv (.move rfl) rfl <| .gd rfl rfl <| .yv (.eql rfl rfl) rfl <| .yv (.pickF rfl rfl) rfl <| .m rfl rfl <| .b2 (fun h62 => ?_) (fun h62 => ?_)
                  · try simp only [decide_eq_true_eq] at h62
                    exact .gd rfl rfl <| .yv (.move rfl) rfl <| .gd rfl rfl <| .yv (.lss rfl rfl) rfl <| .yv (.pickT rfl rfl) rfl <| .a rfl rfl <| .nl <| .tN <| .me _ ⟨rfl, trivial⟩ ⟨rfl, rfl, rfl, rfl, trivial⟩ (fun _ s => s) (by rw [Bool.eq_iff_iff, decide_eq_true_eq]; first | (rw [decide_eq_true_eq]; omega) | exact ⟨fun _ => by omega, fun _ => rfl⟩ | exact ⟨fun h => (by cases h), fun h => by omega⟩)
                  · try simp only [decide_eq_false_iff_not] at h62
                    exact .gF rfl rfl rfl rfl <| .gF rfl rfl rfl rfl <| .yv (.pickF rfl rfl) rfl <| .a rfl rfl <| .nl <| .tN <| .me _ ⟨rfl, trivial⟩ ⟨rfl, rfl, rfl, rfl, trivial⟩ (fun _ s => s) (by rw [Bool.eq_iff_iff, decide_eq_true_eq]; first | (rw [decide_eq_true_eq]; omega) | exact ⟨fun _ => by omega, fun _ => rfl⟩ | exact ⟨fun h => (by cases h), fun h => by omega⟩)
              ·
                have e55 := hC
                refine .cd rfl (fun h55 => ?_) (fun h55 => ?_)
                · have q55 : (k = 5 ∨ k = 6) ∧ d < 3 := by rw [h55] at e55; exact of_decide_eq_true e55.symm
                  refine .sq <| .rg <| .m rfl rfl <| .cs (X := List Value × Value × Hp) Fx.call111 rfl (fun W s => truth_any M hM.1 2 (by decide) H w0 W _ b _ _ _ by_ hb  (s.pickT (hd := [_, _]) (tl := bs) (hd' := [_, _]) [0, 1] rfl rfl)) rfl fun z67 hz67 => ?_
                  obtain ⟨x67, v67, H67⟩ := z67
                  obtain ⟨u67, r67, q67⟩ := hz67
                  dsimp only at u67 r67 q67 ⊢
                  generalize hE67 : (truE M 2 by_).1 = e67 at r67
                  obtain ⟨op67, nm67, n67, a67⟩ := e67
                  obtain ⟨p67, c67, rfl, hs67, hl67⟩ := ex_open r67
                  refine .al Fx.zero26 rfl fun b7 => .sW .head rfl rfl Fx.size26 (by simp [Value.oneCell', strV]) rfl <| .nl <| .tN <| .sq <| .rg <| .m rfl rfl <| .m rfl rfl <| .yv (.add rfl rfl (c := ((d + 1 : Nat) : Int)) ((w64 (by omega) (by omega)).trans (by omega))) rfl <|
                    .cs (X := Value × Value × Hp) Fx.call75 rfl (fun W s => hbd (by omega) H67 w0 W _ b _ _ lf _ hlf (hAr.up u67.up) q67  (s.pickT (hd := [_, _, _]) (tl := bs) (hd' := [_, _, _]) [1, 0, 2] rfl rfl)) rfl fun z71 hz71 => ?_
                  obtain ⟨x71, v71, H71⟩ := z71
                  obtain ⟨u71, r71, q71, l71⟩ := hz71
                  dsimp only at u71 r71 q71 ⊢
                  obtain ⟨pb71, cb71, eb71, _⟩ := r71.sl
                  simp only [List.cons.injEq, and_true, List.length_map] at eb71
                  subst eb71
                  refine .a rfl rfl <| .nl <| .tN <| .sq <| .ft (p := .light _ _ (.light _ _ (.light _ _ (.light _ _ (.light _ _ (.alt _ _ _ (.alt _ _ _ (.light _ _ (.done)) (.no)) (.alt _ _ _ (.alt _ _ _ (.light _ _ (.done)) (.no)) (.no)))))))) 8 (.light 0 (.light 2 (.light 3 (.light 4 (.light 5 (.alt 1 0 (.alt 6 2 (.light 7 (.done)) (.no)) (.alt 6 2 (.alt 1 0 (.light 7 (.done)) (.no)) (.no)))))))) (by kernel_rfl) (by kernel_rfl) rfl <|
                    .yv (.loadW rfl Fx.agg26 (.tail _ <| .head _) rfl) rfl <| .m rfl rfl <| .m rfl rfl <| .m rfl rfl <| .yv (.add rfl rfl (c := ((d + 1 : Nat) : Int)) ((w64 (by omega) (by omega)).trans (by omega))) rfl <|
                    .h ?_ (.h ?_ .nn)
                  ·
                    refine .bl rfl (Fx.bsl24_1 _ _ _ _) rfl fun b73 => .h1 <| .c3 (X := Value × Value × Hp) Fx.call75 rfl (fun W s => hbd (by omega) H71 w0 W _ b _ _ _ _ l71 (hAr.up (u67.trans u71).up) q71  (s.pickT (hd := [_, _, _, _]) (tl := bs) (hd' := [_, _, _, _]) [1, 0, 2, 3] rfl rfl)) rfl (fun z78 hz78 => (.done (by kernel_rfl) <|
                      .done (by kernel_rfl) <| .done (by kernel_rfl) <| .yv (.move rfl) <| .yv (.loadW rfl Fx.agg26 (.tail _ <| .tail _ <| .head _) rfl) <| .nl)) fun z78 hz78 => ?_
                    obtain ⟨x78, v78, H78⟩ := z78
                    obtain ⟨u78, r78, q78, l78⟩ := hz78
                    dsimp only at u78 r78 q78 ⊢
                    obtain ⟨pb78, cb78, eb78, _⟩ := r78.sl
                    simp only [List.cons.injEq, and_true, List.length_map] at eb78
                    subst eb78
                    refine .yv (.build rfl (Fx.bld104_0_3_4_5 _ _ _ _ _ _ _ _ _ _)) rfl <| .fn (tl := [_]) rfl <| .sW (.tail <| .tail <| .tail <| .head) rfl rfl Fx.size104 (by simp [Value.oneCell', strV]) rfl <|
                      .nl <| .tN <| .rt <| .bR <| .tR <| ?_
                    refine At.pt (hd := [_, _, _, _]) (tl := bs) (hd' := [_, _, _]) [1, 3, 0] rfl rfl ?_
                    refine Sx.freezeBox fun Hf uf mf => ?_
                    exact Sx.ret1 (.inl rfl) rfl (.cell rfl Fx.agg104 (.head _) rfl) fun W t => ⟨(_, _, Hf), by rw [show stmT M k d bd by_ lf = _ from by rw [stmT, if_neg (by omega), if_neg (by omega), if_neg (by omega), if_pos (by omega)], hE67]; exact ⟨(u67.trans (u71.trans u78)).trans uf, sm_shut (kd := 4) (nm := []) (hd := []) (ex := [.mk op67 nm67 n67 a67]) (th := _) (el := _) (by first | decide | simp [nmB]) (by first | decide | simp [nmB]) (Rep.mk (n := 1) (c := 1) mf (.single ((r67.up (u71.trans u78).up).up uf.up) rfl) rfl (Nat.le_refl _) (by decide)) ((r71.up u78.up).up uf.up) (r78.up uf.up), q78.up uf.up, l78⟩, rfl, by rw [show stmT M k d bd by_ lf = _ from by rw [stmT, if_neg (by omega), if_neg (by omega), if_neg (by omega), if_pos (by omega)], hE67]; exact t.drop⟩
                  ·
                    refine .c3 (X := Value × Value × Hp) Fx.call75 rfl (fun W s => hbd (by omega) H71 w0 W _ b _ _ _ _ l71 (hAr.up (u67.trans u71).up) q71  (s.pickT (hd := [_, _, _]) (tl := bs) (hd' := [_, _, _]) [0, 1, 2] rfl rfl)) rfl (fun z78 hz78 => (.done (by kernel_rfl) <|
                      .done (by kernel_rfl) <| .done (by kernel_rfl) <| .yv (.move rfl) <| .yv (.loadW rfl Fx.agg26 (.tail _ <| .head _) rfl) <| .nl)) fun z78 hz78 => ?_
                    obtain ⟨x78, v78, H78⟩ := z78
                    obtain ⟨u78, r78, q78, l78⟩ := hz78
                    dsimp only at u78 r78 q78 ⊢
                    obtain ⟨pb78, cb78, eb78, _⟩ := r78.sl
                    simp only [List.cons.injEq, and_true, List.length_map] at eb78
                    subst eb78
                    refine .h1 <| .bl rfl (Fx.bsl24_1 _ _ _ _) rfl fun b73 => .yv (.build rfl (Fx.bld104_0_3_4_5 _ _ _ _ _ _ _ _ _ _)) rfl <| .fn (tl := [_]) rfl <| .sW (.tail <| .tail <|
                      .tail <| .head) rfl rfl Fx.size104 (by simp [Value.oneCell', strV]) rfl <| .nl <| .tN <| .rt <| .bR <| .tR <| ?_
                    refine At.pt (hd := [_, _, _, _]) (tl := bs) (hd' := [_, _, _]) [0, 3, 1] rfl rfl ?_
                    refine Sx.freezeBox fun Hf uf mf => ?_
                    exact Sx.ret1 (.inl rfl) rfl (.cell rfl Fx.agg104 (.head _) rfl) fun W t => ⟨(_, _, Hf), by rw [show stmT M k d bd by_ lf = _ from by rw [stmT, if_neg (by omega), if_neg (by omega), if_neg (by omega), if_pos (by omega)], hE67]; exact ⟨(u67.trans (u71.trans u78)).trans uf, sm_shut (kd := 4) (nm := []) (hd := []) (ex := [.mk op67 nm67 n67 a67]) (th := _) (el := _) (by first | decide | simp [nmB]) (by first | decide | simp [nmB]) (Rep.mk (n := 1) (c := 1) mf (.single ((r67.up (u71.trans u78).up).up uf.up) rfl) rfl (Nat.le_refl _) (by decide)) ((r71.up u78.up).up uf.up) (r78.up uf.up), q78.up uf.up, l78⟩, rfl, by rw [show stmT M k d bd by_ lf = _ from by rw [stmT, if_neg (by omega), if_neg (by omega), if_neg (by omega), if_pos (by omega)], hE67]; exact t.drop⟩
                · have q55 : ¬ ((k = 5 ∨ k = 6) ∧ d < 3) := by rw [h55] at e55; exact of_decide_eq_false e55.symm
                  refine .cu (X := Bool) [(0, _), (1, _), (2, _), (6, _)] ⟨rfl, rfl, rfl, rfl, trivial⟩ (fun z => [(80, .bool z)]) (fun z => H) (fun z => (.box b (mkC M (.slice pA M.ars.length cA) bv (lf : Nat)) 142 :: .box b6 [.int .i64 0, .string ⟨#[]⟩, .string ⟨#[]⟩, .slice none 0 0, .slice none 0 0, .slice none 0 0] 104 :: bs)) (fun z => z = decide (k = 7 ∧ d < 2)) ?_ fun z hC => ?_
                  ·
                    refine .rg <| .m rfl rfl <| .yv (.eql rfl rfl) rfl <| .m rfl rfl <| .b2 (fun h83 => ?_) (fun h83 => ?_)
                    · try simp only [decide_eq_true_eq] at h83
                      exact .gd rfl rfl <| .yv (.move rfl) rfl <| .gd rfl rfl <| .yv (.lss rfl rfl) rfl <| .yv (.pickT rfl rfl) rfl <| .a rfl rfl <| .nl <| .tN <| .me _ ⟨rfl, trivial⟩ ⟨rfl, rfl, rfl, rfl, trivial⟩ (fun _ s => s) (by rw [Bool.eq_iff_iff, decide_eq_true_eq]; first | (rw [decide_eq_true_eq]; omega) | exact ⟨fun _ => by omega, fun _ => rfl⟩ | exact ⟨fun h => (by cases h), fun h => by omega⟩)
                    · try simp only [decide_eq_false_iff_not] at h83
                      exact .gF rfl rfl rfl rfl <| .gF rfl rfl rfl rfl <| .yv (.pickF rfl rfl) rfl <| .a rfl rfl <| .nl <| .tN <| .me _ ⟨rfl, trivial⟩ ⟨rfl, rfl, rfl, rfl, trivial⟩ (fun _ s => s) (by rw [Bool.eq_iff_iff, decide_eq_true_eq]; first | (rw [decide_eq_true_eq]; omega) | exact ⟨fun _ => by omega, fun _ => rfl⟩ | exact ⟨fun h => (by cases h), fun h => by omega⟩)
                  ·
                    have e80 := hC
                    refine .cd rfl (fun h80 => ?_) (fun h80 => ?_)
                    · have q80 : k = 7 ∧ d < 2 := by rw [h80] at e80; exact of_decide_eq_true e80.symm
                      refine .sq <| .rg <| .m rfl rfl <| .cs (X := List Value × Value × Hp) Fx.call111 rfl (fun W s => truth_any M hM.1 2 (by decide) H w0 W _ b _ _ _ by_ hb  (s.pickT (hd := [_, _]) (tl := bs) (hd' := [_, _]) [0, 1] rfl rfl)) rfl fun z88 hz88 => ?_
                      obtain ⟨x88, v88, H88⟩ := z88
                      obtain ⟨u88, r88, q88⟩ := hz88
                      dsimp only at u88 r88 q88 ⊢
                      generalize hE88 : (truE M 2 by_).1 = e88 at r88
                      obtain ⟨op88, nm88, n88, a88⟩ := e88
                      obtain ⟨p88, c88, rfl, hs88, hl88⟩ := ex_open r88
                      refine .al Fx.zero26 rfl fun b9 => .sW .head rfl rfl Fx.size26 (by simp [Value.oneCell', strV]) rfl <| .nl <| .tN <| .sq <| .ft (p := .light _ _ (.light _ _ (.light _ _ (.light _ _ (.alt _ _ _ (.alt _ _ _ (.light _ _ (.done)) (.no)) (.alt _ _ _ (.alt _ _ _ (.light _ _ (.done)) (.no)) (.no))))))) 7 (.light 0 (.light 2 (.light 3 (.light 4 (.alt 1 0 (.alt 5 2 (.light 6 (.done)) (.no)) (.alt 5 2 (.alt 1 0 (.light 6 (.done)) (.no)) (.no))))))) (by kernel_rfl) (by kernel_rfl) rfl <|
                        .yv (.loadW rfl Fx.agg26 (.head _) rfl) rfl <| .m rfl rfl <| .m rfl rfl <| .yv (.add rfl rfl (c := ((d + 1 : Nat) : Int)) ((w64 (by omega) (by omega)).trans (by omega))) rfl <|
                        .h ?_ (.h ?_ .nn)
                      ·
                        refine .bl rfl (Fx.bsl24_1 _ _ _ _) rfl fun b90 => .h1 <| .c3 (X := Value × Value × Hp) Fx.call75 rfl (fun W s => hbd (by omega) H88 w0 W _ b _ _ lf _ hlf (hAr.up u88.up) q88  (s.pickT (hd := [_, _, _, _]) (tl := bs) (hd' := [_, _, _, _]) [2, 0, 1, 3] rfl rfl)) rfl (fun z94 hz94 => (.done (by kernel_rfl) <|
                          .done (by kernel_rfl) <| .done (by kernel_rfl) <| .yv (.loadW rfl Fx.agg26 (.tail _ <| .tail _ <| .head _) rfl) <| .nl)) fun z94 hz94 => ?_
                        obtain ⟨x94, v94, H94⟩ := z94
                        obtain ⟨u94, r94, q94, l94⟩ := hz94
                        dsimp only at u94 r94 q94 ⊢
                        obtain ⟨pb94, cb94, eb94, _⟩ := r94.sl
                        simp only [List.cons.injEq, and_true, List.length_map] at eb94
                        subst eb94
                        refine .yv (.build rfl (Fx.bld104_0_3_4 _ _ _ _ _ _ _)) rfl <| .fn (tl := [_]) rfl <| .sW (.tail <| .tail <| .tail <| .head) rfl rfl Fx.size104 (by simp [Value.oneCell', strV]) rfl <|
                          .nl <| .tN <| .rt <| .bR <| .tR <| ?_
                        refine At.pt (hd := [_, _, _, _]) (tl := bs) (hd' := [_, _, _]) [1, 3, 0] rfl rfl ?_
                        refine Sx.freezeBox fun Hf uf mf => ?_
                        exact Sx.ret1 (.inl rfl) rfl (.cell rfl Fx.agg104 (.head _) rfl) fun W t => ⟨(_, _, Hf), by rw [show stmT M k d bd by_ lf = _ from by rw [stmT, if_neg (by omega), if_neg (by omega), if_neg (by omega), if_neg (by omega), if_pos (by omega)], hE88]; exact ⟨(u88.trans u94).trans uf, sm_shut (kd := 5) (nm := []) (hd := []) (ex := [.mk op88 nm88 n88 a88]) (th := _) (el := []) (by first | decide | simp [nmB]) (by first | decide | simp [nmB]) (Rep.mk (n := 1) (c := 1) mf (.single ((r88.up (u94).up).up uf.up) rfl) rfl (Nat.le_refl _) (by decide)) (r94.up uf.up) (Rep.empty (by decide)), q94.up uf.up, l94⟩, rfl, by rw [show stmT M k d bd by_ lf = _ from by rw [stmT, if_neg (by omega), if_neg (by omega), if_neg (by omega), if_neg (by omega), if_pos (by omega)], hE88]; exact t.drop⟩
                      ·
                        refine .c3 (X := Value × Value × Hp) Fx.call75 rfl (fun W s => hbd (by omega) H88 w0 W _ b _ _ lf _ hlf (hAr.up u88.up) q88  (s.pickT (hd := [_, _, _]) (tl := bs) (hd' := [_, _, _]) [1, 0, 2] rfl rfl)) rfl (fun z94 hz94 => (.done (by kernel_rfl) <|
                          .done (by kernel_rfl) <| .done (by kernel_rfl) <| .yv (.loadW rfl Fx.agg26 (.tail _ <| .head _) rfl) <| .nl)) fun z94 hz94 => ?_
                        obtain ⟨x94, v94, H94⟩ := z94
                        obtain ⟨u94, r94, q94, l94⟩ := hz94
                        dsimp only at u94 r94 q94 ⊢
                        obtain ⟨pb94, cb94, eb94, _⟩ := r94.sl
                        simp only [List.cons.injEq, and_true, List.length_map] at eb94
                        subst eb94
                        refine .h1 <| .bl rfl (Fx.bsl24_1 _ _ _ _) rfl fun b90 => .yv (.build rfl (Fx.bld104_0_3_4 _ _ _ _ _ _ _)) rfl <| .fn (tl := [_]) rfl <| .sW (.tail <| .tail <| .tail <|
                          .head) rfl rfl Fx.size104 (by simp [Value.oneCell', strV]) rfl <| .nl <| .tN <| .rt <| .bR <| .tR <| ?_
                        refine At.pt (hd := [_, _, _, _]) (tl := bs) (hd' := [_, _, _]) [0, 3, 1] rfl rfl ?_
                        refine Sx.freezeBox fun Hf uf mf => ?_
                        exact Sx.ret1 (.inl rfl) rfl (.cell rfl Fx.agg104 (.head _) rfl) fun W t => ⟨(_, _, Hf), by rw [show stmT M k d bd by_ lf = _ from by rw [stmT, if_neg (by omega), if_neg (by omega), if_neg (by omega), if_neg (by omega), if_pos (by omega)], hE88]; exact ⟨(u88.trans u94).trans uf, sm_shut (kd := 5) (nm := []) (hd := []) (ex := [.mk op88 nm88 n88 a88]) (th := _) (el := []) (by first | decide | simp [nmB]) (by first | decide | simp [nmB]) (Rep.mk (n := 1) (c := 1) mf (.single ((r88.up (u94).up).up uf.up) rfl) rfl (Nat.le_refl _) (by decide)) (r94.up uf.up) (Rep.empty (by decide)), q94.up uf.up, l94⟩, rfl, by rw [show stmT M k d bd by_ lf = _ from by rw [stmT, if_neg (by omega), if_neg (by omega), if_neg (by omega), if_neg (by omega), if_pos (by omega)], hE88]; exact t.drop⟩
                    · have q80 : ¬ (k = 7 ∧ d < 2) := by rw [h80] at e80; exact of_decide_eq_false e80.symm
                      refine .cu (X := Bool) [(0, _), (1, _), (2, _), (6, _)] ⟨rfl, rfl, rfl, rfl, trivial⟩ (fun z => [(96, .bool z)]) (fun z => H) (fun z => (.box b (mkC M (.slice pA M.ars.length cA) bv (lf : Nat)) 142 :: .box b6 [.int .i64 0, .string ⟨#[]⟩, .string ⟨#[]⟩, .slice none 0 0, .slice none 0 0, .slice none 0 0] 104 :: bs)) (fun z => z = decide (k = 8 ∨ k = 9)) ?_ fun z hC => ?_
                      ·
                        refine .rg <| .m rfl rfl <| .yv (.eql rfl rfl) rfl <| .m rfl rfl <| .b2 (fun h99 => ?_) (fun h99 => ?_)
                        · try simp only [decide_eq_true_eq] at h99
                          exact .gF rfl rfl rfl rfl <| .gF rfl rfl rfl rfl <| .yv (.pickT rfl rfl) rfl <| .a rfl rfl <| .nl <| .tN <| .me _ ⟨rfl, trivial⟩ ⟨rfl, rfl, rfl, rfl, trivial⟩ (fun _ s => s) (by rw [Bool.eq_iff_iff, decide_eq_true_eq]; first | (rw [decide_eq_true_eq]; omega) | exact ⟨fun _ => by omega, fun _ => rfl⟩ | exact ⟨fun h => (by cases h), fun h => by omega⟩)
                        · try simp only [decide_eq_false_iff_not] at h99
                          exact .gd rfl rfl <| .yv (.move rfl) rfl <| .gd rfl rfl <| .yv (.eql rfl rfl) rfl <| .yv (.pickF rfl rfl) rfl <| .a rfl rfl <| .nl <| .tN <| .me _ ⟨rfl, trivial⟩ ⟨rfl, rfl, rfl, rfl, trivial⟩ (fun _ s => s) (by rw [Bool.eq_iff_iff, decide_eq_true_eq]; first | (rw [decide_eq_true_eq]; omega) | exact ⟨fun _ => by omega, fun _ => rfl⟩ | exact ⟨fun h => (by cases h), fun h => by omega⟩)
                      ·
                        have e96 := hC
                        refine .cd rfl (fun h96 => ?_) (fun h96 => ?_)
                        · have q96 : k = 8 ∨ k = 9 := by rw [h96] at e96; exact of_decide_eq_true e96.symm
                          refine .sq <| .rg <| .m rfl rfl <| .m rfl rfl <| .yv (.nilCheck rfl) rfl <| .yv (.fieldAddr rfl Fx.field142_4) rfl <| .yv (.load rfl Fx.agg136 (.head _) rfl) rfl <|
                            .yv (.lenSl Fx.sl136 rfl) rfl <| .cs (X := Value) Fx.call96 rfl (fun W s => next_st M.ars.length hM.2.1 hb  (s.pickT (hd := [_, _]) (tl := bs) (hd' := [_, _]) [0, 1] rfl rfl)) rfl fun z109 hz109 => ?_
                          have hc := nextB_lt by_ hM.2.1
                          have hc3 := hM.2.2.1
                          have hal := hM.len hc
                          obtain ⟨bA, oA, pR, cR, hpA, mA, hR⟩ := ar_at hAr hc
                          subst hpA
                          refine .a rfl rfl <| .nl <| .tN <| .sq <| .rg <| .m rfl rfl <| .m rfl rfl <| .yv (.nilCheck rfl) rfl <| .yv (.fieldAddr rfl Fx.field142_4) rfl <| .yv (.load rfl Fx.agg136 (.head _) rfl) rfl <|
                            .m rfl rfl <| .yv (.indexSl Fx.sl136 rfl rfl (i := (nextB by_ M.ars.length).1) rfl (by omega) (q := oA + (nextB by_ M.ars.length).1 * 1) rfl) rfl <| .yv (.loadM rfl Fx.agg137 mA (k := 0) rfl rfl) rfl <|
                            .yv (.lenSl Fx.sl137 rfl) rfl <| .cs (X := Value) Fx.call96 rfl (fun W s => next_st (arL M (nextB by_ M.ars.length).1) hal.1 hz109  (s.pickT (hd := [_, _]) (tl := bs) (hd' := [_, _]) [0, 1] rfl rfl)) rfl fun z119 hz119 => ?_
                          have hh := nextB_lt (nextB by_ M.ars.length).2 hal.1
                          have hn2 := hM.num hc hh
                          obtain ⟨bR, oR, hpR, mR⟩ := arn_at hR hh
                          subst hpR
                          refine .a rfl rfl <| .nl <| .tN <| .sq <| .ft (p := .light _ _ (.light _ _ (.light _ _ (.light _ _ (.light _ _ (.light _ _ (.light _ _ (.light _ _ (.light _ _ (.light _ _ (.light _ _ (.light _ _ (.light _ _ (.alt _ _ _ (.light _ _ (.light _ _ (.alt _ _ _ (.light _ _ (.light _ _ (.alt _ _ _ (.light _ _ (.done)) (.no)))) (.no)))) (.alt _ _ _ (.light _ _ (.light _ _ (.alt _ _ _ (.light _ _ (.light _ _ (.alt _ _ _ (.light _ _ (.done)) (.no)))) (.alt _ _ _ (.alt _ _ _ (.light _ _ (.light _ _ (.light _ _ (.done)))) (.no)) (.no))))) (.no)))))))))))))))) 21 (.light 1 (.light 5 (.light 8 (.light 9 (.light 10 (.light 11 (.light 12 (.light 13 (.light 14 (.light 15 (.light 16 (.light 17 (.light 18 (.alt 0 0 (.light 2 (.light 3 (.alt 4 0 (.light 6 (.light 7 (.alt 19 2 (.light 20 (.done)) (.no)))) (.no)))) (.alt 4 0 (.light 6 (.light 7 (.alt 0 0 (.light 2 (.light 3 (.alt 19 2 (.light 20 (.done)) (.no)))) (.alt 19 2 (.alt 0 0 (.light 2 (.light 3 (.light 20 (.done)))) (.no)) (.no))))) (.no)))))))))))))))) (by kernel_rfl) (by kernel_rfl) rfl <|
                            .m rfl rfl <| .m rfl rfl <| .m rfl rfl <| .m rfl rfl <| .yv (.nilCheck rfl) rfl <| .yv (.fieldAddr rfl Fx.field142_4) rfl <| .yv (.load rfl Fx.agg136 (.head _) rfl) rfl <|
                            .m rfl rfl <| .yv (.indexSl Fx.sl136 rfl rfl (i := (nextB by_ M.ars.length).1) rfl (by omega) (q := oA + (nextB by_ M.ars.length).1 * 1) rfl) rfl <| .yv (.loadM rfl Fx.agg137 mA (k := 0) rfl rfl) rfl <|
                            .m rfl rfl <| .yv (.indexSl Fx.sl137 rfl rfl (i := (nextB (nextB by_ M.ars.length).2 (arL M (nextB by_ M.ars.length).1)).1) rfl (by omega) (q := oR + (nextB (nextB by_ M.ars.length).2 (arL M (nextB by_ M.ars.length).1)).1 * 1) rfl) rfl <|
                            .yv (.loadM rfl Fx.agg3 mR (k := 0) rfl rfl) rfl <| .h ?_ (.h ?_ .nn)
                          ·
                            refine .bl rfl (Fx.bsl56_3 _ _ _) rfl fun b120 => .yv (.indexSl Fx.sl56 rfl rfl (i := (nextB by_ M.ars.length).1) rfl (by omega) (q := (nextB by_ M.ars.length).1) (by omega)) rfl <|
                              .yv (.load (v := strV [UInt8.ofNat (97 + (nextB by_ M.ars.length).1)]) rfl Fx.agg9 (.head _) (abc_at (by omega))) rfl <| .h1 <| .ct (X := Value) Fx.call55 rfl (fun W s => names_any H 104 3 (by omega) W s.agr) rfl fun v124 H124 hn124 u124 => ?_
                            obtain ⟨pn124, cn124, e124, _⟩ := hn124.sl
                            simp only [List.cons.injEq, and_true, List.length_map, namesB_len] at e124
                            subst e124
                            obtain ⟨bE, oE, hpE, mE⟩ := name_at hn124 (k := (nextB (nextB by_ M.ars.length).2 (arL M (nextB by_ M.ars.length).1)).1) (by omega)
                            subst hpE
                            refine .yv (.indexSl Fx.sl56 rfl rfl (i := (nextB (nextB by_ M.ars.length).2 (arL M (nextB by_ M.ars.length).1)).1) rfl (by omega) (q := oE + (nextB (nextB by_ M.ars.length).2 (arL M (nextB by_ M.ars.length).1)).1 * 1) rfl) rfl <|
                              .yv (.loadM rfl Fx.agg9 mE (k := 0) rfl rfl) rfl <| .h1 <| .c3 (X := Value × Value × Hp) Fx.call113 rfl (fun W s => numbers_st hM.1 (arN M (nextB by_ M.ars.length).1 (nextB (nextB by_ M.ars.length).2 (arL M (nextB by_ M.ars.length).1)).1) (by omega) (hz119.up u124.up)  (s.pickT (hd := [_, _, _]) (tl := bs) (hd' := [_, _, _]) [1, 0, 2] rfl rfl)) rfl (fun z139 hz139 => (.yv (.loadM rfl Fx.agg9 (mE.up hz139.1.up) (k := 0) rfl rfl) <|
                              .yv (.indexSl Fx.sl56 rfl rfl (i := (nextB (nextB by_ M.ars.length).2 (arL M (nextB by_ M.ars.length).1)).1) rfl (by omega) (q := oE + (nextB (nextB by_ M.ars.length).2 (arL M (nextB by_ M.ars.length).1)).1 * 1) rfl) <|
                              .yv (.load (v := strV [UInt8.ofNat (97 + (nextB by_ M.ars.length).1)]) rfl Fx.agg9 (.tail _ <| .head _) (abc_at (by omega))) <| .yv (.indexSl Fx.sl56 rfl rfl (i := (nextB by_ M.ars.length).1) rfl (by omega) (q := (nextB by_ M.ars.length).1) (by omega)) <|
                              .done (by kernel_rfl) <| .done (by kernel_rfl) <| .done (by kernel_rfl) <| .done (by kernel_rfl) <| .done (by kernel_rfl) <| .done (by kernel_rfl) <| .done (by kernel_rfl) <|
                              .done (by kernel_rfl) <| .done (by kernel_rfl) <| .done (by kernel_rfl) <| .done (by kernel_rfl) <| .yv (.move rfl) <| .yv (.move rfl) <| .nl)) fun z139 hz139 => ?_
                            obtain ⟨x139, v139, H139⟩ := z139
                            obtain ⟨u139, ⟨xs139, rz139, rs139, rl139⟩, q139⟩ := hz139
                            dsimp only at u139 rz139 rs139 q139 ⊢
                            obtain ⟨pn139, cn139, rfl⟩ := rs139.sl
                            refine .yv (.build rfl (Fx.bld104_0_1_2_3 _ _ _ _ _ _)) rfl <| .fn (tl := [_]) rfl <| .sW (.tail <| .tail <| .head) rfl rfl Fx.size104 (by simp [Value.oneCell', strV]) rfl <|
                              .nl <| .tN <| .rt <| .bR <| .tR <| ?_
                            refine At.pt (hd := [_, _, _]) (tl := bs) (hd' := [_, _]) [2, 0] rfl rfl ?_
                            exact Sx.ret1 (.inl rfl) rfl (.cell rfl Fx.agg104 (.head _) rfl) fun W t => ⟨(_, _, H139), by rw [show stmT M k d bd by_ lf = _ from by rw [stmT, if_neg (by omega), if_neg (by omega), if_neg (by omega), if_neg (by omega), if_neg (by omega), if_pos (by omega)], senT]; exact ⟨(u124.trans u139), sm_shut (kd := 6) (nm := [UInt8.ofNat (97 + (nextB by_ M.ars.length).1)]) (hd := (nmB 104 (nextB (nextB by_ M.ars.length).2 (arL M (nextB by_ M.ars.length).1)).1)) (ex := _) (th := []) (el := []) (by first | decide | simp [nmB]) (by first | decide | simp [nmB]) (rs139.rep rz139 (by rw [List.length_map]; exact rl139)) (Rep.empty (by decide)) (Rep.empty (by decide)), q139, hlf⟩, rfl, by rw [show stmT M k d bd by_ lf = _ from by rw [stmT, if_neg (by omega), if_neg (by omega), if_neg (by omega), if_neg (by omega), if_neg (by omega), if_pos (by omega)], senT]; exact t.drop⟩
                          ·
                            refine .ct (X := Value) Fx.call55 rfl (fun W s => names_any H 104 3 (by omega) W s.agr) rfl fun v124 H124 hn124 u124 => ?_
                            obtain ⟨pn124, cn124, e124, _⟩ := hn124.sl
                            simp only [List.cons.injEq, and_true, List.length_map, namesB_len] at e124
                            subst e124
                            obtain ⟨bE, oE, hpE, mE⟩ := name_at hn124 (k := (nextB (nextB by_ M.ars.length).2 (arL M (nextB by_ M.ars.length).1)).1) (by omega)
                            subst hpE
                            refine .yv (.indexSl Fx.sl56 rfl rfl (i := (nextB (nextB by_ M.ars.length).2 (arL M (nextB by_ M.ars.length).1)).1) rfl (by omega) (q := oE + (nextB (nextB by_ M.ars.length).2 (arL M (nextB by_ M.ars.length).1)).1 * 1) rfl) rfl <|
                              .yv (.loadM rfl Fx.agg9 mE (k := 0) rfl rfl) rfl <| .h ?_ (.h ?_ .nn)
                            ·
                              refine .bl rfl (Fx.bsl56_3 _ _ _) rfl fun b120 => .yv (.indexSl Fx.sl56 rfl rfl (i := (nextB by_ M.ars.length).1) rfl (by omega) (q := (nextB by_ M.ars.length).1) (by omega)) rfl <|
                                .yv (.load (v := strV [UInt8.ofNat (97 + (nextB by_ M.ars.length).1)]) rfl Fx.agg9 (.head _) (abc_at (by omega))) rfl <| .h1 <| .c3 (X := Value × Value × Hp) Fx.call113 rfl (fun W s => numbers_st hM.1 (arN M (nextB by_ M.ars.length).1 (nextB (nextB by_ M.ars.length).2 (arL M (nextB by_ M.ars.length).1)).1) (by omega) (hz119.up u124.up)  (s.pickT (hd := [_, _, _]) (tl := bs) (hd' := [_, _, _]) [1, 0, 2] rfl rfl)) rfl (fun z139 hz139 => (.yv (.load (v := strV [UInt8.ofNat (97 + (nextB by_ M.ars.length).1)]) rfl Fx.agg9 (.tail _ <|
                                .head _) (abc_at (by omega))) <| .yv (.indexSl Fx.sl56 rfl rfl (i := (nextB by_ M.ars.length).1) rfl (by omega) (q := (nextB by_ M.ars.length).1) (by omega)) <|
                                .yv (.loadM rfl Fx.agg9 (mE.up hz139.1.up) (k := 0) rfl rfl) <| .yv (.indexSl Fx.sl56 rfl rfl (i := (nextB (nextB by_ M.ars.length).2 (arL M (nextB by_ M.ars.length).1)).1) rfl (by omega) (q := oE + (nextB (nextB by_ M.ars.length).2 (arL M (nextB by_ M.ars.length).1)).1 * 1) rfl) <|
                                .done (by kernel_rfl) <| .done (by kernel_rfl) <| .done (by kernel_rfl) <| .done (by kernel_rfl) <| .done (by kernel_rfl) <| .done (by kernel_rfl) <| .done (by kernel_rfl) <|
                                .done (by kernel_rfl) <| .done (by kernel_rfl) <| .done (by kernel_rfl) <| .done (by kernel_rfl) <| .yv (.move rfl) <| .yv (.move rfl) <| .nl)) fun z139 hz139 => ?_
                              obtain ⟨x139, v139, H139⟩ := z139
                              obtain ⟨u139, ⟨xs139, rz139, rs139, rl139⟩, q139⟩ := hz139
                              dsimp only at u139 rz139 rs139 q139 ⊢
                              obtain ⟨pn139, cn139, rfl⟩ := rs139.sl
                              refine .yv (.build rfl (Fx.bld104_0_1_2_3 _ _ _ _ _ _)) rfl <| .fn (tl := [_]) rfl <| .sW (.tail <| .tail <| .head) rfl rfl Fx.size104 (by simp [Value.oneCell', strV]) rfl <|
                                .nl <| .tN <| .rt <| .bR <| .tR <| ?_
                              refine At.pt (hd := [_, _, _]) (tl := bs) (hd' := [_, _]) [2, 0] rfl rfl ?_
                              exact Sx.ret1 (.inl rfl) rfl (.cell rfl Fx.agg104 (.head _) rfl) fun W t => ⟨(_, _, H139), by rw [show stmT M k d bd by_ lf = _ from by rw [stmT, if_neg (by omega), if_neg (by omega), if_neg (by omega), if_neg (by omega), if_neg (by omega), if_pos (by omega)], senT]; exact ⟨(u124.trans u139), sm_shut (kd := 6) (nm := [UInt8.ofNat (97 + (nextB by_ M.ars.length).1)]) (hd := (nmB 104 (nextB (nextB by_ M.ars.length).2 (arL M (nextB by_ M.ars.length).1)).1)) (ex := _) (th := []) (el := []) (by first | decide | simp [nmB]) (by first | decide | simp [nmB]) (rs139.rep rz139 (by rw [List.length_map]; exact rl139)) (Rep.empty (by decide)) (Rep.empty (by decide)), q139, hlf⟩, rfl, by rw [show stmT M k d bd by_ lf = _ from by rw [stmT, if_neg (by omega), if_neg (by omega), if_neg (by omega), if_neg (by omega), if_neg (by omega), if_pos (by omega)], senT]; exact t.drop⟩
                            ·
                              refine .c3 (X := Value × Value × Hp) Fx.call113 rfl (fun W s => numbers_st hM.1 (arN M (nextB by_ M.ars.length).1 (nextB (nextB by_ M.ars.length).2 (arL M (nextB by_ M.ars.length).1)).1) (by omega) (hz119.up u124.up)  (s.pickT (hd := [_, _]) (tl := bs) (hd' := [_, _]) [0, 1] rfl rfl)) rfl (fun z139 hz139 => (.yv (.loadM rfl Fx.agg9 (mE.up hz139.1.up) (k := 0) rfl rfl) <|
                                .yv (.indexSl Fx.sl56 rfl rfl (i := (nextB (nextB by_ M.ars.length).2 (arL M (nextB by_ M.ars.length).1)).1) rfl (by omega) (q := oE + (nextB (nextB by_ M.ars.length).2 (arL M (nextB by_ M.ars.length).1)).1 * 1) rfl) <|
                                .done (by kernel_rfl) <| .done (by kernel_rfl) <| .done (by kernel_rfl) <| .done (by kernel_rfl) <| .done (by kernel_rfl) <| .done (by kernel_rfl) <| .done (by kernel_rfl) <|
                                .done (by kernel_rfl) <| .done (by kernel_rfl) <| .done (by kernel_rfl) <| .done (by kernel_rfl) <| .yv (.move rfl) <| .yv (.move rfl) <| .nl)) fun z139 hz139 => ?_
                              obtain ⟨x139, v139, H139⟩ := z139
                              obtain ⟨u139, ⟨xs139, rz139, rs139, rl139⟩, q139⟩ := hz139
                              dsimp only at u139 rz139 rs139 q139 ⊢
                              obtain ⟨pn139, cn139, rfl⟩ := rs139.sl
                              refine .h1 <| .bl rfl (Fx.bsl56_3 _ _ _) rfl fun b120 => .yv (.indexSl Fx.sl56 rfl rfl (i := (nextB by_ M.ars.length).1) rfl (by omega) (q := (nextB by_ M.ars.length).1) (by omega)) rfl <|
                                .yv (.load (v := strV [UInt8.ofNat (97 + (nextB by_ M.ars.length).1)]) rfl Fx.agg9 (.head _) (abc_at (by omega))) rfl <| .yv (.build rfl (Fx.bld104_0_1_2_3 _ _ _ _ _ _)) rfl <|
                                .fn (tl := [_]) rfl <| .sW (.tail <| .tail <| .head) rfl rfl Fx.size104 (by simp [Value.oneCell', strV]) rfl <| .nl <| .tN <| .rt <| .bR <| .tR <| ?_
                              refine At.pt (hd := [_, _, _]) (tl := bs) (hd' := [_, _]) [2, 1] rfl rfl ?_
                              exact Sx.ret1 (.inl rfl) rfl (.cell rfl Fx.agg104 (.head _) rfl) fun W t => ⟨(_, _, H139), by rw [show stmT M k d bd by_ lf = _ from by rw [stmT, if_neg (by omega), if_neg (by omega), if_neg (by omega), if_neg (by omega), if_neg (by omega), if_pos (by omega)], senT]; exact ⟨(u124.trans u139), sm_shut (kd := 6) (nm := [UInt8.ofNat (97 + (nextB by_ M.ars.length).1)]) (hd := (nmB 104 (nextB (nextB by_ M.ars.length).2 (arL M (nextB by_ M.ars.length).1)).1)) (ex := _) (th := []) (el := []) (by first | decide | simp [nmB]) (by first | decide | simp [nmB]) (rs139.rep rz139 (by rw [List.length_map]; exact rl139)) (Rep.empty (by decide)) (Rep.empty (by decide)), q139, hlf⟩, rfl, by rw [show stmT M k d bd by_ lf = _ from by rw [stmT, if_neg (by omega), if_neg (by omega), if_neg (by omega), if_neg (by omega), if_neg (by omega), if_pos (by omega)], senT]; exact t.drop⟩
                        · have q96 : ¬ (k = 8 ∨ k = 9) := by rw [h96] at e96; exact of_decide_eq_false e96.symm
                          refine .sq <| .rg <| .m rfl rfl <| .yv (.eql rfl rfl) rfl <| .a rfl rfl <| .nl <| .tN <| .cd rfl (fun h141 => ?_) (fun h141 => ?_)
                          · try simp only [decide_eq_true_eq] at h141
                            refine .sq <| ?_
                            obtain ⟨bA, oA, pR, cR, hpA, mA, hR⟩ := ar_at hAr hM.2.2.2.1
                            subst hpA
                            have hal := hM.len hM.2.2.2.1
                            have hc := hM.2.2.2.1
                            refine .fl (trip := [(_, _, _), (_, _, _), (_, _, _), (_, _, _), (_, _, _), (_, _, _), (_, _, _), (_, _, _), (_, _, _), (_, _, _), (_, _, _), (_, _, _), (_, _, _)]) 13 [(0, 0), (1, 0), (2, 0), (3, 0), (4, 0), (5, 0), (6, 0), (7, 0), (8, 0), (9, 0), (10, 0), (11, 0), (12, 2)] (by kernel_rfl) (by kernel_rfl) rfl <|
                              .m rfl rfl <| .m rfl rfl <| .yv (.nilCheck rfl) rfl <| .yv (.fieldAddr rfl Fx.field142_4) rfl <| .yv (.load rfl Fx.agg136 (.head _) rfl) rfl <| .m rfl rfl <| .yv (.nilCheck rfl) rfl <|
                              .yv (.fieldAddr rfl Fx.field142_3) rfl <| .yv (.load rfl Fx.agg3 (.head _) rfl) rfl <| .yv (.indexSl Fx.sl136 rfl rfl (i := M.own) rfl (by omega) (q := oA + M.own * 1) rfl) rfl <|
                              .yv (.loadM rfl Fx.agg137 mA (k := 0) rfl rfl) rfl <| .yv (.lenSl Fx.sl137 rfl) rfl <| .cs (X := Value) Fx.call96 rfl (fun W s => next_st (arL M M.own) hal.1 hb  (s.pickT (hd := [_, _]) (tl := bs) (hd' := [_, _]) [0, 1] rfl rfl)) rfl fun z156 hz156 => ?_
                            have hh := nextB_lt by_ hal.1
                            have hn2 := hM.num hM.2.2.2.1 hh
                            obtain ⟨bR, oR, hpR, mR⟩ := arn_at hR hh
                            subst hpR
                            refine .fn (tl := [_]) rfl <| .a rfl rfl <| .nl <| .tN <| .sq <| .rg <| .m rfl rfl <| .cs (X := List Value × Value × Hp) Fx.call112 rfl (fun W s => num_any M hM.1 2 (by decide) H w0 W _ b _ _ _ _ hz156  (s.pickT (hd := [_, _]) (tl := bs) (hd' := [_, _]) [0, 1] rfl rfl)) rfl fun z158 hz158 => ?_
                            obtain ⟨x158, v158, H158⟩ := z158
                            obtain ⟨u158, r158, q158⟩ := hz158
                            dsimp only at u158 r158 q158 ⊢
                            generalize hE158 : (numE M 2 (nextB by_ (arL M M.own)).2).1 = e158 at r158
                            obtain ⟨op158, nm158, n158, a158⟩ := e158
                            obtain ⟨p158, c158, rfl, hs158, hl158⟩ := ex_open r158
                            have mA2 := mA.up u158.up
                            have mR2 := mR.up u158.up
                            refine .al Fx.zero26 rfl fun b13 => .sW .head rfl rfl Fx.size26 (by simp [Value.oneCell', strV]) rfl <| .nl <| .tN <| .sq <| .ft (p := .light _ _ (.light _ _ (.light _ _ (.light _ _ (.light _ _ (.light _ _ (.light _ _ (.light _ _ (.light _ _ (.light _ _ (.light _ _ (.light _ _ (.light _ _ (.light _ _ (.light _ _ (.light _ _ (.alt _ _ _ (.light _ _ (.light _ _ (.alt _ _ _ (.alt _ _ _ (.alt _ _ _ (.light _ _ (.done)) (.no)) (.no)) (.alt _ _ _ (.alt _ _ _ (.alt _ _ _ (.light _ _ (.done)) (.no)) (.no)) (.no))))) (.alt _ _ _ (.alt _ _ _ (.light _ _ (.light _ _ (.alt _ _ _ (.alt _ _ _ (.light _ _ (.done)) (.no)) (.no)))) (.no)) (.no))))))))))))))))))) 23 (.light 1 (.light 4 (.light 6 (.light 7 (.light 8 (.light 9 (.light 10 (.light 11 (.light 12 (.light 13 (.light 14 (.light 15 (.light 16 (.light 17 (.light 18 (.light 19 (.alt 0 0 (.light 2 (.light 3 (.alt 5 0 (.alt 20 2 (.alt 21 2 (.light 22 (.done)) (.no)) (.no)) (.alt 20 2 (.alt 5 0 (.alt 21 2 (.light 22 (.done)) (.no)) (.no)) (.no))))) (.alt 5 0 (.alt 0 0 (.light 2 (.light 3 (.alt 20 2 (.alt 21 2 (.light 22 (.done)) (.no)) (.no)))) (.no)) (.no))))))))))))))))))) (by kernel_rfl) (by kernel_rfl) rfl <|
                              .m rfl rfl <| .yv (.loadW rfl Fx.agg26 (.head _) rfl) rfl <| .m rfl rfl <| .m rfl rfl <| .yv (.nilCheck rfl) rfl <| .yv (.fieldAddr rfl Fx.field142_4) rfl <| .yv (.load rfl Fx.agg136 (.tail _ <|
                              .head _) rfl) rfl <| .m rfl rfl <| .yv (.nilCheck rfl) rfl <| .yv (.fieldAddr rfl Fx.field142_3) rfl <| .yv (.load rfl Fx.agg3 (.tail _ <| .head _) rfl) rfl <|
                              .yv (.indexSl Fx.sl136 rfl rfl (i := M.own) rfl (by omega) (q := oA + M.own * 1) rfl) rfl <| .yv (.loadM rfl Fx.agg137 mA2 (k := 0) rfl rfl) rfl <| .m rfl rfl <|
                              .yv (.indexSl Fx.sl137 rfl rfl (i := (nextB by_ (arL M M.own)).1) rfl (by omega) (q := oR + (nextB by_ (arL M M.own)).1 * 1) rfl) rfl <| .yv (.loadM rfl Fx.agg3 mR2 (k := 0) rfl rfl) rfl <|
                              .h ?_ (.h ?_ .nn)
                            ·
                              refine .ct (X := Value) Fx.call55 rfl (fun W s => names_any H158 104 3 (by omega) W s.agr) rfl fun v159 H159 hn159 u159 => ?_
                              obtain ⟨pn159, cn159, e159, _⟩ := hn159.sl
                              simp only [List.cons.injEq, and_true, List.length_map, namesB_len] at e159
                              subst e159
                              obtain ⟨bE, oE, hpE, mE⟩ := name_at hn159 (k := (nextB by_ (arL M M.own)).1) (by omega)
                              subst hpE
                              refine .yv (.indexSl Fx.sl56 rfl rfl (i := (nextB by_ (arL M M.own)).1) rfl (by omega) (q := oE + (nextB by_ (arL M M.own)).1 * 1) rfl) rfl <| .yv (.loadM rfl Fx.agg9 mE (k := 0) rfl rfl) rfl <|
                                .h ?_ (.h ?_ .nn)
                              ·
                                refine .blR rfl (Fx.bsl24_1 _ _ _ _) rfl (z := 4) rfl (by decide) fun b164 => .h1 <| .c3 (X := Value × Value × Hp) Fx.call113 rfl (fun W s => numbers_st hM.1 (arN M M.own (nextB by_ (arL M M.own)).1) (by omega) (q158.up u159.up)  (s.pickT (hd := [_, _, _, _]) (tl := bs) (hd' := [_, _, _, _]) [2, 0, 1, 3] rfl rfl)) rfl (fun z179 hz179 => (.yv (.loadM rfl Fx.agg9 (mE.up hz179.1.up) (k := 0) rfl rfl) <|
                                  .yv (.indexSl Fx.sl56 rfl rfl (i := (nextB by_ (arL M M.own)).1) rfl (by omega) (q := oE + (nextB by_ (arL M M.own)).1 * 1) rfl) <| .done (by kernel_rfl) <| .done (by kernel_rfl) <|
                                  .done (by kernel_rfl) <| .done (by kernel_rfl) <| .done (by kernel_rfl) <| .done (by kernel_rfl) <| .done (by kernel_rfl) <| .done (by kernel_rfl) <| .done (by kernel_rfl) <|
                                  .done (by kernel_rfl) <| .done (by kernel_rfl) <| .done (by kernel_rfl) <| .done (by kernel_rfl) <| .done (by kernel_rfl) <| .yv (.loadW rfl Fx.agg26 (.tail _ <|
                                  .tail _ <| .head _) rfl) <| .yv (.move rfl) <| .nl)) fun z179 hz179 => ?_
                                obtain ⟨x179, v179, H179⟩ := z179
                                obtain ⟨u179, ⟨xs179, rz179, rs179, rl179⟩, q179⟩ := hz179
                                dsimp only at u179 rz179 rs179 q179 ⊢
                                obtain ⟨pn179, cn179, rfl⟩ := rs179.sl
                                refine .h1 <| .apR (news := xs179) Fx.row24 rfl (fun _ => (.tail <| .head)) rfl rs179 (by rw [rz179.len, List.length_map, rl179]) rz179.one (by simp [maxLen]; omega) (by omega) rfl (fun _ => (.yv (.loadM rfl Fx.agg9 (mE.up u179.up) (k := 0) rfl rfl) <|
                                  .yv (.indexSl Fx.sl56 rfl rfl (i := (nextB by_ (arL M M.own)).1) rfl (by omega) (q := oE + (nextB by_ (arL M M.own)).1 * 1) rfl) <| .done (by kernel_rfl) <| .done (by kernel_rfl) <|
                                  .done (by kernel_rfl) <| .done (by kernel_rfl) <| .done (by kernel_rfl) <| .done (by kernel_rfl) <| .done (by kernel_rfl) <| .done (by kernel_rfl) <| .done (by kernel_rfl) <|
                                  .done (by kernel_rfl) <| .done (by kernel_rfl) <| .done (by kernel_rfl) <| .done (by kernel_rfl) <| .done (by kernel_rfl) <| .done (by kernel_rfl) <| .yv (.move rfl) <|
                                  .nl)) fun p180 c180 => .yv (.build rfl (Fx.bld104_0_2_3 _ _ _ _ _)) rfl <| .fn (tl := [_]) rfl <| .sW (.tail <| .tail <| .tail <| .head) rfl rfl Fx.size104 (by simp [Value.oneCell', strV]) rfl <|
                                  .nl <| .tN <| .rt <| .bR <| .tR <| ?_
                                refine At.pt (hd := [_, _, _, _]) (tl := bs) (hd' := [_, _, _]) [1, 3, 0] rfl rfl ?_
                                refine Sx.freezeAt fun Hf uf mf => ?_
                                exact Sx.ret1 (.inl rfl) rfl (.cell rfl Fx.agg104 (.head _) rfl) fun W t => ⟨(_, _, Hf), by rw [show stmT M k d bd by_ lf = _ from by rw [stmT, if_neg (by omega), if_neg (by omega), if_neg (by omega), if_neg (by omega), if_neg (by omega), if_neg (by omega), if_pos (by omega)], aftT, hE158]; exact ⟨(u158.trans (u159.trans u179)).trans uf, sm_shut (kd := 7) (nm := []) (hd := (nmB 104 (nextB by_ (arL M M.own)).1)) (ex := (.mk op158 nm158 n158 a158 :: (numL M (arN M M.own (nextB by_ (arL M M.own)).1) _).1)) (th := []) (el := []) (by first | decide | simp [nmB]) (by first | decide | simp [nmB]) (mf.rep (z := 4) (RepZ.app (RepZ.single (((r158.up u159.up).up u179.up).up uf.up) rfl) (rz179.up uf.up)) (by simp; omega)) (Rep.empty (by decide)) (Rep.empty (by decide)), q179.up uf.up, hlf⟩, rfl, by rw [show stmT M k d bd by_ lf = _ from by rw [stmT, if_neg (by omega), if_neg (by omega), if_neg (by omega), if_neg (by omega), if_neg (by omega), if_neg (by omega), if_pos (by omega)], aftT, hE158]; exact t.drop⟩
                              ·
                                refine .c3 (X := Value × Value × Hp) Fx.call113 rfl (fun W s => numbers_st hM.1 (arN M M.own (nextB by_ (arL M M.own)).1) (by omega) (q158.up u159.up)  (s.pickT (hd := [_, _, _]) (tl := bs) (hd' := [_, _, _]) [1, 0, 2] rfl rfl)) rfl (fun z179 hz179 => (.yv (.loadM rfl Fx.agg9 (mE.up hz179.1.up) (k := 0) rfl rfl) <|
                                  .yv (.indexSl Fx.sl56 rfl rfl (i := (nextB by_ (arL M M.own)).1) rfl (by omega) (q := oE + (nextB by_ (arL M M.own)).1 * 1) rfl) <| .done (by kernel_rfl) <| .done (by kernel_rfl) <|
                                  .done (by kernel_rfl) <| .done (by kernel_rfl) <| .done (by kernel_rfl) <| .done (by kernel_rfl) <| .done (by kernel_rfl) <| .done (by kernel_rfl) <| .done (by kernel_rfl) <|
                                  .done (by kernel_rfl) <| .done (by kernel_rfl) <| .done (by kernel_rfl) <| .done (by kernel_rfl) <| .done (by kernel_rfl) <| .yv (.loadW rfl Fx.agg26 (.tail _ <|
                                  .head _) rfl) <| .yv (.move rfl) <| .nl)) fun z179 hz179 => ?_
                                obtain ⟨x179, v179, H179⟩ := z179
                                obtain ⟨u179, ⟨xs179, rz179, rs179, rl179⟩, q179⟩ := hz179
                                dsimp only at u179 rz179 rs179 q179 ⊢
                                obtain ⟨pn179, cn179, rfl⟩ := rs179.sl
                                refine .h1 <| .blR rfl (Fx.bsl24_1 _ _ _ _) rfl (z := 4) rfl (by decide) fun b164 => .h1 <| .apR (news := xs179) Fx.row24 rfl (fun _ => .head) rfl rs179 (by rw [rz179.len, List.length_map, rl179]) rz179.one (by simp [maxLen]; omega) (by omega) rfl (fun _ => (.yv (.loadM rfl Fx.agg9 (mE.up u179.up) (k := 0) rfl rfl) <|
                                  .yv (.indexSl Fx.sl56 rfl rfl (i := (nextB by_ (arL M M.own)).1) rfl (by omega) (q := oE + (nextB by_ (arL M M.own)).1 * 1) rfl) <| .done (by kernel_rfl) <| .done (by kernel_rfl) <|
                                  .done (by kernel_rfl) <| .done (by kernel_rfl) <| .done (by kernel_rfl) <| .done (by kernel_rfl) <| .done (by kernel_rfl) <| .done (by kernel_rfl) <| .done (by kernel_rfl) <|
                                  .done (by kernel_rfl) <| .done (by kernel_rfl) <| .done (by kernel_rfl) <| .done (by kernel_rfl) <| .done (by kernel_rfl) <| .done (by kernel_rfl) <| .yv (.move rfl) <|
                                  .nl)) fun p180 c180 => .yv (.build rfl (Fx.bld104_0_2_3 _ _ _ _ _)) rfl <| .fn (tl := [_]) rfl <| .sW (.tail <| .tail <| .tail <| .head) rfl rfl Fx.size104 (by simp [Value.oneCell', strV]) rfl <|
                                  .nl <| .tN <| .rt <| .bR <| .tR <| ?_
                                refine At.pt (hd := [_, _, _, _]) (tl := bs) (hd' := [_, _, _]) [0, 3, 1] rfl rfl ?_
                                refine Sx.freezeAt fun Hf uf mf => ?_
                                exact Sx.ret1 (.inl rfl) rfl (.cell rfl Fx.agg104 (.head _) rfl) fun W t => ⟨(_, _, Hf), by rw [show stmT M k d bd by_ lf = _ from by rw [stmT, if_neg (by omega), if_neg (by omega), if_neg (by omega), if_neg (by omega), if_neg (by omega), if_neg (by omega), if_pos (by omega)], aftT, hE158]; exact ⟨(u158.trans (u159.trans u179)).trans uf, sm_shut (kd := 7) (nm := []) (hd := (nmB 104 (nextB by_ (arL M M.own)).1)) (ex := (.mk op158 nm158 n158 a158 :: (numL M (arN M M.own (nextB by_ (arL M M.own)).1) _).1)) (th := []) (el := []) (by first | decide | simp [nmB]) (by first | decide | simp [nmB]) (mf.rep (z := 4) (RepZ.app (RepZ.single (((r158.up u159.up).up u179.up).up uf.up) rfl) (rz179.up uf.up)) (by simp; omega)) (Rep.empty (by decide)) (Rep.empty (by decide)), q179.up uf.up, hlf⟩, rfl, by rw [show stmT M k d bd by_ lf = _ from by rw [stmT, if_neg (by omega), if_neg (by omega), if_neg (by omega), if_neg (by omega), if_neg (by omega), if_neg (by omega), if_pos (by omega)], aftT, hE158]; exact t.drop⟩
                            ·
                              refine .blR rfl (Fx.bsl24_1 _ _ _ _) rfl (z := 4) rfl (by decide) fun b164 => .h1 <| .ct (X := Value) Fx.call55 rfl (fun W s => names_any H158 104 3 (by omega) W s.agr) rfl fun v159 H159 hn159 u159 => ?_
                              obtain ⟨pn159, cn159, e159, _⟩ := hn159.sl
                              simp only [List.cons.injEq, and_true, List.length_map, namesB_len] at e159
                              subst e159
                              obtain ⟨bE, oE, hpE, mE⟩ := name_at hn159 (k := (nextB by_ (arL M M.own)).1) (by omega)
                              subst hpE
                              refine .yv (.indexSl Fx.sl56 rfl rfl (i := (nextB by_ (arL M M.own)).1) rfl (by omega) (q := oE + (nextB by_ (arL M M.own)).1 * 1) rfl) rfl <| .yv (.loadM rfl Fx.agg9 mE (k := 0) rfl rfl) rfl <|
                                .h1 <| .c3 (X := Value × Value × Hp) Fx.call113 rfl (fun W s => numbers_st hM.1 (arN M M.own (nextB by_ (arL M M.own)).1) (by omega) (q158.up u159.up)  (s.pickT (hd := [_, _, _, _]) (tl := bs) (hd' := [_, _, _, _]) [2, 0, 1, 3] rfl rfl)) rfl (fun z179 hz179 => (.yv (.loadM rfl Fx.agg9 (mE.up hz179.1.up) (k := 0) rfl rfl) <|
                                .yv (.indexSl Fx.sl56 rfl rfl (i := (nextB by_ (arL M M.own)).1) rfl (by omega) (q := oE + (nextB by_ (arL M M.own)).1 * 1) rfl) <| .done (by kernel_rfl) <| .done (by kernel_rfl) <|
                                .done (by kernel_rfl) <| .done (by kernel_rfl) <| .done (by kernel_rfl) <| .done (by kernel_rfl) <| .done (by kernel_rfl) <| .done (by kernel_rfl) <| .done (by kernel_rfl) <|
                                .done (by kernel_rfl) <| .done (by kernel_rfl) <| .done (by kernel_rfl) <| .done (by kernel_rfl) <| .done (by kernel_rfl) <| .yv (.loadW rfl Fx.agg26 (.tail _ <|
                                .tail _ <| .head _) rfl) <| .yv (.move rfl) <| .nl)) fun z179 hz179 => ?_
                              obtain ⟨x179, v179, H179⟩ := z179
                              obtain ⟨u179, ⟨xs179, rz179, rs179, rl179⟩, q179⟩ := hz179
                              dsimp only at u179 rz179 rs179 q179 ⊢
                              obtain ⟨pn179, cn179, rfl⟩ := rs179.sl
                              refine .h1 <| .apR (news := xs179) Fx.row24 rfl (fun _ => (.tail <| .head)) rfl rs179 (by rw [rz179.len, List.length_map, rl179]) rz179.one (by simp [maxLen]; omega) (by omega) rfl (fun _ => (.yv (.loadM rfl Fx.agg9 (mE.up u179.up) (k := 0) rfl rfl) <|
                                .yv (.indexSl Fx.sl56 rfl rfl (i := (nextB by_ (arL M M.own)).1) rfl (by omega) (q := oE + (nextB by_ (arL M M.own)).1 * 1) rfl) <| .done (by kernel_rfl) <| .done (by kernel_rfl) <|
                                .done (by kernel_rfl) <| .done (by kernel_rfl) <| .done (by kernel_rfl) <| .done (by kernel_rfl) <| .done (by kernel_rfl) <| .done (by kernel_rfl) <| .done (by kernel_rfl) <|
                                .done (by kernel_rfl) <| .done (by kernel_rfl) <| .done (by kernel_rfl) <| .done (by kernel_rfl) <| .done (by kernel_rfl) <| .done (by kernel_rfl) <| .yv (.move rfl) <|
                                .nl)) fun p180 c180 => .yv (.build rfl (Fx.bld104_0_2_3 _ _ _ _ _)) rfl <| .fn (tl := [_]) rfl <| .sW (.tail <| .tail <| .tail <| .head) rfl rfl Fx.size104 (by simp [Value.oneCell', strV]) rfl <|
                                .nl <| .tN <| .rt <| .bR <| .tR <| ?_
                              refine At.pt (hd := [_, _, _, _]) (tl := bs) (hd' := [_, _, _]) [1, 3, 0] rfl rfl ?_
                              refine Sx.freezeAt fun Hf uf mf => ?_
                              exact Sx.ret1 (.inl rfl) rfl (.cell rfl Fx.agg104 (.head _) rfl) fun W t => ⟨(_, _, Hf), by rw [show stmT M k d bd by_ lf = _ from by rw [stmT, if_neg (by omega), if_neg (by omega), if_neg (by omega), if_neg (by omega), if_neg (by omega), if_neg (by omega), if_pos (by omega)], aftT, hE158]; exact ⟨(u158.trans (u159.trans u179)).trans uf, sm_shut (kd := 7) (nm := []) (hd := (nmB 104 (nextB by_ (arL M M.own)).1)) (ex := (.mk op158 nm158 n158 a158 :: (numL M (arN M M.own (nextB by_ (arL M M.own)).1) _).1)) (th := []) (el := []) (by first | decide | simp [nmB]) (by first | decide | simp [nmB]) (mf.rep (z := 4) (RepZ.app (RepZ.single (((r158.up u159.up).up u179.up).up uf.up) rfl) (rz179.up uf.up)) (by simp; omega)) (Rep.empty (by decide)) (Rep.empty (by decide)), q179.up uf.up, hlf⟩, rfl, by rw [show stmT M k d bd by_ lf = _ from by rw [stmT, if_neg (by omega), if_neg (by omega), if_neg (by omega), if_neg (by omega), if_neg (by omega), if_neg (by omega), if_pos (by omega)], aftT, hE158]; exact t.drop⟩
                          · try simp only [decide_eq_false_iff_not] at h141
                            refine .cu (X := Bool) [(0, _), (1, _), (2, _), (6, _)] ⟨rfl, rfl, rfl, rfl, trivial⟩ (fun z => [(182, .bool z)]) (fun z => H) (fun z => (.box b (mkC M (.slice pA M.ars.length cA) bv (lf : Nat)) 142 :: .box b6 [.int .i64 0, .string ⟨#[]⟩, .string ⟨#[]⟩, .slice none 0 0, .slice none 0 0, .slice none 0 0] 104 :: bs)) (fun z => z = decide (k = 11 ∧ d < 3)) ?_ fun z hC => ?_
                            ·
                              refine .rg <| .m rfl rfl <| .yv (.eql rfl rfl) rfl <| .m rfl rfl <| .b2 (fun h185 => ?_) (fun h185 => ?_)
                              · try simp only [decide_eq_true_eq] at h185
                                exact .gd rfl rfl <| .yv (.move rfl) rfl <| .gd rfl rfl <| .yv (.lss rfl rfl) rfl <| .yv (.pickT rfl rfl) rfl <| .a rfl rfl <| .nl <| .tN <| .me _ ⟨rfl, trivial⟩ ⟨rfl, rfl, rfl, rfl, trivial⟩ (fun _ s => s) (by rw [Bool.eq_iff_iff, decide_eq_true_eq]; first | (rw [decide_eq_true_eq]; omega) | exact ⟨fun _ => by omega, fun _ => rfl⟩ | exact ⟨fun h => (by cases h), fun h => by omega⟩)
                              · try simp only [decide_eq_false_iff_not] at h185
                                exact .gF rfl rfl rfl rfl <| .gF rfl rfl rfl rfl <| .yv (.pickF rfl rfl) rfl <| .a rfl rfl <| .nl <| .tN <| .me _ ⟨rfl, trivial⟩ ⟨rfl, rfl, rfl, rfl, trivial⟩ (fun _ s => s) (by rw [Bool.eq_iff_iff, decide_eq_true_eq]; first | (rw [decide_eq_true_eq]; omega) | exact ⟨fun _ => by omega, fun _ => rfl⟩ | exact ⟨fun h => (by cases h), fun h => by omega⟩)
                            ·
                              have e182 := hC
                              refine .cd rfl (fun h182 => ?_) (fun h182 => ?_)
                              · have q182 : k = 11 ∧ d < 3 := by rw [h182] at e182; exact of_decide_eq_true e182.symm
                                refine .sq <| .sq <| .rg <| .m rfl rfl <| .cs (X := Value) Fx.call96 rfl (fun W s => next_st 2 (by decide) hb  (s.pickT (hd := [_, _]) (tl := bs) (hd' := [_, _]) [0, 1] rfl rfl)) rfl fun z190 hz190 => .yv (.eql rfl rfl) rfl <|
                                  .nl <| .tN <| .cd rfl (fun h191 => ?_) (fun h191 => ?_)
                                · try simp only [decide_eq_true_eq] at h191
                                  refine .sq <| .rg <| .m rfl rfl <| .cs (X := Value × Value × Hp) Fx.call113 rfl (fun W s => numbers_st hM.1 2 (by decide) hz190  (s.pickT (hd := [_, _]) (tl := bs) (hd' := [_, _]) [0, 1] rfl rfl)) rfl fun z193 hz193 => ?_
                                  obtain ⟨x193, v193, H193⟩ := z193
                                  obtain ⟨u193, ⟨xs193, rz193, rs193, rl193⟩, q193⟩ := hz193
                                  dsimp only at u193 rz193 rs193 q193 ⊢
                                  obtain ⟨pn193, cn193, rfl⟩ := rs193.sl
                                  refine .a rfl rfl <| .nl <| .tN <| .sq <| .rg <| .m rfl rfl <| .m rfl rfl <| .m rfl rfl <| .yv (.add rfl rfl (c := ((d + 1 : Nat) : Int)) ((w64 (by omega) (by omega)).trans (by omega))) rfl <|
                                    .cs (X := Value × Value × Hp) Fx.call75 rfl (fun W s => hbd (by omega) H193 w0 W _ b _ _ lf _ hlf (hAr.up u193.up) q193  (s.pickT (hd := [_, _]) (tl := bs) (hd' := [_, _]) [0, 1] rfl rfl)) rfl fun z198 hz198 => ?_
                                  obtain ⟨x198, v198, H198⟩ := z198
                                  obtain ⟨u198, r198, q198, l198⟩ := hz198
                                  dsimp only at u198 r198 q198 ⊢
                                  obtain ⟨pb198, cb198, eb198, _⟩ := r198.sl
                                  simp only [List.cons.injEq, and_true, List.length_map] at eb198
                                  subst eb198
                                  refine .yv (.build rfl (Fx.bld104_0_3_5 _ _ _ _ _ _ _)) rfl <| .sW (.tail <| .head) rfl rfl Fx.size104 (by simp [Value.oneCell', strV]) rfl <| .nl <| .tN <| .rt <|
                                    .tR <| .bR <| .tR <| ?_
                                  refine At.pt (hd := [_, _]) (tl := bs) (hd' := [_, _]) [1, 0] rfl rfl ?_
                                  exact Sx.ret1 (.inl rfl) rfl (.cell rfl Fx.agg104 (.head _) rfl) fun W t => ⟨(_, _, H198), by rw [show stmT M k d bd by_ lf = _ from by rw [stmT, if_neg (by omega), if_neg (by omega), if_neg (by omega), if_neg (by omega), if_neg (by omega), if_neg (by omega), if_neg (by omega), if_pos (by omega)], if_pos (by omega)]; exact ⟨(u193.trans u198), sm_shut (kd := 8) (nm := []) (hd := []) (ex := _) (th := []) (el := _) (by first | decide | simp [nmB]) (by first | decide | simp [nmB]) ((rs193.up u198.up).rep (rz193.up u198.up) (by rw [List.length_map]; exact rl193)) (Rep.empty (by decide)) r198, q198, l198⟩, rfl, by rw [show stmT M k d bd by_ lf = _ from by rw [stmT, if_neg (by omega), if_neg (by omega), if_neg (by omega), if_neg (by omega), if_neg (by omega), if_neg (by omega), if_neg (by omega), if_pos (by omega)], if_pos (by omega)]; exact t.drop⟩
                                · try simp only [decide_eq_false_iff_not] at h191
                                  refine .sk <| .tN <| .sq <| .rg <| .m rfl rfl <| .cs (X := Value × Hp) Fx.call114 rfl (fun W s => integer_st hM.1 hz190  (s.pickT (hd := [_, _]) (tl := bs) (hd' := [_, _]) [0, 1] rfl rfl)) rfl fun z201 hz201 => .a rfl rfl <|
                                    .nl <| .tN <| .sq <| .rg <| .m rfl rfl <| .cs (X := List Value × Value × Hp) Fx.call112 rfl (fun W s => num_any M hM.1 3 (by decide) z201.2 w0 W _ b _ _ _ _ hz201.2  (s.pickT (hd := [_, _]) (tl := bs) (hd' := [_, _]) [0, 1] rfl rfl)) rfl fun z203 hz203 => ?_
                                  obtain ⟨x203, v203, H203⟩ := z203
                                  obtain ⟨u203, r203, q203⟩ := hz203
                                  dsimp only at u203 r203 q203 ⊢
                                  generalize hE203 : (numE M 3 (nextB (nextB by_ 2).2 M.ints).2).1 = e203 at r203
                                  obtain ⟨op203, nm203, n203, a203⟩ := e203
                                  obtain ⟨p203, c203, rfl, hs203, hl203⟩ := ex_open r203
                                  refine .al Fx.zero26 rfl fun b16 => .sW .head rfl rfl Fx.size26 (by simp [Value.oneCell', strV]) rfl <| .nl <| .tN <| .sq <| .ft (p := .light _ _ (.light _ _ (.light _ _ (.light _ _ (.light _ _ (.alt _ _ _ (.alt _ _ _ (.light _ _ (.done)) (.no)) (.alt _ _ _ (.alt _ _ _ (.light _ _ (.done)) (.no)) (.no)))))))) 8 (.light 0 (.light 1 (.light 3 (.light 4 (.light 5 (.alt 2 0 (.alt 6 2 (.light 7 (.done)) (.no)) (.alt 6 2 (.alt 2 0 (.light 7 (.done)) (.no)) (.no)))))))) (by kernel_rfl) (by kernel_rfl) rfl <|
                                    .m rfl rfl <| .yv (.loadW rfl Fx.agg26 (.head _) rfl) rfl <| .m rfl rfl <| .m rfl rfl <| .yv (.add rfl rfl (c := ((d + 1 : Nat) : Int)) ((w64 (by omega) (by omega)).trans (by omega))) rfl <|
                                    .h ?_ (.h ?_ .nn)
                                  ·
                                    refine .bl rfl (Fx.bsl24_1 _ _ _ _) rfl fun b206 => .h1 <| .c3 (X := Value × Value × Hp) Fx.call75 rfl (fun W s => hbd (by omega) H203 w0 W _ b _ _ lf _ hlf (hAr.up (hz201.1.trans u203).up) q203  (s.pickT (hd := [_, _, _, _]) (tl := bs) (hd' := [_, _, _, _]) [2, 0, 1, 3] rfl rfl)) rfl (fun z210 hz210 => (.done (by kernel_rfl) <|
                                      .done (by kernel_rfl) <| .done (by kernel_rfl) <| .yv (.loadW rfl Fx.agg26 (.tail _ <| .tail _ <| .head _) rfl) <| .yv (.move rfl) <| .nl)) fun z210 hz210 => ?_
                                    obtain ⟨x210, v210, H210⟩ := z210
                                    obtain ⟨u210, r210, q210, l210⟩ := hz210
                                    dsimp only at u210 r210 q210 ⊢
                                    obtain ⟨pb210, cb210, eb210, _⟩ := r210.sl
                                    simp only [List.cons.injEq, and_true, List.length_map] at eb210
                                    subst eb210
                                    refine .yv (.build rfl (Fx.bld104_0_1_3_5 _ _ _ _ _ _ _ _)) rfl <| .fn (tl := [_]) rfl <| .sW (.tail <| .tail <| .tail <| .head) rfl rfl Fx.size104 (by simp [Value.oneCell', strV]) rfl <|
                                      .nl <| .tN <| .rt <| .bR <| .tR <| ?_
                                    refine At.pt (hd := [_, _, _, _]) (tl := bs) (hd' := [_, _, _]) [1, 3, 0] rfl rfl ?_
                                    refine Sx.freezeBox fun Hf uf mf => ?_
                                    exact Sx.ret1 (.inl rfl) rfl (.cell rfl Fx.agg104 (.head _) rfl) fun W t => ⟨(_, _, Hf), by rw [show stmT M k d bd by_ lf = _ from by rw [stmT, if_neg (by omega), if_neg (by omega), if_neg (by omega), if_neg (by omega), if_neg (by omega), if_neg (by omega), if_neg (by omega), if_pos (by omega)], if_neg (by omega), fetT, hE203]; exact ⟨(hz201.1.trans (u203.trans u210)).trans uf, sm_shut (kd := 9) (nm := (nmB 120 _)) (hd := []) (ex := [.mk op203 nm203 n203 a203]) (th := []) (el := _) (by first | decide | simp [nmB]) (by first | decide | simp [nmB]) (Rep.mk (n := 1) (c := 1) mf (.single ((r203.up (u210).up).up uf.up) rfl) rfl (Nat.le_refl _) (by decide)) (Rep.empty (by decide)) (r210.up uf.up), q210.up uf.up, l210⟩, rfl, by rw [show stmT M k d bd by_ lf = _ from by rw [stmT, if_neg (by omega), if_neg (by omega), if_neg (by omega), if_neg (by omega), if_neg (by omega), if_neg (by omega), if_neg (by omega), if_pos (by omega)], if_neg (by omega), fetT, hE203]; exact t.drop⟩
                                  ·
                                    refine .c3 (X := Value × Value × Hp) Fx.call75 rfl (fun W s => hbd (by omega) H203 w0 W _ b _ _ lf _ hlf (hAr.up (hz201.1.trans u203).up) q203  (s.pickT (hd := [_, _, _]) (tl := bs) (hd' := [_, _, _]) [1, 0, 2] rfl rfl)) rfl (fun z210 hz210 => (.done (by kernel_rfl) <|
                                      .done (by kernel_rfl) <| .done (by kernel_rfl) <| .yv (.loadW rfl Fx.agg26 (.tail _ <| .head _) rfl) <| .yv (.move rfl) <| .nl)) fun z210 hz210 => ?_
                                    obtain ⟨x210, v210, H210⟩ := z210
                                    obtain ⟨u210, r210, q210, l210⟩ := hz210
                                    dsimp only at u210 r210 q210 ⊢
                                    obtain ⟨pb210, cb210, eb210, _⟩ := r210.sl
                                    simp only [List.cons.injEq, and_true, List.length_map] at eb210
                                    subst eb210
                                    refine .h1 <| .bl rfl (Fx.bsl24_1 _ _ _ _) rfl fun b206 => .yv (.build rfl (Fx.bld104_0_1_3_5 _ _ _ _ _ _ _ _)) rfl <| .fn (tl := [_]) rfl <| .sW (.tail <| .tail <|
                                      .tail <| .head) rfl rfl Fx.size104 (by simp [Value.oneCell', strV]) rfl <| .nl <| .tN <| .rt <| .bR <| .tR <| ?_
                                    refine At.pt (hd := [_, _, _, _]) (tl := bs) (hd' := [_, _, _]) [0, 3, 1] rfl rfl ?_
                                    refine Sx.freezeBox fun Hf uf mf => ?_
                                    exact Sx.ret1 (.inl rfl) rfl (.cell rfl Fx.agg104 (.head _) rfl) fun W t => ⟨(_, _, Hf), by rw [show stmT M k d bd by_ lf = _ from by rw [stmT, if_neg (by omega), if_neg (by omega), if_neg (by omega), if_neg (by omega), if_neg (by omega), if_neg (by omega), if_neg (by omega), if_pos (by omega)], if_neg (by omega), fetT, hE203]; exact ⟨(hz201.1.trans (u203.trans u210)).trans uf, sm_shut (kd := 9) (nm := (nmB 120 _)) (hd := []) (ex := [.mk op203 nm203 n203 a203]) (th := []) (el := _) (by first | decide | simp [nmB]) (by first | decide | simp [nmB]) (Rep.mk (n := 1) (c := 1) mf (.single ((r203.up (u210).up).up uf.up) rfl) rfl (Nat.le_refl _) (by decide)) (Rep.empty (by decide)) (r210.up uf.up), q210.up uf.up, l210⟩, rfl, by rw [show stmT M k d bd by_ lf = _ from by rw [stmT, if_neg (by omega), if_neg (by omega), if_neg (by omega), if_neg (by omega), if_neg (by omega), if_neg (by omega), if_neg (by omega), if_pos (by omega)], if_neg (by omega), fetT, hE203]; exact t.drop⟩
                              · have q182 : ¬ (k = 11 ∧ d < 3) := by rw [h182] at e182; exact of_decide_eq_false e182.symm
                                refine .sq <| .rg <| .m rfl rfl <| .yv (.eql rfl rfl) rfl <| .m rfl rfl <| .b2 (fun h215 => ?_) (fun h215 => ?_)
                                · try simp only [decide_eq_true_eq] at h215
                                  refine .gd rfl rfl <| .yv (.move rfl) rfl <| .gd rfl rfl <| .cs (X := Value) Fx.call96 rfl (fun W s => next_st 3 (by decide) hb  (s.pickT (hd := [_, _]) (tl := bs) (hd' := [_, _]) [0, 1] rfl rfl)) rfl fun z217 hz217 => .gd rfl rfl <|
                                    .yv (.eql rfl rfl) rfl <| .yv (.pickT rfl rfl) rfl <| .a rfl rfl <| .nl <| .tN <| .cd rfl (fun h212 => ?_) (fun h212 => ?_)
                                  · try simp only [decide_eq_true_eq] at h212
                                    refine .sq <| .rg <| .yv (.build rfl (Fx.bld104_0 _)) rfl <| .sW (.tail <| .head) rfl rfl Fx.size104 (by simp [Value.oneCell', strV]) rfl <| .nl <| .tN <| .rt <|
                                      .bR <| .tR <| ?_
                                    refine At.pt (hd := [_, _]) (tl := bs) (hd' := [_, _]) [1, 0] rfl rfl ?_
                                    exact Sx.ret1 (.inl rfl) rfl (.cell rfl Fx.agg104 (.head _) rfl) fun W t => ⟨(_, _, H), by rw [show stmT M k d bd by_ lf = _ from by rw [stmT, if_neg (by omega), if_neg (by omega), if_neg (by omega), if_neg (by omega), if_neg (by omega), if_neg (by omega), if_neg (by omega), if_neg (by omega), if_pos (by omega)]]; exact ⟨.refl, sm_shut (kd := 10) (nm := []) (hd := []) (ex := []) (th := []) (el := []) (by first | decide | simp [nmB]) (by first | decide | simp [nmB]) (Rep.empty (by decide)) (Rep.empty (by decide)) (Rep.empty (by decide)), hz217, hlf⟩, rfl, by rw [show stmT M k d bd by_ lf = _ from by rw [stmT, if_neg (by omega), if_neg (by omega), if_neg (by omega), if_neg (by omega), if_neg (by omega), if_neg (by omega), if_neg (by omega), if_neg (by omega), if_pos (by omega)]]; exact t.drop⟩
                                  · try simp only [decide_eq_false_iff_not] at h212
                                    exact .sk <| .bN <| .tN <| .me _ trivial ⟨rfl, rfl, trivial⟩ (fun _ s => s) (by first | exact ⟨by rw [if_neg (by omega)]; exact hb, by omega⟩ | exact ⟨by rw [if_pos (by omega)]; exact hz217, by omega⟩)
                                · try simp only [decide_eq_false_iff_not] at h215
                                  exact .gF rfl rfl rfl rfl <| .gF rfl rfl rfl rfl <| .gF rfl rfl rfl rfl <| .yv (.pickF rfl rfl) rfl <| .a rfl rfl <| .nl <| .tN <| .cF rfl <| .sk <| .bN <| .tN <|
                                    .me _ trivial ⟨rfl, rfl, trivial⟩ (fun _ s => s) (by first | exact ⟨by rw [if_neg (by omega)]; exact hb, by omega⟩ | exact ⟨by rw [if_pos (by omega)]; exact hz217, by omega⟩)
  ·
    obtain ⟨hbz, hc1, hc2, hc3, hc4, hc5, hc6, hc7, hc8, hc9⟩ := hC
    generalize hb1 : (if k = 12 then (nextB by_ 3).2 else by_) = b1 at hbz
    refine .sq <| .rg <| .m rfl rfl <| .cs (X := Value × Hp) Fx.call114 rfl (fun W s => integer_st hM.1 hbz  (s.pickT (hd := [_, _]) (tl := bs) (hd' := [_, _]) [0, 1] rfl rfl)) rfl fun z222 hz222 => .a rfl rfl <|
      .nl <| .tN <| .sq <| .rg <| .m rfl rfl <| .m rfl rfl <| .cs (X := List Value × Value × Hp) Fx.call112 rfl (fun W s => num_any M hM.1 3 (by decide) z222.2 w0 W _ b _ _ _ _ hz222.2  (s.pickT (hd := [_, _]) (tl := bs) (hd' := [_, _]) [0, 1] rfl rfl)) rfl fun z225 hz225 => ?_
    obtain ⟨x225, v225, H225⟩ := z225
    obtain ⟨u225, r225, q225⟩ := hz225
    dsimp only at u225 r225 q225 ⊢
    generalize hE225 : (numE M 3 (nextB b1 M.ints).2).1 = e225 at r225
    obtain ⟨op225, nm225, n225, a225⟩ := e225
    obtain ⟨p225, c225, rfl, hs225, hl225⟩ := ex_open r225
    refine .bl rfl (Fx.bsl24_1 _ _ _ _) rfl fun b226 => .yv (.build rfl (Fx.bld104_0_1_3 _ _ _ _ _)) rfl <| .sW (.tail <| .tail <| .head) rfl rfl Fx.size104 (by simp [Value.oneCell', strV]) rfl <|
      .nl <| .tN <| .rt <| ?_
    refine At.pt (hd := [_, _, _]) (tl := bs) (hd' := [_, _, _]) [0, 2, 1] rfl rfl ?_
    refine Sx.freezeBox fun Hf uf mf => ?_
    exact Sx.ret1 (.inl rfl) rfl (.cell rfl Fx.agg104 (.head _) rfl) fun W t => ⟨(_, _, Hf), by rw [show stmT M k d bd by_ lf = _ from by rw [stmT, if_neg (by omega), if_neg (by omega), if_neg (by omega), if_neg (by omega), if_neg (by omega), if_neg (by omega), if_neg (by omega), if_neg (by omega), if_neg (by omega)], hb1, asgT, hE225]; exact ⟨(hz222.1.trans u225).trans uf, sm_shut (kd := 1) (nm := (nmB 120 _)) (hd := []) (ex := [.mk op225 nm225 n225 a225]) (th := []) (el := []) (by first | decide | simp [nmB]) (by first | decide | simp [nmB]) (Rep.mk (n := 1) (c := 1) mf (.single ((r225).up uf.up) rfl) rfl (Nat.le_refl _) (by decide)) (Rep.empty (by decide)) (Rep.empty (by decide)), q225.up uf.up, hlf⟩, rfl, by rw [show stmT M k d bd by_ lf = _ from by rw [stmT, if_neg (by omega), if_neg (by omega), if_neg (by omega), if_neg (by omega), if_neg (by omega), if_neg (by omega), if_neg (by omega), if_neg (by omega), if_neg (by omega)], hb1, asgT, hE225]; exact t.drop⟩
end Go.Proofs.YtmbiojpcidccjaaDoor
/- Facts on types and functions. -/
namespace Go.Proofs.YtmbiojpcidccjaaDoor
open Go.RowKit Go.Par Go.Sx
theorem Fx.call97 : callN Tryd.prog 97 = Bool.true := by kernel_rfl
theorem Fx.field142_7 : fieldN Tryd.prog 142 7 = Option.some 7 := by kernel_rfl
theorem Fx.row57 : rowN Tryd.prog 57 = Option.some (104, 6, 112) := by kernel_rfl
theorem Fx.bsl57_1 (x00 x01 x02 x03 x04 x05 : Value) : bslN Tryd.prog 57 1 [(0, .agg [x00, x01, x02, x03, x04, x05].toArray)] = some (104, [x00, x01, x02, x03, x04, x05]) := by kernel_rfl
end Go.Proofs.YtmbiojpcidccjaaDoor
/- Contracts: body. -/
namespace Go.Proofs.YtmbiojpcidccjaaDoor
open Go.RowKit Go.Par Go.Sx
/-- The contract of stmt, whatever the plain function at this depth. -/
def StPl (st : Nat → Bs → Nat → Sm × (Bs × Nat)) (M : Mk) (d : Nat) : Prop := ∀ (H : Hp) (w0 W : World) (bs : List Res) (b : Nat) (arV bv : Value) (lf : Nat) (by_ : Bs) (k : Nat), lf ≤ 12 → Rep H (.seq 1 (M.ars.map dAr)) [arV] → Rep H (.seq 1 ((by_).map dU8)) [bv] → St H w0 (.box b (mkC M arV bv (lf : Nat)) 142 :: bs) W →
  Calls Tryd.prog 97 #[.pointer (some ⟨b, 0, none⟩), .int .i64 (k : Nat), .int .i64 (d : Nat)] W fun e W' => ∃ z : List Value × Value × Hp, (HUp w0 H z.2.2 ∧ Rep z.2.2 (dSm .i64 (st k by_ lf).1) z.1 ∧ Rep z.2.2 (.seq 1 (((st k by_ lf).2.1).map dU8)) [z.2.1] ∧ (st k by_ lf).2.2 ≤ 12) ∧ e = .returned (.agg z.1.toArray) ∧ St z.2.2 w0 (.box b (mkC M arV z.2.1 ((st k by_ lf).2.2 : Nat)) 142 :: bs) W'
set_option maxRecDepth 100000 in
theorem body_step (M : Mk) (d : Nat) (hd : d ≤ 3) (st : Nat → Bs → Nat → Sm × (Bs × Nat)) (hst_ : StPl st M d) (hmono : ∀ k b lf, (st k b lf).2.2 ≤ lf) : BodOf (bodL st 13) M d := by
  intro H w0 W bs b arV bv lf by_ hlf hAr hb s
  obtain ⟨pA, cA, eA, _⟩ := hAr.sl
  simp only [List.cons.injEq, and_true, List.length_map] at eA
  subst eA
  refine Sx.enterS Tryd.func75 rfl Tryd.ntmps75 rfl s ?_
  refine .sq <| .rg <| .a rfl rfl <| .nl <| .tN <| .sq <| .rg <| .a rfl rfl <| ?_
  refine Sx.row0 104 6 ?_
  refine .nl <| .tN <| .sq <| .bk <| .lp (X := Nat × Nat × Hp × Value × List Value × Value × Nat) [(0, _), (1, _)] ⟨rfl, rfl, trivial⟩ (bs) (fun z => [(5, z.2.2.2.1)]) (fun z => z.2.2.1) (fun z => [.row 104 6 z.2.2.2.1 z.1 z.2.2.2.2.1, .box b (mkC M (.slice pA M.ars.length cA) z.2.2.2.2.2.1 (z.2.2.2.2.2.2 : Nat)) 142]) (fun z => z.2.2.2.2.2.2 < z.2.1 ∧ z.2.2.2.2.2.2 ≤ 12 ∧ z.1 + z.2.2.2.2.2.2 ≤ 12 ∧ HUp w0 H z.2.2.1 ∧ ∃ (es : List Sm) (b1 : Bs), es.length = z.1 ∧ RepZ z.2.2.1 6 (es.map (dSm .i64)) z.2.2.2.2.1 ∧ Rep z.2.2.1 (.seq 1 ((b1).map dU8)) [z.2.2.2.2.2.1] ∧ bodL st 13 (by_, lf) = (es ++ (bodL st z.2.1 (b1, z.2.2.2.2.2.2)).1, (bodL st z.2.1 (b1, z.2.2.2.2.2.2)).2)) (fun z => z.2.1) (0, 13, H, .slice none 0 0, [], bv, lf) (fun _ s => s) ⟨rfl, trivial⟩ ⟨by dsimp only; omega, hlf, by dsimp only; omega, .refl, [], by_, rfl, RepZ.nil, hb, rfl⟩ fun z hC => ?_
  obtain ⟨k, f, H1, r, xs, bv, lf1⟩ := z
  dsimp only at hC ⊢
  obtain ⟨hf, hl1, hkl, u1, es, b1, hlen, hz, hb1, heq⟩ := hC
  obtain ⟨f, rfl⟩ : ∃ g, f = g + 1 := ⟨f - 1, by omega⟩
  obtain ⟨pB, cB, eB, hcB⟩ := hb1.sl
  simp only [List.cons.injEq, and_true, List.length_map] at eB hcB
  subst eB
  have hcapB := hb1.cap
  refine .sq <| .sq <| .rg <| .m rfl rfl <| .yv (.nilCheck rfl) rfl <| .yv (.fieldAddr rfl Fx.field142_6) rfl <| .yv (.load rfl Fx.agg39 (.tail _ <| .head _) rfl) rfl <|
    .yv (.lenSl Fx.sl39 rfl) rfl <| .yv (.gtr rfl rfl) rfl <| .m rfl rfl <| .b2 (fun h13 => ?_) (fun h13 => ?_)
  · try simp only [decide_eq_true_eq] at h13
    have hb0 : b1 ≠ [] := by intro e; rw [e] at h13; simp at h13
    refine .gd rfl rfl <| .yv (.move rfl) rfl <| .gd rfl rfl <| .yv (.nilCheck rfl) rfl <| .gd rfl rfl <| .yv (.fieldAddr rfl Fx.field142_7) rfl <| .gd rfl rfl <| .yv (.load rfl Fx.agg3 (.tail _ <|
      .head _) rfl) rfl <| .gd rfl rfl <| .yv (.gtr rfl rfl) rfl <| .yv (.pickT rfl rfl) rfl <| .nl <| .tN <| .cd rfl (fun h19 => ?_) (fun h19 => ?_)
    · try simp only [decide_eq_true_eq] at h19
      have hnn : ¬ (b1 = [] ∨ lf1 = 0) := fun h => h.elim hb0 (fun e => by omega)
      refine .sk <| .tN <| .bk <| .sq <| .rg <| .m rfl rfl <| .cs (X := Value) Fx.call96 rfl (fun W s => next_st 14 (by decide) hb1  (s.pickT (hd := [_, _]) (tl := bs) (hd' := [_, _]) [1, 0] rfl rfl)) rfl fun z21 hz21 => .a rfl rfl <|
        .nl <| .tN <| .sq <| .sq <| .rg <| .m rfl rfl <| .yv (.eql rfl rfl) rfl <| .nl <| .tN <| .cd rfl (fun h23 => ?_) (fun h23 => ?_)
      · try simp only [decide_eq_true_eq] at h23
        have h13 : (nextB b1 14).1 = 13 := by omega
        have heqF : bodL st 13 (by_, lf) = (es, ((nextB b1 14).2, lf1)) := by rw [heq, bodL, if_neg hnn, if_pos h13, List.append_nil]
        refine .sq <| .rg <| .m rfl rfl <| .a rfl rfl <| .nl <| .tN <| .rt <| .tR <| .bR <| .tR <| .bR <| .tR <| ?_
        refine At.pt (hd := [_, _]) (tl := bs) (hd' := [_, _]) [1, 0] rfl rfl ?_
        refine Sx.freezeSeq (ds := es.map (dSm .i64)) (by simp; omega) hz fun H3 p3 c3 u3 hr3 hs3 => ?_
        exact Sx.ret1 (.inl rfl) rfl (.tmp rfl) fun W t => ⟨(r, _, H3), by rw [heqF]; exact ⟨u1.trans u3, hs3, hz21.up u3.up, hl1⟩, rfl, by rw [heqF]; exact t⟩
      · try simp only [decide_eq_false_iff_not] at h23
        have h13 : ¬ (nextB b1 14).1 = 13 := by omega
        refine .sk <| .tN <| .sq <| .rg <| .m rfl rfl <| .yv (.nilCheck rfl) rfl <| .yv (.fieldAddr rfl Fx.field142_7) rfl <| .yv (.load rfl Fx.agg3 (.head _) rfl) rfl <|
          .yv (.sub rfl rfl (c := ((lf1 - 1 : Nat) : Int)) ((w64 (by omega) (by omega)).trans (by omega))) rfl <| .yv (.nilCheck rfl) rfl <| .yv (.fieldAddr rfl Fx.field142_7) rfl <|
          .st (l' := mkC M (.slice pA M.ars.length cA) z21 (lf1 - 1 : Nat)) .head rfl rfl Fx.size3 rfl (Nat.le_of_ble_eq_true rfl) rfl <| .nl <| .tN <| .rg <| .m rfl rfl <|
          .m rfl rfl <| .m rfl rfl <| .m rfl rfl <| .cs (X := List Value × Value × Hp) Fx.call97 rfl (fun W s => hst_ H1 w0 W _ b _ _ (lf1 - 1) (nextB b1 14).2 (nextB b1 14).1 (by omega) (hAr.up u1.up) hz21  (s.pickT (hd := [_, _]) (tl := bs) (hd' := [_, _]) [0, 1] rfl rfl)) rfl fun z36 hz36 => ?_
        have hst := hmono (nextB b1 14).1 (nextB b1 14).2 (lf1 - 1)
        obtain ⟨x36, v36, H36⟩ := z36
        obtain ⟨u36, r36, q36, l36⟩ := hz36
        dsimp only at u36 r36 q36 ⊢
        generalize hE36 : (st (nextB b1 14).1 (nextB b1 14).2 (lf1 - 1)) = e36 at r36 q36 l36 ⊢
        obtain ⟨e36, b36s, lf36⟩ := e36
        dsimp only at r36 q36 l36 ⊢
        obtain ⟨kd, nm, hd_, ex, th, el⟩ := e36
        obtain ⟨p1, c1, p2, c2, p3, c3, rfl, hs1, hs2, hs3, hn1, hn2⟩ := sm_open r36
        rw [hE36] at hst
        dsimp only at hst
        exact .bl rfl (Fx.bsl57_1 _ _ _ _ _ _) rfl fun b37 => .ap (news := [.int .i64 kd.toNat, strV nm, strV hd_, .slice p1 ex.length c1, .slice p2 th.length c2, .slice p3 el.length c3]) Fx.row57 rfl (fun _ => (.tail <|
          .tail <| .head)) rfl (.box (.head _) (fun j u h => by rw [Nat.zero_add]; exact h)) rfl (by simp [Value.oneCell', strV]) (by simp [maxLen]; omega) (by omega) rfl fun r38 _ => .a rfl rfl <|
          .nl <| .bN <| .tN <| .ag (x := (k, f + 1, H1, r, xs, .slice pB b1.length cB, lf1)) (k + 1, f, H36, r38, xs ++ [.int .i64 kd.toNat, strV nm, strV hd_, .slice p1 ex.length c1, .slice p2 th.length c2, .slice p3 el.length c3], v36, lf36) ⟨rfl, trivial⟩ ⟨rfl, rfl, trivial⟩ (fun _ s => (s.pickT (hd := [_, _, _]) (tl := bs) (hd' := [_, _]) [2, 1] rfl rfl)) ⟨by dsimp only; have := hst; omega, l36, by dsimp only; omega, u1.trans u36, es ++ [.mk kd nm hd_ ex th el], b36s, by simp; omega, by dsimp only; rw [List.map_append]; exact (hz.up u36.up).snoc r36 rfl, q36, by dsimp only; rw [heq, bodL, if_neg hnn, if_neg h13, hE36, List.append_assoc]; rfl⟩ (by dsimp only; omega)
    · try simp only [decide_eq_false_iff_not] at h19
      have hbe : b1 = [] ∨ lf1 = 0 := .inr (by omega)
      have heqF : bodL st 13 (by_, lf) = (es, (b1, lf1)) := by rw [heq, bodL, if_pos hbe, List.append_nil]
      refine .ex <| .tE <| .tE <| .bE <| .tN <| .sq <| .rg <| .m rfl rfl <| .a rfl rfl <| .nl <| .tN <| .rt <| ?_
      refine At.pt (hd := [_, _]) (tl := bs) (hd' := [_, _]) [0, 1] rfl rfl ?_
      refine Sx.freezeSeq (ds := es.map (dSm .i64)) (by simp; omega) hz fun H3 p3 c3 u3 hr3 hs3 => ?_
      exact Sx.ret1 (.inl rfl) rfl (.tmp rfl) fun W t => ⟨(r, _, H3), by rw [heqF]; exact ⟨u1.trans u3, hs3, hb1.up u3.up, hl1⟩, rfl, by rw [heqF]; exact t⟩
  · try simp only [decide_eq_false_iff_not] at h13
    have hbe : b1 = [] ∨ lf1 = 0 := .inl (List.eq_nil_of_length_eq_zero (by omega))
    have heqF : bodL st 13 (by_, lf) = (es, (b1, lf1)) := by rw [heq, bodL, if_pos hbe, List.append_nil]
    refine .gF rfl rfl rfl rfl <| .gF rfl rfl rfl rfl <| .gF rfl rfl rfl rfl <| .gF rfl rfl rfl rfl <| .gF rfl rfl rfl rfl <| .yv (.pickF rfl rfl) rfl <| .nl <| .tN <|
      .cF rfl <| .ex <| .tE <| .tE <| .bE <| .tN <| .sq <| .rg <| .m rfl rfl <| .a rfl rfl <| .nl <| .tN <| .rt <| ?_
    refine At.pt (hd := [_, _]) (tl := bs) (hd' := [_, _]) [0, 1] rfl rfl ?_
    refine Sx.freezeSeq (ds := es.map (dSm .i64)) (by simp; omega) hz fun H3 p3 c3 u3 hr3 hs3 => ?_
    exact Sx.ret1 (.inl rfl) rfl (.tmp rfl) fun W t => ⟨(r, _, H3), by rw [heqF]; exact ⟨u1.trans u3, hs3, hb1.up u3.up, hl1⟩, rfl, by rw [heqF]; exact t⟩
end Go.Proofs.YtmbiojpcidccjaaDoor
/- Contracts: body at every depth. -/
namespace Go.Proofs.YtmbiojpcidccjaaDoor
open Go.RowKit Go.Par Go.Sx
theorem stmT_mono (M : Mk) (k d : Nat) (bd : Bs × Nat → List Sm × (Bs × Nat)) (hm : ∀ x, (bd x).2.2 ≤ x.2) (b : Bs) (lf : Nat) : (stmT M k d bd b lf).2.2 ≤ lf := by
  unfold stmT
  split
  · exact Nat.le_refl _
  split
  · exact Nat.le_refl _
  split
  · exact Nat.le_refl _
  split
  · exact Nat.le_trans (hm _) (hm _)
  split
  · exact hm _
  split
  · exact Nat.le_refl _
  split
  · exact Nat.le_refl _
  split
  · split
    · exact hm _
    · exact hm _
  split
  · exact Nat.le_refl _
  · exact Nat.le_refl _
theorem bodL_mono (st : Nat → Bs → Nat → Sm × (Bs × Nat)) (hm : ∀ k b lf, (st k b lf).2.2 ≤ lf) : ∀ f x, (bodL st f x).2.2 ≤ x.2
  | 0, x => Nat.le_refl _
  | f + 1, (b, lf) => by
    unfold bodL
    split
    · exact Nat.le_refl _
    · split
      · exact Nat.le_refl _
      · refine Nat.le_trans (bodL_mono st hm f _) (Nat.le_trans (hm _ _ _) (Nat.sub_le _ _))
theorem bodE_mono (M : Mk) : ∀ f x, (bodE M f x).2.2 ≤ x.2
  | 0, x => bodL_mono _ (fun k b lf => stmT_mono M k 3 _ (fun _ => Nat.le_refl _) b lf) _ _
  | f + 1, x => bodL_mono _ (fun k b lf => stmT_mono M k (2 - f) _ (bodE_mono M f) b lf) _ _
theorem bodyJ_any (M : Mk) (hM : okA M) : ∀ f, f ≤ 3 → BodOf (bodE M f) M (3 - f)
  | 0, _ => body_step M 3 (by omega) _ (stmt_step M hM 3 (by omega) _ fun h => by omega) fun k b lf => stmT_mono M k 3 _ (fun _ => Nat.le_refl _) b lf
  | f + 1, hf => by
    have e : 3 - (f + 1) = 2 - f := by omega
    rw [e]
    refine body_step M (2 - f) (by omega) (fun k => stmT M k (2 - f) (bodE M f)) (stmt_step M hM (2 - f) (by omega) _ fun _ => ?_) fun k b lf => stmT_mono M k (2 - f) _ (bodE_mono M f) b lf
    rw [show 2 - f + 1 = 3 - f by omega]
    exact bodyJ_any M hM f (by omega)
end Go.Proofs.YtmbiojpcidccjaaDoor
/- Facts on types and functions. -/
namespace Go.Proofs.YtmbiojpcidccjaaDoor
open Go.RowKit Go.Par Go.Sx
theorem Fx.agg144 : aggN Tryd.prog 144 = Option.some (Option.some 2) := by kernel_rfl
theorem Fx.call54 : callN Tryd.prog 54 = Bool.true := by kernel_rfl
theorem Fx.field144_1 : fieldN Tryd.prog 144 1 = Option.some 1 := by kernel_rfl
theorem Fx.row55 : rowN Tryd.prog 55 = Option.some (59, 3, 64) := by kernel_rfl
theorem Fx.size144 : sizeN Tryd.prog 144 = Option.some 2 := by kernel_rfl
theorem Fx.sl130 : slN Tryd.prog 130 = Option.some 2 := by kernel_rfl
theorem Fx.zero144 : zeroN Tryd.prog 144 = Option.some [Go.Value.int Go.IntKind.u8 (Int.ofNat 0), Go.Value.slice Option.none 0 0] := by kernel_rfl
theorem Fx.bld59_0_1_2 (x0 : ByteArray) (x1p : Option Addr) (x1n x1c : Nat) (x2p : Option Addr) (x2n x2c : Nat) : buildN Tryd.prog 59 [(0, .string x0), (1, .slice x1p x1n x1c), (2, .slice x2p x2n x2c)] = some [.string x0, .slice x1p x1n x1c, .slice x2p x2n x2c] := by kernel_rfl
theorem Fx.bsl55_1 (x00 x01 x02 : Value) : bslN Tryd.prog 55 1 [(0, .agg [x00, x01, x02].toArray)] = some (59, [x00, x01, x02]) := by kernel_rfl
end Go.Proofs.YtmbiojpcidccjaaDoor
/- Contracts: handlers. -/
namespace Go.Proofs.YtmbiojpcidccjaaDoor
open Go.RowKit Go.Par Go.Sx
theorem take_min {α : Type} (l : List α) (n : Nat) : l.take (min l.length n) = l.take n := by
  by_cases h : n ≤ l.length
  · rw [Nat.min_eq_right h]
  · rw [Nat.min_eq_left (by omega), List.take_length, List.take_of_length_le (by omega)]
/-- What holds of a maker whatever the handler. -/
def okB (M : Mk) : Prop := 0 < M.ints ∧ M.ints ≤ 3 ∧ M.flags ≤ 2 ∧ 0 < M.ars.length ∧ M.ars.length ≤ 3 ∧ M.own < M.ars.length ∧ ∀ l ∈ M.ars, 0 < l.length ∧ l.length ≤ 3 ∧ ∀ n ∈ l, n ≤ 2
theorem okB_at {M : Mk} (h : okB M) {k : Nat} (hk : k < arL M M.own) : okA (M.at k) := by
  obtain ⟨h1, h2, h3, h4, h5, h6, h7⟩ := h
  refine ⟨⟨h1, h2, ?_, h3⟩, h4, h5, h6, h7⟩
  have h8 := h7 _ (List.getElem_mem h6)
  unfold arL at hk
  show arN M M.own k ≤ 2
  unfold arN
  rw [getD_at h6] at hk ⊢
  rw [getD_at hk]; exact h8.2.2 _ (List.getElem_mem hk)
set_option maxHeartbeats 1000000 in
set_option maxRecDepth 100000 in
theorem handlers_st (M : Mk) (hM : okB M) (l : List Cd) (hll : l.length ≤ arL M M.own) (H : Hp) (w0 W : World) (bs : List Res) (b : Nat) (arV bv v : Value) (left : Int) (hv : Rep H (.seq 2 (l.map dCd)) [v]) (hAr : Rep H (.seq 1 (M.ars.map dAr)) [arV]) (s : St H w0 (.box b (mkC M arV bv left) 142 :: bs) W) :
    Calls Tryd.prog 57 #[.pointer (some ⟨b, 0, none⟩), v] W fun e W' => ∃ z : Value × Nat × Hp × Value × Int, (HUp w0 H z.2.2.1 ∧ Rep z.2.2.1 (.seq 3 ((hdsP M 0 l).map (dHd .i64))) [z.1]) ∧ e = .returned z.1 ∧ St z.2.2.1 w0 (.box b (mkC { M with params := z.2.1 } arV z.2.2.2.1 z.2.2.2.2) 142 :: bs) W' := by
  obtain ⟨pA, cA, eA, _⟩ := hAr.sl
  simp only [List.cons.injEq, and_true, List.length_map] at eA
  subst eA
  obtain ⟨bA, oA, pR, cR, hpA, mA, hR⟩ := ar_at hAr hM.2.2.2.2.2.1
  subst hpA
  obtain ⟨pl, cl, el, _⟩ := hv.sl
  simp only [List.cons.injEq, and_true, List.length_map] at el
  subst el
  have hs := hv
  have hcap := hs.cap
  refine Sx.enterS Tryd.func57 rfl Tryd.ntmps57 rfl s ?_
  refine .sq <| .rg <| .a rfl rfl <| .nl <| .tN <| .sq <| .rg <| .a rfl rfl <| ?_
  refine Sx.row0 59 3 ?_
  refine .nl <| .tN <| .sq <| .sq <| .rg <| .m rfl rfl <| .yv (.lenSl Fx.sl130 rfl) rfl <| .m rfl rfl <| .nl <| .tN <| .bk <| .lp (X := Nat × Nat × Hp × Value × List Value × Value × Int) [(0, _), (8, _), (9, _)] ⟨rfl, rfl, rfl, trivial⟩ (bs) (fun z => [(5, z.2.2.2.1), (10, .int .i64 (z.1 : Nat))]) (fun z => z.2.2.1) (fun z => [.row 59 3 z.2.2.2.1 z.1 z.2.2.2.2.1, .box b (mkC ({ M with params := z.2.1 }) (.slice (some ⟨bA, oA, none⟩) M.ars.length cA) z.2.2.2.2.2.1 z.2.2.2.2.2.2) 142]) (fun z => z.1 ≤ l.length ∧ HUp w0 H z.2.2.1 ∧ RepZ z.2.2.1 3 ((hdsP M 0 (l.take z.1)).map (dHd .i64)) z.2.2.2.2.1) (fun z => l.length - z.1) (0, M.params, H, .slice none 0 0, [], bv, left) (fun _ s => s) ⟨rfl, rfl, trivial⟩ ⟨by simp, .refl, RepZ.nil⟩ fun z hC => ?_
  obtain ⟨k, pv, H1, r, xs, bv, left⟩ := z
  dsimp only at hC ⊢
  obtain ⟨hk0, u1, hz⟩ := hC
  refine .sq <| .rg <| .yv (.lss rfl rfl) rfl <| .nl <| .tN <| .sq <| .cd rfl (fun h11 => ?_) (fun h11 => ?_)
  · try simp only [decide_eq_true_eq] at h11
    have hk : k < l.length := by omega
    obtain ⟨bE, oE, cE, hpE, rE, lE, mE⟩ := (hs.up u1.up).elem (map_at (f := dCd) hk)
    cases hpE
    generalize hx : l[k] = cd at rE
    obtain ⟨pc, cc, rfl, hcb⟩ := cd_open rE
    have hal := hM.2.2.2.2.2.2 _ (List.getElem_mem hM.2.2.2.2.2.1)
    have hown := hM.2.2.2.2.2.1
    have hkA : k < arL M M.own := by omega
    have hokA : okA (M.at k) := okB_at hM hkA
    have hn2 : arN M M.own k ≤ 2 := (hokA.1).2.2.1
    have hk3 : k < 3 := by have := (hokA.len hown).2; exact Nat.lt_of_lt_of_le hkA this
    obtain ⟨bR, oR, hpR, mR⟩ := arn_at hR hkA
    subst hpR
    have mA1 := mA.up u1.up
    have mR1 := mR.up u1.up
    have hccap := hcb.cap
    refine .sk <| .tN <| .sq <| .bk <| .sq <| .rg <| .m rfl rfl <| .yv (.indexSl Fx.sl130 rfl rfl rfl (by omega) (q := oE + k * 2) rfl) rfl <| .yv (.loadMW rfl Fx.agg144 mE rfl) rfl <|
      .al Fx.zero144 rfl fun b7 => .a rfl rfl <| .sW .head rfl rfl Fx.size144 (by simp [Value.oneCell', strV]) rfl <| .nl <| .tN <| .sq <| .fl (trip := [(_, _, _), (_, _, _), (_, _, _), (_, _, _), (_, _, _), (_, _, _), (_, _, _), (_, _, _), (_, _, _), (_, _, _), (_, _, _), (_, _, _), (_, _, _), (_, _, _), (_, _, _), (_, _, _)]) 16 [(0, 0), (1, 0), (2, 0), (3, 0), (4, 0), (5, 0), (6, 0), (7, 0), (8, 0), (9, 0), (10, 0), (11, 0), (12, 0), (13, 0), (14, 0), (15, 0)] (by kernel_rfl) (by kernel_rfl) rfl <|
      .m rfl rfl <| .m rfl rfl <| .yv (.nilCheck rfl) rfl <| .yv (.fieldAddr rfl Fx.field142_4) rfl <| .yv (.load rfl Fx.agg136 (.tail _ <| .tail _ <| .head _) rfl) rfl <|
      .m rfl rfl <| .yv (.nilCheck rfl) rfl <| .yv (.fieldAddr rfl Fx.field142_3) rfl <| .yv (.load rfl Fx.agg3 (.tail _ <| .tail _ <| .head _) rfl) rfl <| .yv (.indexSl Fx.sl136 rfl rfl (i := M.own) rfl (by omega) (q := oA + M.own * 1) rfl) rfl <|
      .yv (.loadM rfl Fx.agg137 mA1 (k := 0) rfl rfl) rfl <| .m rfl rfl <| .yv (.indexSl Fx.sl137 rfl rfl (i := k) rfl (by omega) (q := oR + k * 1) rfl) rfl <| .yv (.loadM rfl Fx.agg3 mR1 (k := 0) rfl rfl) rfl <|
      .yv (.nilCheck rfl) rfl <| .yv (.fieldAddr rfl Fx.field142_5) rfl <| .fn (tl := [_]) rfl <| .st (l' := mkC (M.at k) (.slice (some ⟨bA, oA, none⟩) M.ars.length cA) bv left) (.tail <|
      .tail <| .head) rfl rfl Fx.size3 rfl (Nat.le_of_ble_eq_true rfl) rfl <| .nl <| .tN <| .sq <| .fl (trip := [(_, _, _), (_, _, _), (_, _, _), (_, _, _), (_, _, _), (_, _, _), (_, _, _), (_, _, _), (_, _, _), (_, _, _)]) 10 [(0, 0), (1, 0), (2, 0), (3, 0), (4, 0), (5, 0), (6, 0), (7, 0), (8, 0), (9, 0)] (by kernel_rfl) (by kernel_rfl) rfl <|
      .m rfl rfl <| .yv (.fieldAddr rfl Fx.field144_1) rfl <| .yv (.load rfl Fx.agg39 (.head _) rfl) rfl <| .yv (.fieldAddr rfl Fx.field144_1) rfl <| .yv (.load rfl Fx.agg39 (.head _) rfl) rfl <|
      .yv (.lenSl Fx.sl39 rfl) rfl <| .yv (.call Fx.call54 rfl (fun W s => least_any H1 cd.bytes.length 40 W s.agr)) rfl <| .yv (.cutHi2 Fx.sl39 rfl rfl (h := min cd.bytes.length 40) rfl (by have := hcb.len.2.1; omega)) rfl <|
      .yv (.nilCheck rfl) rfl <| .yv (.fieldAddr rfl Fx.field142_6) rfl <| .fn (tl := [_]) rfl <| .st (l' := mkC (M.at k) (.slice (some ⟨bA, oA, none⟩) M.ars.length cA) _ left) (.tail <|
      .tail <| .head) rfl rfl Fx.size39 rfl (Nat.le_of_ble_eq_true rfl) rfl <| .nl <| .tN <| .sq <| .rg <| .m rfl rfl <| .yv (.nilCheck rfl) rfl <| .yv (.fieldAddr rfl Fx.field142_7) rfl <|
      .st (l' := mkC (M.at k) (.slice (some ⟨bA, oA, none⟩) M.ars.length cA) _ ((12 : Nat) : Int)) (.tail <| .tail <| .head) rfl rfl Fx.size3 rfl (Nat.le_of_ble_eq_true rfl) rfl <|
      ?_
    have hb40 := rep_take2 hcb (hi := min cd.bytes.length 40) (by omega)
    rw [← List.map_take, take_min] at hb40
    refine .nl <| .tN <| .fl (trip := [(_, _, _), (_, _, _), (_, _, _), (_, _, _), (_, _, _), (_, _, _), (_, _, _), (_, _, _), (_, _, _), (_, _, _), (_, _, _), (_, _, _), (_, _, _), (_, _, _)]) 14 [(0, 0), (2, 0), (5, 0), (6, 0), (7, 0), (8, 0), (10, 0), (1, 1), (3, 0), (4, 0), (9, 1), (11, 3), (12, 0), (13, 1)] (by kernel_rfl) (by kernel_rfl) rfl <|
      .m rfl rfl <| .m rfl rfl <| .m rfl rfl <| .yv (.nilCheck rfl) rfl <| .yv (.fieldAddr rfl Fx.field142_5) rfl <| .yv (.load rfl Fx.agg3 (.tail _ <| .tail _ <| .head _) rfl) rfl <|
      .m rfl rfl <| .ct (X := Value) Fx.call55 rfl (fun W s => names_any H1 104 3 (by omega) W s.agr) rfl fun v45 H45 hn45 u45 => ?_
    obtain ⟨pn45, cn45, e45, _⟩ := hn45.sl
    simp only [List.cons.injEq, and_true, List.length_map, namesB_len] at e45
    subst e45
    obtain ⟨bN, oN, hpN, mN⟩ := name_at hn45 (k := k) hk3
    subst hpN
    refine .yv (.indexSl Fx.sl56 rfl rfl (i := k) rfl (by omega) (q := oN + k * 1) rfl) rfl <| .yv (.loadM rfl Fx.agg9 mN (k := 0) rfl rfl) rfl <| .ct (X := Value) Fx.call55 rfl (fun W s => names_any H45 112 (arN M M.own k) (by omega) W s.agr) rfl fun v53 H53 hn53 u53 => ?_
    obtain ⟨pn53, cn53, e53, _⟩ := hn53.sl
    simp only [List.cons.injEq, and_true, List.length_map, namesB_len] at e53
    subst e53
    refine .c3 (X := Value × Value × Hp) Fx.call75 rfl (fun W s => bodyJ_any (M.at k) hokA 3 (by decide) H53 w0 W _ b _ _ 12 (cd.bytes.take 40) (by decide) (hAr.up (u1.trans (u45.trans u53)).up) (hb40.up (u45.trans u53).up)  (s.pickT (hd := [_, _, _]) (tl := bs) (hd' := [_, _, _]) [2, 0, 1] rfl rfl)) rfl (fun z55 hz55 => (.yv (.loadM rfl Fx.agg9 (mN.up (u53.up.trans hz55.1.up)) (k := 0) rfl rfl) <|
      .yv (.indexSl Fx.sl56 rfl rfl (i := k) rfl (by omega) (q := oN + k * 1) rfl) <| .done (by kernel_rfl) <| .done (by kernel_rfl) <| .done (by kernel_rfl) <| .done (by kernel_rfl) <|
      .done (by kernel_rfl) <| .yv (.move rfl) <| .yv (.move rfl) <| .nl)) fun z55 hz55 => ?_
    obtain ⟨x55, v55, H55⟩ := z55
    obtain ⟨u55, r55, q55, l55⟩ := hz55
    dsimp only at u55 r55 q55 ⊢
    obtain ⟨pb55, cb55, eb55, _⟩ := r55.sl
    simp only [List.cons.injEq, and_true, List.length_map] at eb55
    subst eb55
    exact .yv (.build rfl (Fx.bld59_0_1_2 _ _ _ _ _ _ _)) rfl <| .bl rfl (Fx.bsl55_1 _ _ _) rfl fun b57 => .fn (tl := [_, _]) rfl <| .ap (news := [strV (nmB 104 k), .slice pn53 (arN M M.own k) cn53, .slice pb55 (bodE (M.at k) 3 (cd.bytes.take 40, 12)).1.length cb55]) Fx.row55 rfl (fun _ => (.tail <|
      .tail <| .tail <| .head)) rfl (.box (.head _) (fun j u h => by rw [Nat.zero_add]; exact h)) rfl (by simp [Value.oneCell', strV]) (by simp [maxLen]; omega) (by omega) rfl fun r58 _ => .a rfl rfl <|
      .nl <| .bN <| .tN <| .rg <| .yv (.add rfl rfl (w64 (by omega) (by omega))) rfl <| .m rfl rfl <| .nl <| .tN <| .ag (x := (k, pv, H1, r, xs, bv, left)) (k + 1, arN M M.own k, H55, r58, xs ++ [strV (nmB 104 k), .slice pn53 (arN M M.own k) cn53, .slice pb55 (bodE (M.at k) 3 (cd.bytes.take 40, 12)).1.length cb55], v55, ((bodE (M.at k) 3 (cd.bytes.take 40, 12)).2.2 : Nat)) ⟨rfl, rfl, trivial⟩ ⟨rfl, rfl, rfl, trivial⟩ (fun _ s => (s.pickT (hd := [_, _, _, _]) (tl := bs) (hd' := [_, _]) [3, 1] rfl rfl)) ⟨by dsimp only; omega, u1.trans (u45.trans (u53.trans u55)), by dsimp only; rw [hdsP_succ hk, hx, List.map_append]; exact (hz.up ((u45.trans (u53.trans u55)).up)).snoc (hd_shut (x := hdS M k cd) (by simp [hdS, nmB]) (by simpa [hdS, namesB_len] using hn53.up u55.up) (by simpa [hdS] using r55)) rfl⟩ (by dsimp only; omega)
  · try simp only [decide_eq_false_iff_not] at h11
    obtain rfl : k = l.length := by omega
    rw [List.take_length] at hz
    refine .ex <| .tE <| .tE <| .bE <| .tN <| .sq <| .rg <| .m rfl rfl <| .a rfl rfl <| .nl <| .tN <| .rt <| ?_
    refine At.pt (hd := [_, _]) (tl := bs) (hd' := [_, _]) [0, 1] rfl rfl ?_
    refine Sx.freezeSeq (ds := (hdsP M 0 l).map (dHd .i64)) (by simp [hdsP_len]) hz fun H3 p3 c3 u3 hr3 hs3 => ?_
    exact Sx.ret1 (.inl rfl) rfl (.tmp rfl) fun W t => ⟨(r, pv, H3, bv, left), ⟨u1.trans u3, hs3⟩, rfl, t⟩
end Go.Proofs.YtmbiojpcidccjaaDoor
/- Plain: a plan, and the fleet that it stands for. -/
namespace Go.Proofs.YtmbiojpcidccjaaDoor
open Go.RowKit Go.Par Go.Sx
/-- A component of a plan. -/
structure Prt where
  ints : UInt8
  tables : UInt8
  hs : List Cd
  sec : List Cd
structure Pln where
  flags : UInt8
  links : Bs
  comps : List Prt
def dPrt (x : Prt) : D := .str [.val (.int .u8 x.ints.toNat), .val (.int .u8 x.tables.toNat), .seq 2 (x.hs.map dCd), .seq 2 (x.sec.map dCd)]
def dPln (x : Pln) : D := .str [.val (.int .u8 x.flags.toNat), .seq 1 (x.links.map dU8), .seq 4 (x.comps.map dPrt)]
section
variable {H : Hp}
theorem prt_open {x : Prt} {cs : List Value} (h : Rep H (dPrt x) cs) : ∃ p1 c1 p2 c2, cs = [.int .u8 x.ints.toNat, .int .u8 x.tables.toNat, .slice p1 x.hs.length c1, .slice p2 x.sec.length c2] ∧ Rep H (.seq 2 (x.hs.map dCd)) [.slice p1 x.hs.length c1] ∧ Rep H (.seq 2 (x.sec.map dCd)) [.slice p2 x.sec.length c2] := by
  rw [dPrt, repS] at h
  obtain ⟨_, rfl, _, _, h⟩ := repL_val.1 h
  obtain ⟨_, rfl, _, _, h⟩ := repL_val.1 h
  obtain ⟨p1, c1, _, rfl, k1, h⟩ := repL_seq.1 h
  obtain ⟨p2, c2, _, rfl, k2, h⟩ := repL_seq.1 h
  rw [repL_nil] at h
  subst h
  exact ⟨p1, c1, p2, c2, by simp, (by simpa using k1), (by simpa using k2)⟩
theorem prt_shut {x : Prt} {s1 s2 : Value} (k1 : Rep H (.seq 2 (x.hs.map dCd)) [s1]) (k2 : Rep H (.seq 2 (x.sec.map dCd)) [s2]) : Rep H (dPrt x) [.int .u8 x.ints.toNat, .int .u8 x.tables.toNat, s1, s2] := by
  rw [dPrt, repS]
  exact repL_val.2 ⟨_, rfl, rfl, trivial, repL_val.2 ⟨_, rfl, rfl, trivial, repL_cons.2 ⟨[s1], _, rfl, k1, repL_cons.2 ⟨[s2], _, rfl, k2, repL_nil.2 rfl⟩⟩⟩⟩
theorem cd_shut {x : Cd} {s : Value} (k : Rep H (.seq 1 (x.bytes.map dU8)) [s]) : Rep H (dCd x) [.int .u8 x.ps.toNat, s] := by
  rw [dCd, repS]
  exact repL_val.2 ⟨_, rfl, rfl, trivial, repL_cons.2 ⟨[s], _, rfl, k, repL_nil.2 rfl⟩⟩
theorem pln_open {x : Pln} {cs : List Value} (h : Rep H (dPln x) cs) : ∃ p1 c1 p2 c2, cs = [.int .u8 x.flags.toNat, .slice p1 x.links.length c1, .slice p2 x.comps.length c2] ∧ Rep H (.seq 1 (x.links.map dU8)) [.slice p1 x.links.length c1] ∧ Rep H (.seq 4 (x.comps.map dPrt)) [.slice p2 x.comps.length c2] := by
  rw [dPln, repS] at h
  obtain ⟨_, rfl, _, _, h⟩ := repL_val.1 h
  obtain ⟨p1, c1, _, rfl, k1, h⟩ := repL_seq.1 h
  obtain ⟨p2, c2, _, rfl, k2, h⟩ := repL_seq.1 h
  rw [repL_nil] at h
  subst h
  exact ⟨p1, c1, p2, c2, by simp, (by simpa using k1), (by simpa using k2)⟩
end
/-- The number of parameters of handler k of a component (a list of at most one number). -/
def arK (x : Prt) (k : Nat) : List Nat :=
  if h : k < x.hs.length then [x.hs[k].ps.toNat % 3] else if k = 0 then [1] else if h : k < x.sec.length then [x.sec[k].ps.toNat % 3] else []
def arUp (x : Prt) (m : Nat) : List Nat := (List.range m).flatMap (arK x)
def arP (x : Prt) : List Nat := arUp x 3
theorem arUp_succ (x : Prt) (m : Nat) : arUp x (m + 1) = arUp x m ++ arK x m := by simp [arUp, List.range_succ]
theorem arK_le (x : Prt) (k : Nat) : (arK x k).length ≤ 1 := by
  unfold arK; split
  · simp
  · split
    · simp
    · split <;> simp
theorem arUp_len (x : Prt) : ∀ m, (arUp x m).length ≤ m
  | 0 => by simp [arUp]
  | m + 1 => by
    rw [arUp_succ, List.length_append]
    have := arUp_len x m
    have := arK_le x m
    omega
theorem arK_mem {x : Prt} {k n : Nat} (h : n ∈ arK x k) : n ≤ 2 := by
  unfold arK at h
  split at h
  · simp at h; omega
  · split at h
    · simp at h; omega
    · split at h
      · simp at h; omega
      · simp at h
theorem arP_mem {x : Prt} {n : Nat} (h : n ∈ arP x) : n ≤ 2 := by
  obtain ⟨k, _, hk⟩ := List.mem_flatMap.1 h
  exact arK_mem hk
theorem arP_len (x : Prt) : (arP x).length = max 1 (max (min x.hs.length 3) (min x.sec.length 3)) := by
  have e : arP x = arK x 0 ++ (arK x 1 ++ arK x 2) := by simp [arP, arUp, List.range_succ]
  have key : ∀ k, (arK x k).length = if k < x.hs.length ∨ k = 0 ∨ k < x.sec.length then 1 else 0 := by
    intro k
    unfold arK
    by_cases h1 : k < x.hs.length
    · rw [dif_pos h1, if_pos (.inl h1)]; rfl
    · rw [dif_neg h1]
      by_cases h2 : k = 0
      · rw [if_pos h2, if_pos (.inr (.inl h2))]; rfl
      · rw [if_neg h2]
        by_cases h3 : k < x.sec.length
        · rw [dif_pos h3, if_pos (.inr (.inr h3))]; rfl
        · rw [dif_neg h3, if_neg (by omega)]; rfl
  rw [e, List.length_append, List.length_append, key, key, key]
  rw [if_pos (.inr (.inl rfl))]
  split <;> split <;> omega
/-- The parts that are used. -/
def prtsP (p : Pln) : List Prt := if p.comps.length = 0 then [⟨0, 0, [], []⟩] else p.comps.take 3
theorem prtsP_len (p : Pln) : 0 < (prtsP p).length ∧ (prtsP p).length ≤ 3 := by
  unfold prtsP
  split
  · simp
  · simp only [List.length_take]; omega
def abcS (k : Nat) : Str := [UInt8.ofNat (97 + k)]
def flgP (c : UInt8) (k : Nat) : Fg := ⟨nmB 102 k, decide (((c.toNat / 2 ^ (4 + k) % 2 : Nat) : Int) = 1)⟩
def flgsP (c : UInt8) (n : Nat) : List Fg := (List.range n).map (flgP c)
theorem flgsP_succ (c : UInt8) (n : Nat) : flgsP c (n + 1) = flgsP c n ++ [flgP c n] := by simp [flgsP, List.range_succ]
theorem flgsP_len (c : UInt8) (n : Nat) : (flgsP c n).length = n := by simp [flgsP]
def lnkP (n : Nat) (l : Bs) (k : Nat) : List Lk := if 0 < (l.getD k 0).toNat % 4 then [⟨abcS (k / n), abcS (k % n), Int64.ofNat ((l.getD k 0).toNat % 4)⟩] else []
def lnksP (n : Nat) (l : Bs) (m : Nat) : List Lk := (List.range m).flatMap (lnkP n l)
theorem lnksP_succ (n : Nat) (l : Bs) (m : Nat) : lnksP n l (m + 1) = lnksP n l m ++ lnkP n l m := by simp [lnksP, List.range_succ]
theorem lnksP_len (n : Nat) (l : Bs) : ∀ m, (lnksP n l m).length ≤ m
  | 0 => by simp [lnksP]
  | m + 1 => by
    rw [lnksP_succ, List.length_append]
    have := lnksP_len n l m
    have : (lnkP n l m).length ≤ 1 := by unfold lnkP; split <;> simp
    omega
def intsP (x : Prt) : Nat := 1 + x.ints.toNat % 3
def tabsP (x : Prt) : Nat := x.tables.toNat % 2
def vrI (k : Nat) : Vr := ⟨nmB 120 k, 1, Int64.ofNat k⟩
def vrT0 (k : Nat) : Vr := ⟨nmB 116 k, 3, 0⟩
def vrsI (n : Nat) : List Vr := (List.range n).map vrI
def vrsT (n : Nat) : List Vr := (List.range n).map vrT0
theorem vrsI_succ (n : Nat) : vrsI (n + 1) = vrsI n ++ [vrI n] := by simp [vrsI, List.range_succ]
theorem vrsT_succ (n : Nat) : vrsT (n + 1) = vrsT n ++ [vrT0 n] := by simp [vrsT, List.range_succ]
def vrB : Vr := ⟨[98, 48], 2, 0⟩
def varsP (x : Prt) : List Vr := vrsI (intsP x) ++ [vrB] ++ vrsT (tabsP x)
theorem vrsI_len (n : Nat) : (vrsI n).length = n := by simp [vrsI]
theorem vrsT_len (n : Nat) : (vrsT n).length = n := by simp [vrsT]
def mkP (ars : List (List Nat)) (nf i : Nat) (x : Prt) : Mk := { ints := intsP x, tables := tabsP x, flags := nf, own := i, ars := ars, params := 0 }
def fstP (x : Prt) : List Cd := if x.hs.length = 0 then [⟨1, []⟩] else x.hs.take 3
def vssP (M : Mk) (x : Prt) : List (List Hd) := hdsP M 0 (fstP x) :: (if 0 < x.sec.length then [hdsP M 0 (x.sec.take 3)] else [])
def cmpP (ars : List (List Nat)) (nf i : Nat) (x : Prt) : Cp := ⟨abcS i, varsP x, vssP (mkP ars nf i x) x⟩
def cmpsP (ars : List (List Nat)) (nf : Nat) (l : List Prt) : List Cp := l.mapIdx (fun i x => cmpP ars nf i x)
theorem cmpsP_succ {ars : List (List Nat)} {nf : Nat} {l : List Prt} {k : Nat} (h : k < l.length) : cmpsP ars nf (l.take (k + 1)) = cmpsP ars nf (l.take k) ++ [cmpP ars nf k l[k]] := by
  unfold cmpsP
  rw [take_snoc h, List.mapIdx_append]
  simp [Nat.min_eq_left (Nat.le_of_lt h)]
theorem cmpsP_len (ars : List (List Nat)) (nf : Nat) (l : List Prt) : (cmpsP ars nf l).length = l.length := by simp [cmpsP]
def fleetN : Str := [102, 108, 101, 101, 116, 49]
def arsP (p : Pln) : List (List Nat) := (prtsP p).map arP
/-- The fleet of a plan. -/
def buildF (p : Pln) : Ft :=
  ⟨fleetN, flgsP p.flags (p.flags.toNat % 3), lnksP (prtsP p).length p.links (min p.links.length ((prtsP p).length * (prtsP p).length)), cmpsP (arsP p) (p.flags.toNat % 3) (prtsP p)⟩
end Go.Proofs.YtmbiojpcidccjaaDoor
/- Facts on types and functions. -/
namespace Go.Proofs.YtmbiojpcidccjaaDoor
open Go.RowKit Go.Par Go.Sx
theorem Fx.agg130 : aggN Tryd.prog 130 = Option.some Option.none := by kernel_rfl
theorem Fx.field132_2 : fieldN Tryd.prog 132 2 = Option.some 2 := by kernel_rfl
theorem Fx.field132_3 : fieldN Tryd.prog 132 3 = Option.some 3 := by kernel_rfl
theorem Fx.field144_0 : fieldN Tryd.prog 144 0 = Option.some 0 := by kernel_rfl
theorem Fx.row137 : rowN Tryd.prog 137 = Option.some (3, 1, 8) := by kernel_rfl
theorem Fx.bsl137_1 (x0 : Int) : bslN Tryd.prog 137 1 [(0, .int .i64 x0)] = some (3, [.int .i64 x0]) := by kernel_rfl
end Go.Proofs.YtmbiojpcidccjaaDoor
/- Contracts: arity. -/
namespace Go.Proofs.YtmbiojpcidccjaaDoor
open Go.RowKit Go.Par Go.Sx
theorem nat_shut {H : Hp} (n : Nat) : Rep H (dNat n) [.int .i64 (n : Nat)] := repV rfl trivial
set_option maxRecDepth 100000 in
theorem arity_prt (H : Hp) (x : Prt) (cs : List Value) (w : World) (h : Rep H (dPrt x) cs) (hA : Agr H w) : Calls Tryd.prog 56 #[.agg cs.toArray] w fun r w' => ∃ (v : Value) (H' : Hp), Rep H' (.seq 1 ((arP x).map dNat)) [v] ∧ r = .returned v ∧ Grow H w H' w' := by
  obtain ⟨p1, c1, p2, c2, rfl, h1, h2⟩ := prt_open h
  have hcap1 := h1.cap
  have hcap2 := h2.cap
  refine Sx.enter (H := H) Tryd.func56 rfl Tryd.ntmps56 rfl hA ?_
  refine .sq <| .rg <| .bx rfl rfl rfl fun b1 => .a rfl rfl <| .nl <| .tN <| .sq <| .rg <| .a rfl rfl <| ?_
  refine Sx.row0 3 1 ?_
  refine .nl <| .tN <| .sq <| .sq <| .rg <| .a rfl rfl <| .nl <| .tN <| .bk <| .lp (X := Nat × Nat × Value × List Value) [(1, _)] ⟨rfl, trivial⟩ [_] (fun z => [(3, z.2.2.1), (4, .int .i64 (z.1 : Nat))]) (fun z => H) (fun z => [.row 3 1 z.2.2.1 z.2.1 z.2.2.2]) (fun z => z.1 ≤ 3 ∧ z.2.1 = (arUp x z.1).length ∧ RepZ H 1 ((arUp x z.1).map dNat) z.2.2.2) (fun z => 3 - z.1) (0, 0, .slice none 0 0, []) (fun _ s => s) ⟨rfl, rfl, trivial⟩ ⟨by simp, rfl, RepZ.nil⟩ fun z hC => ?_
  obtain ⟨k, n, r, xs⟩ := z
  dsimp only at hC ⊢
  obtain ⟨hk0, hn, hz⟩ := hC
  have hn3 := arUp_len x k
  refine .sq <| .sq <| .rg <| .m rfl rfl <| .yv (.lss rfl rfl) rfl <| .nl <| .tN <| .cd rfl (fun h6 => ?_) (fun h6 => ?_)
  · try simp only [decide_eq_true_eq] at h6
    have hk3 : k < 3 := by omega
    refine .sk <| .tN <| .sq <| .bk <| .bk <| .sq <| .rg <| .m rfl rfl <| .yv (.fieldAddr rfl Fx.field132_2) rfl <| .yv (.load rfl Fx.agg130 (.tail _ <| .head _) rfl) rfl <|
      .yv (.lenSl Fx.sl130 rfl) rfl <| .yv (.lss rfl rfl) rfl <| .a rfl rfl <| .nl <| .tN <| .cd rfl (fun h9 => ?_) (fun h9 => ?_)
    · try simp only [decide_eq_true_eq] at h9
      have hk : k < x.hs.length := by omega
      obtain ⟨bE, oE, cE, hpE, rE, lE, mE⟩ := h1.elem (map_at (f := dCd) hk)
      cases hpE
      obtain ⟨pc, cc, rfl, _⟩ := cd_open rE
      exact .rg <| .m rfl rfl <| .yv (.fieldAddr rfl Fx.field132_2) rfl <| .yv (.load rfl Fx.agg130 (.tail _ <| .head _) rfl) rfl <| .m rfl rfl <| .yv (.indexSl Fx.sl130 rfl rfl rfl (by omega) (q := oE + k * 2) rfl) rfl <|
        .yv (.fieldAddr rfl Fx.field144_0) rfl <| .yv (.loadM rfl Fx.agg5 mE (k := 0) rfl rfl) rfl <| .yv (.rem rfl rfl (by decide) (c := ((x.hs[k].ps.toNat % 3 : Nat) : Int)) (by rw [Int.tmod_eq_emod_of_nonneg (by omega)]; omega)) rfl <|
        .yv (.conv rfl Fx.int5 Fx.int3 (c := ((x.hs[k].ps.toNat % 3 : Nat) : Int)) (w64 (by omega) (by omega))) rfl <| .bl rfl (Fx.bsl137_1 _) rfl fun b24 => .ap (news := [.int .i64 (x.hs[k].ps.toNat % 3 : Nat)]) Fx.row137 rfl (fun _ => (.tail <|
        .head)) rfl (.box (.head _) (fun j u h => by rw [Nat.zero_add]; exact h)) rfl (by simp [Value.oneCell']) (by simp [maxLen]; omega) (by omega) rfl fun r25 _ => .a rfl rfl <|
        .nl <| .bN <| .bN <| .tN <| .rg <| .m rfl rfl <| .yv (.add rfl rfl (w64 (by omega) (by omega))) rfl <| .a rfl rfl <| .nl <| .tN <| .ag (x := (k, n, r, xs)) (k + 1, n + 1, r25, xs ++ [.int .i64 (x.hs[k].ps.toNat % 3 : Nat)]) ⟨rfl, rfl, trivial⟩ ⟨rfl, trivial⟩ (fun _ s => (s.pick [1, 2] _ rfl rfl)) (by have hA1 : arK x k = [x.hs[k].ps.toNat % 3] := (by unfold arK; rw [dif_pos hk]); exact ⟨by dsimp only; omega, by dsimp only; rw [arUp_succ, hA1]; simp [hn], by dsimp only; rw [arUp_succ, hA1, List.map_append]; exact hz.snoc (nat_shut _) rfl⟩) (by dsimp only; omega)
    · try simp only [decide_eq_false_iff_not] at h9
      have hna : ¬ k < x.hs.length := by omega
      refine .sq <| .rg <| .m rfl rfl <| .yv (.eql rfl rfl) rfl <| .a rfl rfl <| .nl <| .tN <| .cd rfl (fun h26 => ?_) (fun h26 => ?_)
      · try simp only [decide_eq_true_eq] at h26
        have hb : k = 0 := by omega
        exact .rg <| .m rfl rfl <| .bl rfl (Fx.bsl137_1 _) rfl fun b30 => .ap (news := [.int .i64 (1 : Nat)]) Fx.row137 rfl (fun _ => (.tail <| .head)) rfl (.box (.head _) (fun j u h => by rw [Nat.zero_add]; exact h)) rfl (by simp [Value.oneCell']) (by simp [maxLen]; omega) (by omega) rfl fun r31 _ => .a rfl rfl <|
          .nl <| .bN <| .bN <| .tN <| .rg <| .m rfl rfl <| .yv (.add rfl rfl (w64 (by omega) (by omega))) rfl <| .a rfl rfl <| .nl <| .tN <| .ag (x := (k, n, r, xs)) (k + 1, n + 1, r31, xs ++ [.int .i64 (1 : Nat)]) ⟨rfl, rfl, trivial⟩ ⟨rfl, trivial⟩ (fun _ s => (s.pick [1, 2] _ rfl rfl)) (by have hA1 : arK x k = [1] := (by unfold arK; rw [dif_neg hna, if_pos hb]); exact ⟨by dsimp only; omega, by dsimp only; rw [arUp_succ, hA1]; simp [hn], by dsimp only; rw [arUp_succ, hA1, List.map_append]; exact hz.snoc (nat_shut _) rfl⟩) (by dsimp only; omega)
      · try simp only [decide_eq_false_iff_not] at h26
        have hnb : ¬ k = 0 := by omega
        refine .sq <| .rg <| .m rfl rfl <| .yv (.fieldAddr rfl Fx.field132_3) rfl <| .yv (.load rfl Fx.agg130 (.tail _ <| .head _) rfl) rfl <| .yv (.lenSl Fx.sl130 rfl) rfl <|
          .yv (.lss rfl rfl) rfl <| .a rfl rfl <| .nl <| .tN <| .cd rfl (fun h32 => ?_) (fun h32 => ?_)
        · try simp only [decide_eq_true_eq] at h32
          have hk : k < x.sec.length := by omega
          obtain ⟨bE, oE, cE, hpE, rE, lE, mE⟩ := h2.elem (map_at (f := dCd) hk)
          cases hpE
          obtain ⟨pc, cc, rfl, _⟩ := cd_open rE
          exact .rg <| .m rfl rfl <| .yv (.fieldAddr rfl Fx.field132_3) rfl <| .yv (.load rfl Fx.agg130 (.tail _ <| .head _) rfl) rfl <| .m rfl rfl <| .yv (.indexSl Fx.sl130 rfl rfl rfl (by omega) (q := oE + k * 2) rfl) rfl <|
            .yv (.fieldAddr rfl Fx.field144_0) rfl <| .yv (.loadM rfl Fx.agg5 mE (k := 0) rfl rfl) rfl <| .yv (.rem rfl rfl (by decide) (c := ((x.sec[k].ps.toNat % 3 : Nat) : Int)) (by rw [Int.tmod_eq_emod_of_nonneg (by omega)]; omega)) rfl <|
            .yv (.conv rfl Fx.int5 Fx.int3 (c := ((x.sec[k].ps.toNat % 3 : Nat) : Int)) (w64 (by omega) (by omega))) rfl <| .bl rfl (Fx.bsl137_1 _) rfl fun b47 => .ap (news := [.int .i64 (x.sec[k].ps.toNat % 3 : Nat)]) Fx.row137 rfl (fun _ => (.tail <|
            .head)) rfl (.box (.head _) (fun j u h => by rw [Nat.zero_add]; exact h)) rfl (by simp [Value.oneCell']) (by simp [maxLen]; omega) (by omega) rfl fun r48 _ => .a rfl rfl <|
            .nl <| .bN <| .bN <| .tN <| .rg <| .m rfl rfl <| .yv (.add rfl rfl (w64 (by omega) (by omega))) rfl <| .a rfl rfl <| .nl <| .tN <| .ag (x := (k, n, r, xs)) (k + 1, n + 1, r48, xs ++ [.int .i64 (x.sec[k].ps.toNat % 3 : Nat)]) ⟨rfl, rfl, trivial⟩ ⟨rfl, trivial⟩ (fun _ s => (s.pick [1, 2] _ rfl rfl)) (by have hA1 : arK x k = [x.sec[k].ps.toNat % 3] := (by unfold arK; rw [dif_neg hna, if_neg hnb, dif_pos hk]); exact ⟨by dsimp only; omega, by dsimp only; rw [arUp_succ, hA1]; simp [hn], by dsimp only; rw [arUp_succ, hA1, List.map_append]; exact hz.snoc (nat_shut _) rfl⟩) (by dsimp only; omega)
        · try simp only [decide_eq_false_iff_not] at h32
          have hnc : ¬ k < x.sec.length := by omega
          exact .sk <| .bN <| .bN <| .tN <| .rg <| .m rfl rfl <| .yv (.add rfl rfl (w64 (by omega) (by omega))) rfl <| .a rfl rfl <| .nl <| .tN <| .ag (x := (k, n, r, xs)) (k + 1, n, r, xs) ⟨rfl, rfl, trivial⟩ ⟨rfl, trivial⟩ (fun _ s => (s.pick [0, 1] _ rfl rfl)) (by have hA1 : arK x k = [] := (by unfold arK; rw [dif_neg hna, if_neg hnb, dif_neg hnc]); exact ⟨by dsimp only; omega, by dsimp only; rw [arUp_succ, hA1, List.append_nil]; exact hn, by dsimp only; rw [arUp_succ, hA1, List.append_nil]; exact hz⟩) (by dsimp only; omega)
  · try simp only [decide_eq_false_iff_not] at h6
    obtain rfl : k = 3 := by omega
    refine .ex <| .tE <| .tE <| .bE <| .tN <| .sq <| .rg <| .m rfl rfl <| .a rfl rfl <| .nl <| .tN <| .rt <| ?_
    refine At.pm [0] [_] rfl rfl ?_
    refine Sx.freezeSeq (ds := (arUp x 3).map dNat) (by simp [hn]) hz fun H3 p3 c3 u3 hr3 hs3 => ?_
    exact Sx.ret1 (.inl rfl) rfl (.tmp rfl) fun W t => ⟨r, H3, hs3, rfl, u3.grow t⟩
end Go.Proofs.YtmbiojpcidccjaaDoor
/- Facts on types and functions. -/
namespace Go.Proofs.YtmbiojpcidccjaaDoor
open Go.RowKit Go.Par Go.Sx
theorem Fx.agg40 : aggN Tryd.prog 40 = Option.some Option.none := by kernel_rfl
theorem Fx.agg45 : aggN Tryd.prog 45 = Option.some Option.none := by kernel_rfl
theorem Fx.agg46 : aggN Tryd.prog 46 = Option.some Option.none := by kernel_rfl
theorem Fx.agg47 : aggN Tryd.prog 47 = Option.some Option.none := by kernel_rfl
theorem Fx.agg49 : aggN Tryd.prog 49 = Option.some (Option.some 4) := by kernel_rfl
theorem Fx.agg51 : aggN Tryd.prog 51 = Option.some Option.none := by kernel_rfl
theorem Fx.agg52 : aggN Tryd.prog 52 = Option.some Option.none := by kernel_rfl
theorem Fx.agg54 : aggN Tryd.prog 54 = Option.some (Option.some 3) := by kernel_rfl
theorem Fx.agg132 : aggN Tryd.prog 132 = Option.some (Option.some 4) := by kernel_rfl
theorem Fx.call56 : callN Tryd.prog 56 = Bool.true := by kernel_rfl
theorem Fx.call57 : callN Tryd.prog 57 = Bool.true := by kernel_rfl
theorem Fx.field42_0 : fieldN Tryd.prog 42 0 = Option.some 0 := by kernel_rfl
theorem Fx.field42_1 : fieldN Tryd.prog 42 1 = Option.some 1 := by kernel_rfl
theorem Fx.field42_2 : fieldN Tryd.prog 42 2 = Option.some 2 := by kernel_rfl
theorem Fx.field49_1 : fieldN Tryd.prog 49 1 = Option.some 1 := by kernel_rfl
theorem Fx.field49_2 : fieldN Tryd.prog 49 2 = Option.some 2 := by kernel_rfl
theorem Fx.field49_3 : fieldN Tryd.prog 49 3 = Option.some 3 := by kernel_rfl
theorem Fx.field54_1 : fieldN Tryd.prog 54 1 = Option.some 1 := by kernel_rfl
theorem Fx.field54_2 : fieldN Tryd.prog 54 2 = Option.some 2 := by kernel_rfl
theorem Fx.field132_0 : fieldN Tryd.prog 132 0 = Option.some 0 := by kernel_rfl
theorem Fx.field132_1 : fieldN Tryd.prog 132 1 = Option.some 1 := by kernel_rfl
theorem Fx.row45 : rowN Tryd.prog 45 = Option.some (134, 2, 24) := by kernel_rfl
theorem Fx.row46 : rowN Tryd.prog 46 = Option.some (135, 3, 40) := by kernel_rfl
theorem Fx.row47 : rowN Tryd.prog 47 = Option.some (54, 3, 64) := by kernel_rfl
theorem Fx.row51 : rowN Tryd.prog 51 = Option.some (140, 3, 32) := by kernel_rfl
theorem Fx.row52 : rowN Tryd.prog 52 = Option.some (55, 1, 24) := by kernel_rfl
theorem Fx.row136 : rowN Tryd.prog 136 = Option.some (137, 1, 24) := by kernel_rfl
theorem Fx.size45 : sizeN Tryd.prog 45 = Option.some 1 := by kernel_rfl
theorem Fx.size46 : sizeN Tryd.prog 46 = Option.some 1 := by kernel_rfl
theorem Fx.size47 : sizeN Tryd.prog 47 = Option.some 1 := by kernel_rfl
theorem Fx.size49 : sizeN Tryd.prog 49 = Option.some 4 := by kernel_rfl
theorem Fx.size51 : sizeN Tryd.prog 51 = Option.some 1 := by kernel_rfl
theorem Fx.size52 : sizeN Tryd.prog 52 = Option.some 1 := by kernel_rfl
theorem Fx.size54 : sizeN Tryd.prog 54 = Option.some 3 := by kernel_rfl
theorem Fx.size132 : sizeN Tryd.prog 132 = Option.some 4 := by kernel_rfl
theorem Fx.size142 : sizeN Tryd.prog 142 = Option.some 8 := by kernel_rfl
theorem Fx.sl40 : slN Tryd.prog 40 = Option.some 4 := by kernel_rfl
theorem Fx.sl45 : slN Tryd.prog 45 = Option.some 2 := by kernel_rfl
theorem Fx.zero49 : zeroN Tryd.prog 49 = Option.some
  [Go.Value.string { data := { toList := [] } }, Go.Value.slice Option.none 0 0, Go.Value.slice Option.none 0 0,
    Go.Value.slice Option.none 0 0] := by kernel_rfl
theorem Fx.zero54 : zeroN Tryd.prog 54 = Option.some
  [Go.Value.string { data := { toList := [] } }, Go.Value.slice Option.none 0 0, Go.Value.slice Option.none 0 0] := by kernel_rfl
theorem Fx.zero132 : zeroN Tryd.prog 132 = Option.some
  [Go.Value.int Go.IntKind.u8 (Int.ofNat 0), Go.Value.int Go.IntKind.u8 (Int.ofNat 0), Go.Value.slice Option.none 0 0,
    Go.Value.slice Option.none 0 0] := by kernel_rfl
theorem Fx.zero142 : zeroN Tryd.prog 142 = Option.some
  [Go.Value.int Go.IntKind.i64 (Int.ofNat 0), Go.Value.int Go.IntKind.i64 (Int.ofNat 0),
    Go.Value.int Go.IntKind.i64 (Int.ofNat 0), Go.Value.int Go.IntKind.i64 (Int.ofNat 0),
    Go.Value.slice Option.none 0 0, Go.Value.int Go.IntKind.i64 (Int.ofNat 0), Go.Value.slice Option.none 0 0,
    Go.Value.int Go.IntKind.i64 (Int.ofNat 0)] := by kernel_rfl
theorem Fx.bld132  : buildN Tryd.prog 132 [] = some [.int .u8 0, .int .u8 0, .slice none 0 0, .slice none 0 0] := by kernel_rfl
theorem Fx.bld134_0_1 (x0 : ByteArray) (x1 : Bool) : buildN Tryd.prog 134 [(0, .string x0), (1, .bool x1)] = some [.string x0, .bool x1] := by kernel_rfl
theorem Fx.bld135_0_1_2 (x0 : ByteArray) (x1 : ByteArray) (x2 : Int) : buildN Tryd.prog 135 [(0, .string x0), (1, .string x1), (2, .int .i64 x2)] = some [.string x0, .string x1, .int .i64 x2] := by kernel_rfl
theorem Fx.bld140_0_1_2 (x0 : ByteArray) (x1 : Int) (x2 : Int) : buildN Tryd.prog 140 [(0, .string x0), (1, .int .i64 x1), (2, .int .i64 x2)] = some [.string x0, .int .i64 x1, .int .i64 x2] := by kernel_rfl
theorem Fx.bld142_0_1_2_3_4 (x0 : Int) (x1 : Int) (x2 : Int) (x3 : Int) (x4p : Option Addr) (x4n x4c : Nat) : buildN Tryd.prog 142 [(0, .int .i64 x0), (1, .int .i64 x1), (2, .int .i64 x2), (3, .int .i64 x3), (4, .slice x4p x4n x4c)] = some [.int .i64 x0, .int .i64 x1, .int .i64 x2, .int .i64 x3, .slice x4p x4n x4c, .int .i64 0, .slice none 0 0, .int .i64 0] := by kernel_rfl
theorem Fx.bld144_0 (x0 : Int) : buildN Tryd.prog 144 [(0, .int .u8 x0)] = some [.int .u8 x0, .slice none 0 0] := by kernel_rfl
theorem Fx.bld49_0 (x0 : ByteArray) : buildN Tryd.prog 49 [(0, .string x0)] = some [.string x0, .slice none 0 0, .slice none 0 0, .slice none 0 0] := by kernel_rfl
theorem Fx.bld54_0 (x0 : ByteArray) : buildN Tryd.prog 54 [(0, .string x0)] = some [.string x0, .slice none 0 0, .slice none 0 0] := by kernel_rfl
theorem Fx.bsl130_1 (x00 x01 : Value) : bslN Tryd.prog 130 1 [(0, .agg [x00, x01].toArray)] = some (144, [x00, x01]) := by kernel_rfl
theorem Fx.bsl136_1 (x0p : Option Addr) (x0n x0c : Nat) : bslN Tryd.prog 136 1 [(0, .slice x0p x0n x0c)] = some (137, [.slice x0p x0n x0c]) := by kernel_rfl
theorem Fx.bsl40_1 (x00 x01 x02 x03 : Value) : bslN Tryd.prog 40 1 [(0, .agg [x00, x01, x02, x03].toArray)] = some (132, [x00, x01, x02, x03]) := by kernel_rfl
theorem Fx.bsl45_1 (x00 x01 : Value) : bslN Tryd.prog 45 1 [(0, .agg [x00, x01].toArray)] = some (134, [x00, x01]) := by kernel_rfl
theorem Fx.bsl46_1 (x00 x01 x02 : Value) : bslN Tryd.prog 46 1 [(0, .agg [x00, x01, x02].toArray)] = some (135, [x00, x01, x02]) := by kernel_rfl
theorem Fx.bsl47_1 (x00 x01 x02 : Value) : bslN Tryd.prog 47 1 [(0, .agg [x00, x01, x02].toArray)] = some (54, [x00, x01, x02]) := by kernel_rfl
theorem Fx.bsl51_1 (x00 x01 x02 : Value) : bslN Tryd.prog 51 1 [(0, .agg [x00, x01, x02].toArray)] = some (140, [x00, x01, x02]) := by kernel_rfl
theorem Fx.bsl52_1 (x0p : Option Addr) (x0n x0c : Nat) : bslN Tryd.prog 52 1 [(0, .slice x0p x0n x0c)] = some (55, [.slice x0p x0n x0c]) := by kernel_rfl
end Go.Proofs.YtmbiojpcidccjaaDoor
