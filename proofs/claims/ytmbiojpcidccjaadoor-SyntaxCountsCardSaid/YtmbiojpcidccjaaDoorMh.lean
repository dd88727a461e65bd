/- Texts of the proof, one behind the other. -/
import Derived.Test.YtmbiojpcidccjaaDoorMg
import Derived.Test.YtmbiojpcidccjaaDoorTie
import Derived.ProofKit
import Derived.OpenShut
import Derived.ShutString
import Derived.Lay
import Derived.Stop.LaidErr
import Derived.Stop.Joined
import Derived.Shelf.Vars
import Derived.Lib.LaidTab
import Derived.Lib.SmallJoins
import Derived.SevenTiedAt
/- Contracts: Body. -/
namespace Go.Proofs.YtmbiojpcidccjaaDoor
open Go.RowKit Go.Par Go.Sx
set_option maxHeartbeats 2000000 in
set_option maxRecDepth 100000 in
theorem bodyL_any (N : Nat) (hN : N ≤ 1000000) : ∀ (l : List Sm), okL N l → ∀ (H : Hp) (v : Value) (w : World), Rep H (.seq 6 (l.map (dSm .i64))) [v] → Agr H w →
    Calls Tryd.prog 16 #[v] w fun r w' => ∃ (y : Value) (H' : Hp), Rep H' (.seq 6 (l.map (dSm .u8))) [y] ∧ r = .returned y ∧ Grow H w H' w' := by
  refine Sm.lists fun l ih => ?_
  intro hok H v w hs hA
  obtain ⟨p, c, e, _⟩ := hs.sl
  simp only [List.cons.injEq, and_true, List.length_map] at e
  subst e
  have hcap := hs.cap
  have hll := hok.len
  refine Sx.enter (H := H) Tryd.func16 rfl Tryd.ntmps16 rfl hA ?_
  refine .sq <| .rg <| .a rfl rfl <| .nl <| .tN <| .sq <| .rg <| .a rfl rfl <| ?_
  refine Sx.row0 73 6 ?_
  refine .nl <| .tN <| .sq <| .sq <| .rg <| .m rfl rfl <| .yv (.lenSl Fx.sl57 rfl) rfl <| .m rfl rfl <| .nl <| .tN <| .bk <| .lp (X := Nat × Hp × Value × List Value) [(9, _), (10, _)] ⟨rfl, rfl, trivial⟩ [] (fun z => [(3, z.2.2.1), (11, .int .i64 (z.1 : Nat))]) (fun z => z.2.1) (fun z => [.row 73 6 z.2.2.1 z.1 z.2.2.2]) (fun z => z.1 ≤ l.length ∧ HUp w H z.2.1 ∧ RepZ z.2.1 6 ((l.take z.1).map (dSm .u8)) z.2.2.2) (fun z => l.length - z.1) (0, H, .slice none 0 0, []) (fun _ s => s) ⟨rfl, rfl, trivial⟩ ⟨by simp, .refl, RepZ.nil⟩ fun z hC => ?_
  obtain ⟨k, H1, r, xs⟩ := z
  dsimp only at hC ⊢
  obtain ⟨hk0, u1, hz⟩ := hC
  refine .sq <| .rg <| .yv (.lss rfl rfl) rfl <| .nl <| .tN <| .sq <| .cd rfl (fun h12 => ?_) (fun h12 => ?_)
  · try simp only [decide_eq_true_eq] at h12
    have hk : k < l.length := by omega
    obtain ⟨bE, oE, cE, hpE, rE, lE, mE⟩ := (hs.up u1.up).elem (map_at (f := dSm .i64) hk)
    cases hpE
    have hi := ih _ (List.getElem_mem hk)
    have hka := hok.at hk
    generalize hx : l[k] = x at rE hi hka
    obtain ⟨kd, nm, hd, ex, th, el⟩ := x
    obtain ⟨p1, c1, p2, c2, p3, c3, rfl, hs1, hs2, hs3, hn1, hn2⟩ := sm_open rE
    simp only [Sm.th, Sm.el] at hi
    obtain ⟨k1, k2, k3, k4, k5, k6, k7⟩ := okL_one.1 hka
    have hit := hi.1 ⟨by omega, by omega, k6⟩
    have hie := hi.2 ⟨by omega, by omega, k7⟩
    have hcap1 := hs1.cap
    refine .sk <| .tN <| .sq <| .bk <| .sq <| .rg <| .yv (.indexSl Fx.sl57 rfl rfl rfl (by omega) (q := oE + k * 6) rfl) rfl <| .yv (.loadMW rfl Fx.agg104 mE rfl) rfl <|
      .al Fx.zero104 rfl fun b5 => .sW .head rfl rfl Fx.size104 (by simp [Value.oneCell', strV]) rfl <| .nl <| .tN <| .sq <| .ft (p := .light _ _ (.light _ _ (.light _ _ (.light _ _ (.light _ _ (.light _ _ (.light _ _ (.light _ _ (.light _ _ (.light _ _ (.light _ _ (.alt _ _ _ (.alt _ _ _ (.light _ _ (.alt _ _ _ (.done) (.no))) (.alt _ _ _ (.alt _ _ _ (.light _ _ (.done)) (.no)) (.no))) (.alt _ _ _ (.alt _ _ _ (.alt _ _ _ (.light _ _ (.done)) (.no)) (.no)) (.no)))))))))))))) 15 (.light 0 (.light 1 (.light 2 (.light 3 (.light 4 (.light 5 (.light 6 (.light 7 (.light 8 (.light 10 (.light 11 (.alt 9 0 (.alt 12 0 (.light 13 (.alt 14 0 (.done) (.no))) (.alt 14 0 (.alt 12 0 (.light 13 (.done)) (.no)) (.no))) (.alt 14 0 (.alt 9 0 (.alt 12 0 (.light 13 (.done)) (.no)) (.no)) (.no)))))))))))))) (by kernel_rfl) (by kernel_rfl) rfl <|
      .yv (.fieldAddr rfl Fx.field104_0) rfl <| .yv (.load rfl Fx.agg3 (.head _) rfl) rfl <| .yv (.conv rfl Fx.int3 Fx.int70 (c := (kd.toNat : Nat)) (by have := kd.toNat_lt; simp only [IntKind.wrap, IntKind.signed, IntKind.bits]; simp; omega)) rfl <|
      .yv (.fieldAddr rfl Fx.field104_1) rfl <| .yv (.load rfl Fx.agg9 (.head _) rfl) rfl <| .yv (.fieldAddr rfl Fx.field104_2) rfl <| .yv (.load rfl Fx.agg9 (.head _) rfl) rfl <|
      .yv (.fieldAddr rfl Fx.field104_4) rfl <| .yv (.load rfl Fx.agg57 (.head _) rfl) rfl <| .yv (.fieldAddr rfl Fx.field104_5) rfl <| .yv (.load rfl Fx.agg57 (.head _) rfl) rfl <|
      .h ?_ (.h ?_ .nn)
    ·
      refine .ct (X := Value) Fx.call16 rfl (fun W s => hit H1 _ W hs2 s.agr) rfl fun y24 H24 hy24 u24 => ?_
      obtain ⟨q24, d24, e24, _⟩ := hy24.sl
      simp only [List.cons.injEq, and_true, List.length_map] at e24
      subst e24
      refine .h ?_ (.h ?_ .nn)
      ·
        refine .ct (X := Value) Fx.call16 rfl (fun W s => hie H24 _ W (hs3.up u24.up) s.agr) rfl fun y27 H27 hy27 u27 => ?_
        obtain ⟨q27, d27, e27, _⟩ := hy27.sl
        simp only [List.cons.injEq, and_true, List.length_map] at e27
        subst e27
        have u5 := u24.trans u27
        have hs1b := hs1.up u5.up
        have hy24b := hy24.up u27.up
        refine .yv (.build rfl (Fx.bld73_0_1_2_4_5 _ _ _ _ _ _ _ _ _)) rfl <| .h1 <| .al Fx.zero73 rfl fun b6 => .fn (tl := [_]) rfl <| .sW .head rfl rfl Fx.size73 (by simp [Value.oneCell', strV]) rfl <|
          .nl <| .tN <| .sq <| .sq <| .rg <| .yv (.fieldAddr rfl Fx.field104_3) rfl <| .yv (.load rfl Fx.agg24 (.tail _ <| .head _) rfl) rfl <| .yv (.lenSl Fx.sl24 rfl) rfl <|
          .m rfl rfl <| ?_
        refine Sx.row0 31 4 ?_
        refine .nl <| .tN <| .bk <| .lp (X := Nat × Hp × Value × List Value) [(3, _), (6, _), (9, _), (10, _), (11, _), (30, _), (31, _)] ⟨rfl, rfl, rfl, rfl, rfl, rfl, rfl, trivial⟩ [_, _] (fun z => [(32, .int .i64 (z.1 : Nat))]) (fun z => z.2.1) (fun z => [.row 31 4 z.2.2.1 z.1 z.2.2.2, .box b6 [.int .u8 kd.toNat, strV nm, strV hd, z.2.2.1, .slice q24 th.length d24, .slice q27 el.length d27] 73]) (fun z => z.1 ≤ ex.length ∧ HUp w H27 z.2.1 ∧ RepZ z.2.1 4 ((ex.take z.1).map (dEx .u8)) z.2.2.2) (fun z => ex.length - z.1) (0, H27, .slice none 0 0, []) (fun _ s => s) ⟨rfl, trivial⟩ ⟨by simp, .refl, RepZ.nil⟩ fun z hC => ?_
        obtain ⟨j, H3, re, ys⟩ := z
        dsimp only at hC ⊢
        obtain ⟨hj0, u3, hze⟩ := hC
        refine .sq <| .rg <| .yv (.lss rfl rfl) rfl <| .nl <| .tN <| .sq <| .cd rfl (fun h33 => ?_) (fun h33 => ?_)
        · try simp only [decide_eq_true_eq] at h33
          have hj : j < ex.length := by omega
          obtain ⟨bF, oF, cF, hpF, rF, lF, mF⟩ := (hs1b.up u3.up).elem (map_at (f := dEx .i64) hj)
          cases hpF
          have hnj : Ex.all narrow ex[j] = true := by
            have := List.all_eq_true.1 k5 _ (List.getElem_mem hj)
            simp only [okE, Bool.and_eq_true] at this
            exact this.2
          refine .sk <| .tN <| .sq <| .bk <| .sq <| .rg <| .yv (.indexSl Fx.sl24 rfl rfl rfl (by omega) (q := oF + j * 4) rfl) rfl <| .yv (.loadMW rfl Fx.agg26 mF lF) rfl <|
            .al Fx.zero26 rfl fun b8 => .sV .head rfl rfl Fx.size26 lF rF.one rfl <| .nl <| .tN <| .fl (trip := [(_, _, _), (_, _, _), (_, _, _), (_, _, _), (_, _, _)]) 5 [(0, 0), (1, 0), (2, 0), (3, 1), (4, 1)] (by kernel_rfl) (by kernel_rfl) rfl <|
            .yv (.fieldAddr rfl Fx.field73_3) rfl <| .yv (.load rfl Fx.agg29 (.tail _ <| .tail _ <| .head _) rfl) rfl <| .yv (.loadW rfl Fx.agg26 (.head _) lF) rfl <| .ct (X := List Value) Fx.call8 rfl (fun W s => expr_any _ hnj H3 cF W rF s.agr) rfl fun x39 H39 hx39 u39 => ?_
          generalize hxj : ex[j] = xj at hx39
          obtain ⟨op2, nm2, n2, args2⟩ := xj
          obtain ⟨pz, cz, rfl, hz2, hnm2⟩ := ex_open hx39
          exact .bl rfl (Fx.bsl29_1 _ _ _ _) rfl fun b40 => .fn (tl := [_, _, _]) rfl <| .ap (news := [.int .u8 op2.toNat, strV nm2, .int .i64 n2.toInt, .slice pz args2.length cz]) Fx.row29 rfl (fun _ => (.tail <|
            .tail <| .head)) rfl (.box (.head _) (fun j u h => by rw [Nat.zero_add]; exact h)) rfl (by simp [Value.oneCell', strV]) (by simp [maxLen]; omega) (by omega) rfl fun r41 _ => .ra (.tail _ <|
            .tail _ <| .head _) fun p41 c41 e41 => .yv (.fieldAddr rfl Fx.field73_3) rfl <| .st (.tail <| .tail <| .tail <| .head) rfl rfl Fx.size29 (by rw [e41]; rfl) (Nat.le_of_ble_eq_true rfl) rfl <|
            .nl <| .bN <| .tN <| .rg <| .yv (.add rfl rfl (w64 (by omega) (by omega))) rfl <| .m rfl rfl <| .nl <| .tN <| .ag (x := (j, H3, re, ys)) (j + 1, H39, r41, ys ++ [.int .u8 op2.toNat, strV nm2, .int .i64 n2.toInt, .slice pz args2.length cz]) ⟨rfl, trivial⟩ ⟨rfl, rfl, rfl, rfl, rfl, rfl, rfl, trivial⟩ (fun _ s => (s.pick [2, 3, 4, 5] _ rfl rfl)) ⟨by dsimp only; omega, u3.trans u39, by dsimp only; rw [take_snoc hj, hxj, List.map_append]; exact (hze.up u39.up).snoc hx39 rfl⟩ (by dsimp only; omega)
        · try simp only [decide_eq_false_iff_not] at h33
          obtain rfl : j = ex.length := by omega
          rw [List.take_length] at hze
          refine Sx.freezeSeq (ds := ex.map (dEx .u8)) (by simp) hze fun H3 pX cX u6 eX hX => ?_
          subst eX
          have uX := u5.trans (u3.trans u6)
          have hy24X := hy24b.up (u3.trans u6).up
          have hy27X := hy27.up (u3.trans u6).up
          exact .ex <| .tE <| .tE <| .bE <| .tN <| .rg <| .m rfl rfl <| .yv (.loadW rfl Fx.agg73 (.head _) rfl) rfl <| .bl rfl (Fx.bsl60_1 _ _ _ _ _ _) rfl fun b46 => .ap (news := [.int .u8 kd.toNat, strV nm, strV hd, .slice pX ex.length cX, .slice q24 th.length d24, .slice q27 el.length d27]) Fx.row60 rfl (fun _ => (.tail <|
            .tail <| .tail <| .head)) rfl (.box (.head _) (fun j u h => by rw [Nat.zero_add]; exact h)) rfl (by simp [Value.oneCell', strV]) (by simp [maxLen]; omega) (by omega) rfl fun r47 _ => .a rfl rfl <|
            .nl <| .bN <| .tN <| .rg <| .yv (.add rfl rfl (w64 (by omega) (by omega))) rfl <| .m rfl rfl <| .nl <| .tN <| .ag (x := (k, H1, r, xs)) (k + 1, H3, r47, xs ++ [.int .u8 kd.toNat, strV nm, strV hd, .slice pX ex.length cX, .slice q24 th.length d24, .slice q27 el.length d27]) ⟨rfl, rfl, trivial⟩ ⟨rfl, rfl, trivial⟩ (fun _ s => (s.pick [3] _ rfl rfl)) ⟨by dsimp only; omega, u1.trans uX, by dsimp only; rw [take_snoc hk, hx, List.map_append]; exact (hz.up uX.up).snoc (sm_shut (by omega) (by omega) hX hy24X hy27X) rfl⟩ (by dsimp only; omega)
      ·
        refine .al Fx.zero73 rfl fun b6 => .h1 <| .ct (X := Value) Fx.call16 rfl (fun W s => hie H24 _ W (hs3.up u24.up) s.agr) rfl fun y27 H27 hy27 u27 => ?_
        obtain ⟨q27, d27, e27, _⟩ := hy27.sl
        simp only [List.cons.injEq, and_true, List.length_map] at e27
        subst e27
        have u5 := u24.trans u27
        have hs1b := hs1.up u5.up
        have hy24b := hy24.up u27.up
        refine .yv (.build rfl (Fx.bld73_0_1_2_4_5 _ _ _ _ _ _ _ _ _)) rfl <| .fn (tl := [_]) rfl <| .sW .head rfl rfl Fx.size73 (by simp [Value.oneCell', strV]) rfl <|
          .nl <| .tN <| .sq <| .sq <| .rg <| .yv (.fieldAddr rfl Fx.field104_3) rfl <| .yv (.load rfl Fx.agg24 (.tail _ <| .head _) rfl) rfl <| .yv (.lenSl Fx.sl24 rfl) rfl <|
          .m rfl rfl <| ?_
        refine Sx.row0 31 4 ?_
        refine .nl <| .tN <| .bk <| .lp (X := Nat × Hp × Value × List Value) [(3, _), (6, _), (9, _), (10, _), (11, _), (30, _), (31, _)] ⟨rfl, rfl, rfl, rfl, rfl, rfl, rfl, trivial⟩ [_, _] (fun z => [(32, .int .i64 (z.1 : Nat))]) (fun z => z.2.1) (fun z => [.row 31 4 z.2.2.1 z.1 z.2.2.2, .box b6 [.int .u8 kd.toNat, strV nm, strV hd, z.2.2.1, .slice q24 th.length d24, .slice q27 el.length d27] 73]) (fun z => z.1 ≤ ex.length ∧ HUp w H27 z.2.1 ∧ RepZ z.2.1 4 ((ex.take z.1).map (dEx .u8)) z.2.2.2) (fun z => ex.length - z.1) (0, H27, .slice none 0 0, []) (fun _ s => s) ⟨rfl, trivial⟩ ⟨by simp, .refl, RepZ.nil⟩ fun z hC => ?_
        obtain ⟨j, H3, re, ys⟩ := z
        dsimp only at hC ⊢
        obtain ⟨hj0, u3, hze⟩ := hC
        refine .sq <| .rg <| .yv (.lss rfl rfl) rfl <| .nl <| .tN <| .sq <| .cd rfl (fun h33 => ?_) (fun h33 => ?_)
        · try simp only [decide_eq_true_eq] at h33
          have hj : j < ex.length := by omega
          obtain ⟨bF, oF, cF, hpF, rF, lF, mF⟩ := (hs1b.up u3.up).elem (map_at (f := dEx .i64) hj)
          cases hpF
          have hnj : Ex.all narrow ex[j] = true := by
            have := List.all_eq_true.1 k5 _ (List.getElem_mem hj)
            simp only [okE, Bool.and_eq_true] at this
            exact this.2
          refine .sk <| .tN <| .sq <| .bk <| .sq <| .rg <| .yv (.indexSl Fx.sl24 rfl rfl rfl (by omega) (q := oF + j * 4) rfl) rfl <| .yv (.loadMW rfl Fx.agg26 mF lF) rfl <|
            .al Fx.zero26 rfl fun b8 => .sV .head rfl rfl Fx.size26 lF rF.one rfl <| .nl <| .tN <| .fl (trip := [(_, _, _), (_, _, _), (_, _, _), (_, _, _), (_, _, _)]) 5 [(0, 0), (1, 0), (2, 0), (3, 1), (4, 1)] (by kernel_rfl) (by kernel_rfl) rfl <|
            .yv (.fieldAddr rfl Fx.field73_3) rfl <| .yv (.load rfl Fx.agg29 (.tail _ <| .tail _ <| .head _) rfl) rfl <| .yv (.loadW rfl Fx.agg26 (.head _) lF) rfl <| .ct (X := List Value) Fx.call8 rfl (fun W s => expr_any _ hnj H3 cF W rF s.agr) rfl fun x39 H39 hx39 u39 => ?_
          generalize hxj : ex[j] = xj at hx39
          obtain ⟨op2, nm2, n2, args2⟩ := xj
          obtain ⟨pz, cz, rfl, hz2, hnm2⟩ := ex_open hx39
          exact .bl rfl (Fx.bsl29_1 _ _ _ _) rfl fun b40 => .fn (tl := [_, _, _]) rfl <| .ap (news := [.int .u8 op2.toNat, strV nm2, .int .i64 n2.toInt, .slice pz args2.length cz]) Fx.row29 rfl (fun _ => (.tail <|
            .tail <| .head)) rfl (.box (.head _) (fun j u h => by rw [Nat.zero_add]; exact h)) rfl (by simp [Value.oneCell', strV]) (by simp [maxLen]; omega) (by omega) rfl fun r41 _ => .ra (.tail _ <|
            .tail _ <| .head _) fun p41 c41 e41 => .yv (.fieldAddr rfl Fx.field73_3) rfl <| .st (.tail <| .tail <| .tail <| .head) rfl rfl Fx.size29 (by rw [e41]; rfl) (Nat.le_of_ble_eq_true rfl) rfl <|
            .nl <| .bN <| .tN <| .rg <| .yv (.add rfl rfl (w64 (by omega) (by omega))) rfl <| .m rfl rfl <| .nl <| .tN <| .ag (x := (j, H3, re, ys)) (j + 1, H39, r41, ys ++ [.int .u8 op2.toNat, strV nm2, .int .i64 n2.toInt, .slice pz args2.length cz]) ⟨rfl, trivial⟩ ⟨rfl, rfl, rfl, rfl, rfl, rfl, rfl, trivial⟩ (fun _ s => (s.pick [2, 3, 4, 5] _ rfl rfl)) ⟨by dsimp only; omega, u3.trans u39, by dsimp only; rw [take_snoc hj, hxj, List.map_append]; exact (hze.up u39.up).snoc hx39 rfl⟩ (by dsimp only; omega)
        · try simp only [decide_eq_false_iff_not] at h33
          obtain rfl : j = ex.length := by omega
          rw [List.take_length] at hze
          refine Sx.freezeSeq (ds := ex.map (dEx .u8)) (by simp) hze fun H3 pX cX u6 eX hX => ?_
          subst eX
          have uX := u5.trans (u3.trans u6)
          have hy24X := hy24b.up (u3.trans u6).up
          have hy27X := hy27.up (u3.trans u6).up
          exact .ex <| .tE <| .tE <| .bE <| .tN <| .rg <| .m rfl rfl <| .yv (.loadW rfl Fx.agg73 (.head _) rfl) rfl <| .bl rfl (Fx.bsl60_1 _ _ _ _ _ _) rfl fun b46 => .ap (news := [.int .u8 kd.toNat, strV nm, strV hd, .slice pX ex.length cX, .slice q24 th.length d24, .slice q27 el.length d27]) Fx.row60 rfl (fun _ => (.tail <|
            .tail <| .tail <| .head)) rfl (.box (.head _) (fun j u h => by rw [Nat.zero_add]; exact h)) rfl (by simp [Value.oneCell', strV]) (by simp [maxLen]; omega) (by omega) rfl fun r47 _ => .a rfl rfl <|
            .nl <| .bN <| .tN <| .rg <| .yv (.add rfl rfl (w64 (by omega) (by omega))) rfl <| .m rfl rfl <| .nl <| .tN <| .ag (x := (k, H1, r, xs)) (k + 1, H3, r47, xs ++ [.int .u8 kd.toNat, strV nm, strV hd, .slice pX ex.length cX, .slice q24 th.length d24, .slice q27 el.length d27]) ⟨rfl, rfl, trivial⟩ ⟨rfl, rfl, trivial⟩ (fun _ s => (s.pick [3] _ rfl rfl)) ⟨by dsimp only; omega, u1.trans uX, by dsimp only; rw [take_snoc hk, hx, List.map_append]; exact (hz.up uX.up).snoc (sm_shut (by omega) (by omega) hX hy24X hy27X) rfl⟩ (by dsimp only; omega)
    ·
      refine .al Fx.zero73 rfl fun b6 => .h1 <| .ct (X := Value) Fx.call16 rfl (fun W s => hit H1 _ W hs2 s.agr) rfl fun y24 H24 hy24 u24 => ?_
      obtain ⟨q24, d24, e24, _⟩ := hy24.sl
      simp only [List.cons.injEq, and_true, List.length_map] at e24
      subst e24
      refine .h1 <| .ct (X := Value) Fx.call16 rfl (fun W s => hie H24 _ W (hs3.up u24.up) s.agr) rfl fun y27 H27 hy27 u27 => ?_
      obtain ⟨q27, d27, e27, _⟩ := hy27.sl
      simp only [List.cons.injEq, and_true, List.length_map] at e27
      subst e27
      have u5 := u24.trans u27
      have hs1b := hs1.up u5.up
      have hy24b := hy24.up u27.up
      refine .yv (.build rfl (Fx.bld73_0_1_2_4_5 _ _ _ _ _ _ _ _ _)) rfl <| .fn (tl := [_]) rfl <| .sW .head rfl rfl Fx.size73 (by simp [Value.oneCell', strV]) rfl <|
        .nl <| .tN <| .sq <| .sq <| .rg <| .yv (.fieldAddr rfl Fx.field104_3) rfl <| .yv (.load rfl Fx.agg24 (.tail _ <| .head _) rfl) rfl <| .yv (.lenSl Fx.sl24 rfl) rfl <|
        .m rfl rfl <| ?_
      refine Sx.row0 31 4 ?_
      refine .nl <| .tN <| .bk <| .lp (X := Nat × Hp × Value × List Value) [(3, _), (6, _), (9, _), (10, _), (11, _), (30, _), (31, _)] ⟨rfl, rfl, rfl, rfl, rfl, rfl, rfl, trivial⟩ [_, _] (fun z => [(32, .int .i64 (z.1 : Nat))]) (fun z => z.2.1) (fun z => [.row 31 4 z.2.2.1 z.1 z.2.2.2, .box b6 [.int .u8 kd.toNat, strV nm, strV hd, z.2.2.1, .slice q24 th.length d24, .slice q27 el.length d27] 73]) (fun z => z.1 ≤ ex.length ∧ HUp w H27 z.2.1 ∧ RepZ z.2.1 4 ((ex.take z.1).map (dEx .u8)) z.2.2.2) (fun z => ex.length - z.1) (0, H27, .slice none 0 0, []) (fun _ s => s) ⟨rfl, trivial⟩ ⟨by simp, .refl, RepZ.nil⟩ fun z hC => ?_
      obtain ⟨j, H3, re, ys⟩ := z
      dsimp only at hC ⊢
      obtain ⟨hj0, u3, hze⟩ := hC
      refine .sq <| .rg <| .yv (.lss rfl rfl) rfl <| .nl <| .tN <| .sq <| .cd rfl (fun h33 => ?_) (fun h33 => ?_)
      · try simp only [decide_eq_true_eq] at h33
        have hj : j < ex.length := by omega
        obtain ⟨bF, oF, cF, hpF, rF, lF, mF⟩ := (hs1b.up u3.up).elem (map_at (f := dEx .i64) hj)
        cases hpF
        have hnj : Ex.all narrow ex[j] = true := by
          have := List.all_eq_true.1 k5 _ (List.getElem_mem hj)
          simp only [okE, Bool.and_eq_true] at this
          exact this.2
        refine .sk <| .tN <| .sq <| .bk <| .sq <| .rg <| .yv (.indexSl Fx.sl24 rfl rfl rfl (by omega) (q := oF + j * 4) rfl) rfl <| .yv (.loadMW rfl Fx.agg26 mF lF) rfl <|
          .al Fx.zero26 rfl fun b8 => .sV .head rfl rfl Fx.size26 lF rF.one rfl <| .nl <| .tN <| .fl (trip := [(_, _, _), (_, _, _), (_, _, _), (_, _, _), (_, _, _)]) 5 [(0, 0), (1, 0), (2, 0), (3, 1), (4, 1)] (by kernel_rfl) (by kernel_rfl) rfl <|
          .yv (.fieldAddr rfl Fx.field73_3) rfl <| .yv (.load rfl Fx.agg29 (.tail _ <| .tail _ <| .head _) rfl) rfl <| .yv (.loadW rfl Fx.agg26 (.head _) lF) rfl <| .ct (X := List Value) Fx.call8 rfl (fun W s => expr_any _ hnj H3 cF W rF s.agr) rfl fun x39 H39 hx39 u39 => ?_
        generalize hxj : ex[j] = xj at hx39
        obtain ⟨op2, nm2, n2, args2⟩ := xj
        obtain ⟨pz, cz, rfl, hz2, hnm2⟩ := ex_open hx39
        exact .bl rfl (Fx.bsl29_1 _ _ _ _) rfl fun b40 => .fn (tl := [_, _, _]) rfl <| .ap (news := [.int .u8 op2.toNat, strV nm2, .int .i64 n2.toInt, .slice pz args2.length cz]) Fx.row29 rfl (fun _ => (.tail <|
          .tail <| .head)) rfl (.box (.head _) (fun j u h => by rw [Nat.zero_add]; exact h)) rfl (by simp [Value.oneCell', strV]) (by simp [maxLen]; omega) (by omega) rfl fun r41 _ => .ra (.tail _ <|
          .tail _ <| .head _) fun p41 c41 e41 => .yv (.fieldAddr rfl Fx.field73_3) rfl <| .st (.tail <| .tail <| .tail <| .head) rfl rfl Fx.size29 (by rw [e41]; rfl) (Nat.le_of_ble_eq_true rfl) rfl <|
          .nl <| .bN <| .tN <| .rg <| .yv (.add rfl rfl (w64 (by omega) (by omega))) rfl <| .m rfl rfl <| .nl <| .tN <| .ag (x := (j, H3, re, ys)) (j + 1, H39, r41, ys ++ [.int .u8 op2.toNat, strV nm2, .int .i64 n2.toInt, .slice pz args2.length cz]) ⟨rfl, trivial⟩ ⟨rfl, rfl, rfl, rfl, rfl, rfl, rfl, trivial⟩ (fun _ s => (s.pick [2, 3, 4, 5] _ rfl rfl)) ⟨by dsimp only; omega, u3.trans u39, by dsimp only; rw [take_snoc hj, hxj, List.map_append]; exact (hze.up u39.up).snoc hx39 rfl⟩ (by dsimp only; omega)
      · try simp only [decide_eq_false_iff_not] at h33
        obtain rfl : j = ex.length := by omega
        rw [List.take_length] at hze
        refine Sx.freezeSeq (ds := ex.map (dEx .u8)) (by simp) hze fun H3 pX cX u6 eX hX => ?_
        subst eX
        have uX := u5.trans (u3.trans u6)
        have hy24X := hy24b.up (u3.trans u6).up
        have hy27X := hy27.up (u3.trans u6).up
        exact .ex <| .tE <| .tE <| .bE <| .tN <| .rg <| .m rfl rfl <| .yv (.loadW rfl Fx.agg73 (.head _) rfl) rfl <| .bl rfl (Fx.bsl60_1 _ _ _ _ _ _) rfl fun b46 => .ap (news := [.int .u8 kd.toNat, strV nm, strV hd, .slice pX ex.length cX, .slice q24 th.length d24, .slice q27 el.length d27]) Fx.row60 rfl (fun _ => (.tail <|
          .tail <| .tail <| .head)) rfl (.box (.head _) (fun j u h => by rw [Nat.zero_add]; exact h)) rfl (by simp [Value.oneCell', strV]) (by simp [maxLen]; omega) (by omega) rfl fun r47 _ => .a rfl rfl <|
          .nl <| .bN <| .tN <| .rg <| .yv (.add rfl rfl (w64 (by omega) (by omega))) rfl <| .m rfl rfl <| .nl <| .tN <| .ag (x := (k, H1, r, xs)) (k + 1, H3, r47, xs ++ [.int .u8 kd.toNat, strV nm, strV hd, .slice pX ex.length cX, .slice q24 th.length d24, .slice q27 el.length d27]) ⟨rfl, rfl, trivial⟩ ⟨rfl, rfl, trivial⟩ (fun _ s => (s.pick [3] _ rfl rfl)) ⟨by dsimp only; omega, u1.trans uX, by dsimp only; rw [take_snoc hk, hx, List.map_append]; exact (hz.up uX.up).snoc (sm_shut (by omega) (by omega) hX hy24X hy27X) rfl⟩ (by dsimp only; omega)
  · try simp only [decide_eq_false_iff_not] at h12
    obtain rfl : k = l.length := by omega
    rw [List.take_length] at hz
    refine .ex <| .tE <| .tE <| .bE <| .tN <| .sq <| .rg <| .m rfl rfl <| .a rfl rfl <| .nl <| .tN <| .rt <| ?_
    refine Sx.freezeSeq (ds := l.map (dSm .u8)) (by simp) hz fun HZ pZ cZ uZ eZ hZ => ?_
    exact Sx.ret1 (.inl rfl) rfl (.tmp rfl) fun W t => ⟨r, HZ, hZ, rfl, (u1.trans uZ).grow t⟩
end Go.Proofs.YtmbiojpcidccjaaDoor
/- Facts on types and functions. -/
namespace Go.Proofs.YtmbiojpcidccjaaDoor
open Go.RowKit Go.Par Go.Sx
theorem Fx.call15 : callN Tryd.prog 15 = Bool.true := by kernel_rfl
end Go.Proofs.YtmbiojpcidccjaaDoor
/- The walk of SyntaxCounts. -/
namespace Go.Proofs.YtmbiojpcidccjaaDoor
open Go.RowKit Go.Par Go.Sx
theorem fld_comps (a b c d : Value) : ∀ W, (Instr.field 49 (.agg [a, b, c, d].toArray) 3).run Tryd.prog W = .ok d W := fun _ => by kernel_rfl
set_option maxRecDepth 100000 in
theorem syntaxCounts_any (H : Hp) (G : Gl H) (g : Gt H) (p : Pln) (l : List Sp) (nd : List Nd) (cs : List Value) (v0 vn : Value) (h : Rep H (dPln p) cs) (hl : Rep H (.seq 5 (l.map dSp)) [v0]) (hn : Rep H (.seq 5 (nd.map dNd)) [vn]) (w : World) (hA : Agr H w) :
    Calls Tryd.prog 4 #[.agg cs.toArray, v0, vn] w fun r w' => r = .returned (.bool true) ∧ Ext w w' := by
  obtain ⟨p1, c1, p2, c2, rfl, _, _⟩ := pln_open h
  refine Sx.enter (H := H) Tryd.func4 rfl Tryd.ntmps4 rfl hA ?_
  refine .sq <| .rg <| .bx rfl rfl rfl fun b3 => .a rfl rfl <| .nl <| .tN <| .sq <| .sq <| .rg <| .yv (.call Fx.call6 rfl (fun W t => awake_any H G g W t.agr)) rfl <|
    .yv (.not rfl) rfl <| .nl <| .tN <| .cF rfl <| .sk <| .tN <| .sq <| .rg <| .m rfl rfl <| .ct (X := List Value) Fx.call7 rfl (fun W t => buildR_any H nd vn hn W t.agr) rfl fun x1 H1 hc1 u1 => ?_
  obtain ⟨e1, hx1, hg1⟩ := hc1
  refine .al Fx.zero26 rfl fun b7 => .sV .head rfl rfl Fx.size26 (ex_len hx1) hx1.one rfl <| .nl <| .tN <| .sq <| .sq <| .fl (trip := [(_, _, _), (_, _, _), (_, _, _), (_, _, _), (_, _, _)]) 5 [(0, 0), (3, 0), (1, 1), (2, 0), (4, 0)] (by kernel_rfl) (by kernel_rfl) rfl <|
    .yv (.loadW rfl Fx.agg26 (.head _) (ex_len hx1)) rfl <| .yv (.loadW rfl Fx.agg26 (.head _) (ex_len hx1)) rfl <| .ct (X := List Value) Fx.call8 rfl (fun W t => expr_any e1 hg1.2 H1 x1 W hx1 t.agr) rfl fun y1 H2 hy1 u2 => ?_
  have hx1b := hx1.up u2.up
  have hl2 := hl.up (u1.trans u2).up
  have h2 := h.up (u1.trans u2).up
  refine .yv (.call Fx.call13 rfl (fun W t => exprDepth_any e1 H2 y1 W hy1 (by have := hg1.1; omega) t.agr)) rfl <| .yv (.call Fx.call14 rfl (fun W t => rexprDepth_any e1 H2 x1 W hx1b (by have := hg1.1; omega) t.agr)) rfl <|
    .fn (tl := [_]) rfl <| .yv (.cast (v' := .bool false) (.neq rfl rfl) (by simp)) rfl <| .nl <| .tN <| .cF rfl <| .sk <| .tN <| .sq <| .sq <| .rg <| .yv (.loadW rfl Fx.agg42 (.tail _ <|
    .head _) rfl) rfl <| .m rfl rfl <| .ct (X := List Value) Fx.call15 rfl (fun W t => spoilt_any H2 p l _ v0 W h2 hl2 t.agr) rfl fun y3 H3 hc3 u3 => ?_
  obtain ⟨f, hf, hok⟩ := hc3
  obtain ⟨q1, d1, q2, d2, q3, d3, rfl, nf, k1, k2, k3⟩ := ft_open hf
  have hcapf := k3.cap
  have u123 := u1.trans (u2.trans u3)
  refine .yv (.fld rfl (fld_comps _ _ _ _)) rfl <| .yv (.lenSl Fx.sl47 rfl) rfl <| .m rfl rfl <| .nl <| .tN <| .bk <| .lp (X := Nat × Hp) [(28, _), (29, _)] ⟨rfl, rfl, trivial⟩ [_, _] (fun z => [(30, .int .i64 (z.1 : Nat))]) (fun z => z.2) (fun z => []) (fun z => z.1 ≤ f.comps.length ∧ HUp w H3 z.2) (fun z => f.comps.length - z.1) (0, H3) (fun _ s => s) ⟨rfl, trivial⟩ ⟨by simp, .refl⟩ fun z hC => ?_
  obtain ⟨k, Ha⟩ := z
  dsimp only at hC ⊢
  obtain ⟨hlek, ua⟩ := hC
  refine .sq <| .rg <| .yv (.lss rfl rfl) rfl <| .nl <| .tN <| .sq <| .cd rfl (fun h31 => ?_) (fun h31 => ?_)
  · try simp only [decide_eq_true_eq] at h31
    have hk : k < f.comps.length := by omega
    obtain ⟨bE, oE, cE, hpE, rE, lE, mE⟩ := (k3.up ua.up).elem (map_at (f := dCp .i64) hk)
    cases hpE
    have okc := hok.all _ (List.getElem_mem hk)
    generalize hx : f.comps[k] = c at rE okc
    obtain ⟨r1, s1, r2, s2, rfl, nc, g1, g2⟩ := cp_open rE
    have hcapc := g2.cap
    refine .sk <| .tN <| .sq <| .bk <| .sq <| .rg <| .yv (.indexSl Fx.sl47 rfl rfl rfl (by omega) (q := oE + k * 3) rfl) rfl <| .yv (.loadMW rfl Fx.agg54 mE rfl) rfl <|
      .al Fx.zero54 rfl fun b9 => .sW .head rfl rfl Fx.size54 (by simp [Value.oneCell', strV]) rfl <| .nl <| .tN <| .sq <| .rg <| .yv (.fieldAddr rfl Fx.field54_2) rfl <|
      .yv (.load rfl Fx.agg52 (.head _) rfl) rfl <| .yv (.lenSl Fx.sl52 rfl) rfl <| .m rfl rfl <| .nl <| .tN <| .bk <| .lp (X := Nat × Hp) [(28, _), (29, _), (30, _), (35, _), (36, _)] ⟨rfl, rfl, rfl, rfl, rfl, trivial⟩ [_, _, _] (fun z => [(37, .int .i64 (z.1 : Nat))]) (fun z => z.2) (fun z => []) (fun z => z.1 ≤ c.vers.length ∧ HUp w Ha z.2) (fun z => c.vers.length - z.1) (0, Ha) (fun _ s => s) ⟨rfl, trivial⟩ ⟨by simp, .refl⟩ fun z hC => ?_
    obtain ⟨i, Hb⟩ := z
    dsimp only at hC ⊢
    obtain ⟨hlei, ub⟩ := hC
    refine .sq <| .rg <| .yv (.lss rfl rfl) rfl <| .nl <| .tN <| .sq <| .cd rfl (fun h38 => ?_) (fun h38 => ?_)
    · try simp only [decide_eq_true_eq] at h38
      have hi : i < c.vers.length := by omega
      obtain ⟨bF, oF, cF, hpF, rF, lF, mF⟩ := (g2.up ub.up).elem (map_at (f := dVs .i64) hi)
      cases hpF
      have okv := okc.all _ (List.getElem_mem hi)
      generalize hxv : c.vers[i] = v at rF okv
      obtain ⟨pv, cv, rfl, gv⟩ := vs_open rF
      have hcapv := gv.cap
      refine .sk <| .tN <| .sq <| .bk <| .sq <| .rg <| .yv (.indexSl Fx.sl52 rfl rfl (i := i) rfl hi (q := oF + i * 1) rfl) rfl <| .yv (.loadM rfl Fx.agg55 mF (k := 0) rfl rfl) rfl <|
        .a rfl rfl <| .nl <| .tN <| .sq <| .rg <| .m rfl rfl <| .yv (.lenSl Fx.sl55 rfl) rfl <| .m rfl rfl <| .nl <| .tN <| .bk <| .lp (X := Nat × Hp) [(28, _), (29, _), (30, _), (35, _), (36, _), (37, _), (41, _), (42, _)] ⟨rfl, rfl, rfl, rfl, rfl, rfl, rfl, rfl, trivial⟩ [_, _, _] (fun z => [(43, .int .i64 (z.1 : Nat))]) (fun z => z.2) (fun z => []) (fun z => z.1 ≤ v.length ∧ HUp w Hb z.2) (fun z => v.length - z.1) (0, Hb) (fun _ s => s) ⟨rfl, trivial⟩ ⟨by simp, .refl⟩ fun z hC => ?_
      obtain ⟨j, Hc⟩ := z
      dsimp only at hC ⊢
      obtain ⟨hlej, uc⟩ := hC
      refine .sq <| .rg <| .yv (.lss rfl rfl) rfl <| .nl <| .tN <| .sq <| .cd rfl (fun h44 => ?_) (fun h44 => ?_)
      · try simp only [decide_eq_true_eq] at h44
        have hj : j < v.length := by omega
        obtain ⟨bG, oG, cG, hpG, rG, lG, mG⟩ := (gv.up uc.up).elem (map_at (f := dHd .i64) hj)
        cases hpG
        have okh := okv.all _ (List.getElem_mem hj)
        generalize hxh : v[j] = hh at rG okh
        obtain ⟨t1, w1, t2, w2, rfl, nh, m1, m2⟩ := hd_open rG
        refine .sk <| .tN <| .sq <| .bk <| .sq <| .rg <| .yv (.indexSl Fx.sl55 rfl rfl rfl (by omega) (q := oG + j * 3) rfl) rfl <| .yv (.loadMW rfl Fx.agg59 mG rfl) rfl <|
          .al Fx.zero59 rfl fun b13 => .sW .head rfl rfl Fx.size59 (by simp [Value.oneCell', strV]) rfl <| .nl <| .tN <| .sq <| .rg <| .yv (.fieldAddr rfl Fx.field59_2) rfl <|
          .yv (.load rfl Fx.agg57 (.head _) rfl) rfl <| .ct (X := Value) Fx.call16 rfl (fun W t => bodyL_any 50000 (by decide) hh.body okh.body Hc _ W m2 t.agr) rfl fun y49 H49 hy49 u49 => ?_
        obtain ⟨pb, cb, eb, _⟩ := hy49.sl
        simp only [List.cons.injEq, and_true, List.length_map] at eb
        subst eb
        have m3 := m2.up u49.up
        have hcnt := okh.body.cnt
        have hdep := okh.body.dep
        exact .a rfl rfl <| .nl <| .tN <| .sq <| .fl (trip := [(_, _, _), (_, _, _), (_, _, _), (_, _, _), (_, _, _), (_, _, _), (_, _, _), (_, _, _), (_, _, _), (_, _, _), (_, _, _), (_, _, _), (_, _, _)]) 13 [(0, 0), (1, 0), (2, 0), (3, 0), (4, 0), (5, 0), (6, 0), (7, 0), (8, 0), (9, 0), (10, 0), (11, 0), (12, 0)] (by kernel_rfl) (by kernel_rfl) rfl <|
          .m rfl rfl <| .yv (.call Fx.call17 rfl (fun W t => statements_any H49 hh.body _ _ _ W hy49 (by omega) t.agr)) rfl <| .yv (.fieldAddr rfl Fx.field59_2) rfl <| .yv (.load rfl Fx.agg57 (.head _) rfl) rfl <|
          .yv (.call Fx.call18 rfl (fun W t => rstatements_any H49 hh.body _ _ _ W m3 (by omega) t.agr)) rfl <| .yv (.cast (v' := .bool false) (.neq rfl rfl) (by simp)) rfl <|
          .m rfl rfl <| .yg rfl rfl (.move rfl) rfl <| .yg rfl rfl (.call Fx.call19 rfl (fun W t => sdepth_any H49 hh.body _ _ _ W hy49 (by omega) t.agr)) rfl <| .yg rfl rfl (.fieldAddr rfl Fx.field59_2) rfl <|
          .yg rfl rfl (.load rfl Fx.agg57 (.head _) rfl) rfl <| .yg rfl rfl (.call Fx.call20 rfl (fun W t => rsdepth_any H49 hh.body _ _ _ W m3 (by omega) t.agr)) rfl <|
          .yg rfl rfl (.cast (v' := .bool false) (.neq rfl rfl) (by simp)) rfl <| .fn (tl := [_]) rfl <| .yv (.pickF rfl rfl) rfl <| .nl <| .tN <| .cF rfl <| .sk <| .bN <|
          .tN <| .rg <| .yv (.add rfl rfl (w64 (by omega) (by omega))) rfl <| .m rfl rfl <| .nl <| .tN <| .ag (x := (j, Hc)) (j + 1, H49) ⟨rfl, trivial⟩ ⟨rfl, rfl, rfl, rfl, rfl, rfl, rfl, rfl, trivial⟩ (fun _ s => (s.pick [1, 2, 3] _ rfl rfl)) ⟨by dsimp only; omega, uc.trans u49⟩ (by dsimp only; omega)
      · skip
        exact .ex <| .tE <| .tE <| .bE <| .bN <| .tN <| .rg <| .yv (.add rfl rfl (w64 (by omega) (by omega))) rfl <| .m rfl rfl <| .nl <| .tN <| .ag (x := (i, Hb)) (i + 1, Hc) ⟨rfl, trivial⟩ ⟨rfl, rfl, rfl, rfl, rfl, trivial⟩ (fun _ s => (s.pick [0, 1, 2] _ rfl rfl)) ⟨by dsimp only; omega, ub.trans uc⟩ (by dsimp only; omega)
    · skip
      exact .ex <| .tE <| .tE <| .bE <| .bN <| .tN <| .rg <| .yv (.add rfl rfl (w64 (by omega) (by omega))) rfl <| .m rfl rfl <| .nl <| .tN <| .ag (x := (k, Ha)) (k + 1, Hb) ⟨rfl, trivial⟩ ⟨rfl, rfl, trivial⟩ (fun _ s => (s.pick [1, 2] _ rfl rfl)) ⟨by dsimp only; omega, ua.trans ub⟩ (by dsimp only; omega)
  · try simp only [decide_eq_false_iff_not] at h31
    have hend : True := trivial
    refine .ex <| .tE <| .tE <| .bE <| .tN <| .sq <| .rg <| .a rfl rfl <| .nl <| .tN <| .rt <| ?_
    exact Sx.ret1 (.inl rfl) rfl (.tmp rfl) fun W t => ⟨rfl, ((u123.trans ua).grow t).ext⟩
end Go.Proofs.YtmbiojpcidccjaaDoor
/- What every row of this seat needs: the wrap that keeps the world's shape beside what the row lists, the witness's world, and what the walks are told of the package variables. -/
namespace Go.Proofs.YtmbiojpcidccjaaDoor
open Go.RowKit Go.Par Go.Sx
variable {H : Type} {enc : TypeId × Value → H}
/-- The wrap: what the row lists, and the world's shape. -/
theorem wrap {a : Assume} {C : Checked} {os : Os} {f : FuncId} {fn : Func} {s : ChangeSpec} {conds : List PathCond} {apart fresh handsOn again : Bool} {X : World → Array Value → Prop}
    (hX : ∀ (w w' : World) (args : Array Value), w.heap = w'.heap → X w args → X w' args)
    (own : ownKnob C.prog.godebug = none) (started : os.Started) (noInit : C.prog.inits.idxOf? f = none) (hfn : C.prog.funcs[f]? = some fn)
    (witness : ∃ (w : World) (tape : Tape) (i : Input), w.os = os ∧ (w.forCall tape i).Shaped C.prog ∧ i.vars = [] ∧ Input.okWide C.prog (w.forCall tape i) .any w.heap.size f i ∧
      ((s.pre enc C.prog fn conds apart (w.forCall tape i).memory i.args ∧ X (w.forCall tape i).memory i.args) ∧ sizedMet enc C.prog fn (OpenSpec.ofChange s) apart (w.forCall tape i).memory i.args) ∧ a.holds C.prog (lone (Frame.enter C.prog f i.args .normal) [] (w.forCall tape i)))
    (contract : ∀ (W : World) (base : Nat) (args : Array Value) (ds gs : List (DataW H)) (before : List MemPlace),
      (∀ (j : Nat) t v, fn.params[j]? = some t → args[j]? = some v → Value.okWide C.prog W .any base t v) →
      DataW.Whole enc C.prog fn.params.toList s.vars apart W args.toList ds gs before →
      X W args → W.ShapedOpen C.prog →
      Calls C.prog f args W fun e W' => ∃ v, e = .returned v ∧ s.post enc C.prog fn apart fresh handsOn again W args v W') :
    ReturnsInHanded a C os f .any (fun w args => (s.pre enc C.prog fn conds apart w args ∧ X w args) ∧ sizedMet enc C.prog fn (OpenSpec.ofChange s) apart w args) (s.post enc C.prog fn apart fresh handsOn again) := by
  refine returnsInHanded_of_calls own started noInit witness ?_
  intro w tape i _ hsh _ hok hpre _
  obtain ⟨_, _, _, fn', hfn', _, _, _, _, hval⟩ := hok
  have e : fn' = fn := Option.some.inj (hfn'.symm.trans hfn)
  subst e
  obtain ⟨⟨⟨ds, gs, before, hw, _⟩, hx⟩, _⟩ := hpre
  have hw' := DataW.Whole.of_heap (w' := w.forCall tape i) (by rfl) hw
  refine (contract (w.forCall tape i) w.heap.size i.args ds gs before hval hw' (hX _ _ _ (by rfl) hx) hsh).mono fun e W' ⟨v, he, hp⟩ => ?_
  subst he
  exact ChangeSpec.post_blind hp

theorem own : ownKnob Tryd.prog.godebug = none := by kernel_rfl
/-- What the rows of this seat list. -/
def laids : List (String × DataW Unit) := [("math/bits.deBruijn32tab", Rows.laid_math_bits_deBruijn32tab), ("math/bits.deBruijn64tab", Rows.laid_math_bits_deBruijn64tab), ("internal/strconv.uint64pow10", Rows.laid_internal_strconv_uint64pow10), ("rootcause/lexer.words", Rows.laid_rootcause_lexer_words), ("rootcause/lexer.symbols", Rows.laid_rootcause_lexer_symbols), ("rootcause/syntax.shapes", Rows.laid_rootcause_syntax_shapes), ("rootcause/syntax.forms", Rows.laid_rootcause_syntax_forms)]
theorem gTab : Tryd.prog.globalNamed "internal/strconv.uint64pow10" = some 4 := by kernel_rfl
theorem gTabT : (Tryd.prog.globals[4]?).map (·.type) = some 204 := by kernel_rfl
theorem cellsTab : Tryd.prog.cellsOf 204 = 20 := by kernel_rfl
theorem cellsTabE : Tryd.prog.cellsOf 146 = 1 := by kernel_rfl
theorem tabEq : (Rows.laid_internal_strconv_uint64pow10 : DataW Unit) = Lib.tabData .u64 Lib.pow10Tab := by kernel_rfl
theorem gt_of {W : World} (h : laidMet Tryd.prog laids W) : Gt (allH W) := by
  intro W' hA
  have h1 : Lib.TabIs Tryd.prog W "internal/strconv.uint64pow10" .u64 Lib.pow10Tab := Lib.tabIs_of_head gTab gTabT Tryd.underlying204 Tryd.underlying146 cellsTabE cellsTab (tabEq ▸ h.tail.tail)
  unfold Lib.TabIs World.var? at *
  rw [gTab] at *
  simp only [Option.bind_some] at *
  split at h1
  · rename_i cs T m hb
    rw [hA 4 _ hb]
    exact h1
  · cases h1
theorem gl_of {W : World} (h : laidMet Tryd.prog laids W) : Gl (allH W) :=
  ⟨laid_mem (t := 168) (.arr 24 (.str [.int .i64, .bool, .int .i64, .strg])) _ (by kernel_rfl) (by kernel_rfl) (by kernel_rfl) (by kernel_rfl) (by kernel_rfl) h.tail.tail.tail.tail.tail,
   laid_mem (t := 196) (.arr 11 (.str [.bool, .bool, .int .i64, .int .i64, .bool, .bool])) _ (by kernel_rfl) (by kernel_rfl) (by kernel_rfl) (by kernel_rfl) (by kernel_rfl) h.tail.tail.tail.tail.tail.tail,
   laid_mem (t := 202) (.arr 39 .strg) _ (by kernel_rfl) (by kernel_rfl) (by kernel_rfl) (by kernel_rfl) (by kernel_rfl) h.tail.tail.tail,
   laid_mem (t := 188) (.arr 25 .strg) _ (by kernel_rfl) (by kernel_rfl) (by kernel_rfl) (by kernel_rfl) (by kernel_rfl) h.tail.tail.tail.tail⟩
/-- The witness's world meets the list. -/
theorem laid_met (os : Os) (args : Array Value) : laidMet Tryd.prog laids ((World.laidAll Tryd.prog os laids).forCall (fun _ _ => 0) ⟨#[], args, []⟩).memory :=
  laidMet_laidAll _ (by kernel_rfl) (by kernel_rfl)
theorem laid_shaped (os : Os) (args : Array Value) : ((World.laidAll Tryd.prog os laids).forCall (fun _ _ => 0) ⟨#[], args, []⟩).Shaped Tryd.prog :=
  World.shaped_of_ZipB (by kernel_rfl) (by kernel_rfl)
theorem ext_kept {W W' : World} (h : Ext W W') : ∀ may, W.keptBut W' may := fun may => (Ext.below h).frame may
theorem laidOut : laidOutB Tryd.prog = true := by kernel_rfl
end Go.Proofs.YtmbiojpcidccjaaDoor
