/- Texts of the proof, one behind the other. -/
import Derived.Test.YtmbiojpcidccjaaGreatDoorMh
import Derived.Test.YtmbiojpcidccjaaGreatDoorTie
import Derived.ProofKit
import Derived.OpenShut
import Derived.ShutString
import Derived.Lay
import Derived.Stop.LaidErr
import Derived.Stop.Joined
import Derived.Shelf.Vars
import Derived.Lib.LaidTab
import Derived.Lib.SmallJoins
import Derived.SevenTiedAt
namespace Go.Proofs.YtmbiojpcidccjaaGreatDoor
open Go.RowKit Go.Par Go.Sx
set_option maxHeartbeats 2000000 in
set_option maxRecDepth 100000 in
theorem stmtNames_any (N : Nat) (hN : N ≤ 1000000) (H : Hp) : ∀ (l : List Sm), okL N l → ∀ (v : Value) (w : World), Rep H (.seq 6 (l.map (dSm .i64))) [v] → Agr H w →
    Calls Tryz.prog 69 #[v] w fun r w' => r = .returned (.bool (Sm.alls namS l)) ∧ Ext w w' := by
  refine Sm.lists fun l ih => ?_
  intro hok v w hs hA
  obtain ⟨p, c, e, _⟩ := hs.sl
  simp only [List.cons.injEq, and_true, List.length_map] at e
  subst e
  have hcap := hs.cap
  have hll := hok.len
  refine Sx.enter (H := H) Tryz.func69 rfl Tryz.ntmps69 rfl hA ?_
  refine .sr <| .a rfl rfl <| .nt <| .sq <| .sr <| .m rfl rfl <| .yv (.lenSl Fx.sl98 rfl) rfl <| .m rfl rfl <| .nt <| .bk <| .lp (X := Nat) [(9, _), (10, _)] ⟨rfl, rfl, trivial⟩ [] (fun k => [(11, .int .i64 (k : Nat))]) (fun k => H) (fun k => []) (fun k => k ≤ l.length ∧ Sm.alls namS (l.take k) = true) (fun k => l.length - k) 0 (fun _ s => s) ⟨rfl, trivial⟩ ⟨by omega, rfl⟩ fun k hC => ?_
  obtain ⟨hk0, hal⟩ := hC
  refine .sr <| .yv (.lss rfl rfl) rfl <| .nt <| .sq <| .cd rfl (fun h12 => ?_) (fun h12 => ?_)
  ·try simp only [dt] at h12
   have hk : k < l.length := by omega
   obtain ⟨bE, oE, cE, hpE, rE, lE, mE⟩ := hs.elem (map_at (f := dSm .i64) hk)
   cases hpE
   have hi := ih _ (List.getElem_mem hk)
   have hka := hok.at hk
   have hsucc := salls_succ (q := namS) hk
   have hbad := fun h => salls_bad (q := namS) hk h
   generalize hx : l[k] = x at rE hi hka hsucc hbad
   obtain ⟨kd, nm, hd, ex, th, el⟩ := x
   obtain ⟨p1, c1, p2, c2, p3, c3, rfl, hs1, hs2, hs3, hn1, hn2⟩ := sm_open rE
   simp only [Sm.th, Sm.el] at hi
   obtain ⟨a1, a2, a3, a4, a5, a6, a7⟩ := okL_one.1 hka
   have hit := hi.1 ⟨by omega, by omega, a6⟩
   have hie := hi.2 ⟨by omega, by omega, a7⟩
   have hcap1 := hs1.cap
   rw [sall_mk] at hsucc hbad
   refine .sk <| .tN <| .sq <| .bk <| .sr <| .yv (.indexSl Fx.sl98 rfl rfl rfl (by omega) (q := oE + k * 6) rfl) rfl <| .yv (.loadMW rfl Fx.agg150 mE rfl) rfl <| .al Fx.zero150 rfl fun b4 => .sW .head rfl rfl Fx.size150 (by simp [Value.oneCell', strV]) rfl <| .ns <| .yv (.fieldAddr rfl Fx.field150_0) rfl <| .yv (.load rfl Fx.agg3 (.head _) rfl) rfl <| .yv (.call Fx.call103 rfl (fun W s => namedK_any H kd W s.agr)) rfl <| .m rfl rfl <| .yv (.extract rfl rfl) rfl <| .yv (.extract rfl rfl) rfl <| .a rfl rfl <| .a rfl rfl <| .nt <| .sq <| .cu (X := Bool) [(4, _), (9, _), (10, _), (11, _)] ⟨rfl, rfl, rfl, rfl, trivial⟩ (fun z => [(36, .bool z)]) (fun z => H) (fun z => [.box b4 [.int .i64 kd.toNat, strV nm, strV hd, .slice p1 ex.length c1, .slice p2 th.length c2, .slice p3 el.length c3] 150]) (fun z => z = (((formOf kd).nm && !nameB nm) || ((formOf kd).hd && !nameB hd))) ?_ fun z hC => ?_
   ·
    refine .rg <| .m rfl rfl <| .m rfl rfl <| .b2 (fun h22 => ?_) (fun h22 => ?_)
    ·try simp only [dt] at h22
     refine .gd rfl rfl <| .yv (.fieldAddr rfl Fx.field150_1) rfl <| .gd rfl rfl <| .yv (.load rfl Fx.agg9 (.head _) rfl) rfl <| .gd rfl rfl <| .yv (.call Fx.call68 rfl (fun W s => isNameR_any H nm hn1 W s.agr)) rfl <| .gd rfl rfl <| .yv (.not rfl) rfl <| .yv (.pickT rfl rfl) rfl <| .m rfl rfl <| .b2 (fun h28 => ?_) (fun h28 => ?_)
     ·try simp only [dt] at h28
      exact .gF rfl rfl rfl rfl <| .gF rfl rfl rfl rfl <| .gU rfl rfl rfl <| .gU rfl rfl rfl <| .gU rfl rfl rfl <| .gU rfl rfl rfl <| .gF rfl rfl rfl rfl <| .yv (.pickT rfl rfl) rfl <| .nt <| .me _ ⟨rfl, trivial⟩ ⟨rfl, rfl, rfl, rfl, trivial⟩ (fun _ s => s) (by simp_all)
     try simp only [df] at h28
     refine .gd rfl rfl <| .yv (.move rfl) rfl <| .gd rfl rfl <| .yv (.move rfl) rfl <| .b2 (fun h30 => ?_) (fun h30 => ?_)
     ·try simp only [dt] at h30
      exact .gd rfl rfl <| .yv (.fieldAddr rfl Fx.field150_2) rfl <| .gd rfl rfl <| .yv (.load rfl Fx.agg9 (.head _) rfl) rfl <| .gd rfl rfl <| .yv (.call Fx.call68 rfl (fun W s => isNameR_any H hd hn2 W s.agr)) rfl <| .gd rfl rfl <| .yv (.not rfl) rfl <| .gd rfl rfl <| .yv (.pickT rfl rfl) rfl <| .yv (.pickF rfl rfl) rfl <| .nt <| .me _ ⟨rfl, trivial⟩ ⟨rfl, rfl, rfl, rfl, trivial⟩ (fun _ s => s) (by simp_all)
     try simp only [df] at h30
     exact .gF rfl rfl rfl rfl <| .gF rfl rfl rfl rfl <| .gF rfl rfl rfl rfl <| .gF rfl rfl rfl rfl <| .gd rfl rfl <| .yv (.pickF rfl rfl) rfl <| .yv (.pickF rfl rfl) rfl <| .nt <| .me _ ⟨rfl, trivial⟩ ⟨rfl, rfl, rfl, rfl, trivial⟩ (fun _ s => s) (by simp_all)
    try simp only [df] at h22
    refine .gF rfl rfl rfl rfl <| .gF rfl rfl rfl rfl <| .gF rfl rfl rfl rfl <| .gF rfl rfl rfl rfl <| .yv (.pickF rfl rfl) rfl <| .m rfl rfl <| .gd rfl rfl <| .yv (.move rfl) rfl <| .gd rfl rfl <| .yv (.move rfl) rfl <| .b2 (fun h30 => ?_) (fun h30 => ?_)
    ·try simp only [dt] at h30
     exact .gd rfl rfl <| .yv (.fieldAddr rfl Fx.field150_2) rfl <| .gd rfl rfl <| .yv (.load rfl Fx.agg9 (.head _) rfl) rfl <| .gd rfl rfl <| .yv (.call Fx.call68 rfl (fun W s => isNameR_any H hd hn2 W s.agr)) rfl <| .gd rfl rfl <| .yv (.not rfl) rfl <| .gd rfl rfl <| .yv (.pickT rfl rfl) rfl <| .yv (.pickF rfl rfl) rfl <| .nt <| .me _ ⟨rfl, trivial⟩ ⟨rfl, rfl, rfl, rfl, trivial⟩ (fun _ s => s) (by simp_all)
    try simp only [df] at h30
    exact .gF rfl rfl rfl rfl <| .gF rfl rfl rfl rfl <| .gF rfl rfl rfl rfl <| .gF rfl rfl rfl rfl <| .gd rfl rfl <| .yv (.pickF rfl rfl) rfl <| .yv (.pickF rfl rfl) rfl <| .nt <| .me _ ⟨rfl, trivial⟩ ⟨rfl, rfl, rfl, rfl, trivial⟩ (fun _ s => s) (by simp_all)
   have e36 := hC
   refine .cd rfl (fun h36 => ?_) (fun h36 => ?_)
   ·try simp only [dt] at h36
    rw [h36] at e36
    have hb : namS (.mk kd nm hd ex th el) = false := by
      rw [namS]; revert e36; cases (formOf kd).nm <;> cases (formOf kd).hd <;> cases nameB nm <;> cases nameB hd <;> simp
    have hz := hbad (by rw [hb]; rfl)
    refine .sr <| .a rfl rfl <| .nt <| .rt <| .tR <| .bR <| .tR <| .tR <| .bR <| .tR <| ?_
    refine Sx.ret1 (.inl rfl) rfl (.tmp rfl) fun W s => ⟨retB ?_, s.ext⟩
    first
      | (rw [hz])
      | (rw [hal])
   try simp only [df] at h36
   rw [h36] at e36
   have hg : ((!(formOf kd).nm || nameB nm) && (!(formOf kd).hd || nameB hd)) = true := by
     revert e36; cases (formOf kd).nm <;> cases (formOf kd).hd <;> cases nameB nm <;> cases nameB hd <;> simp
   refine .sk <| .tN <| .sq <| .sr <| .yv (.fieldAddr rfl Fx.field150_3) rfl <| .yv (.load rfl Fx.agg49 (.head _) rfl) rfl <| .yv (.lenSl Fx.sl49 rfl) rfl <| .m rfl rfl <| .nt <| .bk <| .lp (X := Nat) [(4, _), (9, _), (10, _), (11, _), (38, _), (39, _)] ⟨rfl, rfl, rfl, rfl, rfl, rfl, trivial⟩ [_] (fun j => [(40, .int .i64 (j : Nat))]) (fun j => H) (fun j => []) (fun j => j ≤ ex.length ∧ Ex.alls namE (ex.take j) = true) (fun j => ex.length - j) 0 (fun _ s => s) ⟨rfl, trivial⟩ ⟨by omega, rfl⟩ fun j hC => ?_
   obtain ⟨hj0, hae⟩ := hC
   refine .sr <| .yv (.lss rfl rfl) rfl <| .nt <| .sq <| .cd rfl (fun h41 => ?_) (fun h41 => ?_)
   ·try simp only [dt] at h41
    have hj : j < ex.length := by omega
    obtain ⟨bF, oF, cF, hpF, rF, lF, mF⟩ := hs1.elem (map_at (f := dEx .i64) hj)
    cases hpF
    have hje := List.all_eq_true.1 a5 _ (List.getElem_mem hj)
    simp only [okE, Bool.and_eq_true, decide_eq_true_eq] at hje
    refine .sk <| .tN <| .sq <| .bk <| .sr <| .yv (.indexSl Fx.sl49 rfl rfl rfl (by omega) (q := oF + j * 4) rfl) rfl <| .yv (.loadMW rfl Fx.agg51 mF lF) rfl <| .al Fx.zero51 rfl fun b8 => .sV .head rfl rfl Fx.size51 lF rF.one rfl <| .ns <| .yv (.loadW rfl Fx.agg51 (.head _) lF) rfl <| .yv (.call Fx.call104 rfl (fun W s => exprNames_any H _ cF W rF s.agr)) rfl <| .yv (.not rfl) rfl <| .nt <| .cd rfl (fun h46 => ?_) (fun h46 => ?_)
    ·try simp only [dt] at h46
     have hb : Ex.alls namE ex = false := alls_bad hj (by simpa using h46)
     have hz := hbad (by rw [show namS (.mk kd nm hd ex th el) = false from by rw [namS, hb, Bool.and_false]]; rfl)
     refine .sr <| .a rfl rfl <| .nt <| .rt <| .bR <| .tR <| .tR <| .bR <| .tR <| .bR <| .tR <| .tR <| .bR <| .tR <| ?_
     refine Sx.ret1 (.inl rfl) rfl (.tmp rfl) fun W s => ⟨retB ?_, s.ext⟩
     first
       | (rw [hz])
       | (rw [hal])
    skip
    exact .sk <| .bN <| .tN <| .rg <| .yv (.add rfl rfl (w6 (by omega))) rfl <| .m rfl rfl <| .nt <| .ag (j + 1) ⟨rfl, trivial⟩ ⟨rfl, rfl, rfl, rfl, rfl, rfl, trivial⟩ (fun _ s => s.pick [1] [_] rfl rfl) ⟨by omega, by rw [alls_succ hj, hae]; simpa using h46⟩ (by omega)
   try simp only [df] at h41
   obtain rfl : j = ex.length := by omega
   rw [List.take_length] at hae
   refine .ex <| .tE <| .tE <| .bE <| .tN <| .cu (X := Bool) [(9, _), (10, _), (11, _)] ⟨rfl, rfl, rfl, trivial⟩ (fun z => [(57, .bool z)]) (fun z => H) (fun z => [.box b4 [.int .i64 kd.toNat, strV nm, strV hd, .slice p1 ex.length c1, .slice p2 th.length c2, .slice p3 el.length c3] 150]) (fun z => z = (!(Sm.alls namS th && Sm.alls namS el))) ?_ fun z hC => ?_
   ·
    refine .rg <| .yv (.fieldAddr rfl Fx.field150_4) rfl <| .yv (.load rfl Fx.agg98 (.head _) rfl) rfl <| .yv (.call Fx.call69 rfl (fun W s => hit _ W hs2 s.agr)) rfl <| .yv (.not rfl) rfl <| .m rfl rfl <| .b2 (fun h52 => ?_) (fun h52 => ?_)
    ·try simp only [dt] at h52
     exact .gF rfl rfl rfl rfl <| .gF rfl rfl rfl rfl <| .gF rfl rfl rfl rfl <| .gF rfl rfl rfl rfl <| .yv (.pickT rfl rfl) rfl <| .nt <| .me _ ⟨rfl, trivial⟩ ⟨rfl, rfl, rfl, trivial⟩ (fun _ s => s) (by simp_all)
    try simp only [df] at h52
    exact .gd rfl rfl <| .yv (.fieldAddr rfl Fx.field150_5) rfl <| .gd rfl rfl <| .yv (.load rfl Fx.agg98 (.head _) rfl) rfl <| .gd rfl rfl <| .yv (.call Fx.call69 rfl (fun W s => hie _ W hs3 s.agr)) rfl <| .gd rfl rfl <| .yv (.not rfl) rfl <| .yv (.pickF rfl rfl) rfl <| .nt <| .me _ ⟨rfl, trivial⟩ ⟨rfl, rfl, rfl, trivial⟩ (fun _ s => s) (by simp_all)
   have e57 := hC
   refine .cd rfl (fun h57 => ?_) (fun h57 => ?_)
   ·try simp only [dt] at h57
    rw [h57] at e57
    have hz := hbad (by rw [show namS (.mk kd nm hd ex th el) = true from by rw [namS, hg, hae]; rfl, Bool.true_and]; have := e57.symm; rwa [Bool.not_eq_true'] at this)
    refine .sr <| .a rfl rfl <| .nt <| .rt <| .bR <| .tR <| .tR <| .bR <| .tR <| ?_
    refine Sx.ret1 (.inl rfl) rfl (.tmp rfl) fun W s => ⟨retB ?_, s.ext⟩
    first
      | (rw [hz])
      | (rw [hal])
   try simp only [df] at h57
   rw [h57] at e57
   have q57 : (Sm.alls namS th && Sm.alls namS el) = true := by simpa using e57.symm
   exact .sk <| .bN <| .tN <| .rg <| .yv (.add rfl rfl (w6 (by omega))) rfl <| .m rfl rfl <| .nt <| .ag (k + 1) ⟨rfl, trivial⟩ ⟨rfl, rfl, trivial⟩ (fun _ s => s.pick [] [] rfl rfl) ⟨by omega, by rw [hsucc, hal, Bool.true_and]; rw [show namS (.mk kd nm hd ex th el) = true from by rw [namS, hg, hae]; rfl]; simp only [Bool.true_and]; simpa using q57⟩ (by omega)
  try simp only [df] at h12
  obtain rfl : k = l.length := by omega
  rw [List.take_length] at hal
  refine .ex <| .tE <| .tE <| .bE <| .tN <| .sr <| .a rfl rfl <| .nt <| .rt <| ?_
  refine Sx.ret1 (.inl rfl) rfl (.tmp rfl) fun W s => ⟨retB ?_, s.ext⟩
  first
    | (rw [hz])
    | (rw [hal])
def cntK (kd : UInt8) (n : Nat) : Bool := okKd kd && decide ((formOf kd).lo ≤ n) && decide (n ≤ (formOf kd).hi)
theorem cnt_eq (kd : UInt8) (n : Nat) : cntK kd n = decide (((kd.toNat = 1 ∨ kd.toNat = 3 ∨ kd.toNat = 4 ∨ kd.toNat = 5 ∨ kd.toNat = 9) ∧ n = 1) ∨ ((kd.toNat = 2 ∨ kd.toNat = 8) ∧ n = 2) ∨ (kd.toNat = 6 ∧ n ≤ 4) ∨ (kd.toNat = 7 ∧ 1 ≤ n ∧ n ≤ 5) ∨ (kd.toNat = 10 ∧ n = 0)) := by
  have key := byte_k (Q := fun kd => okKd kd = decide (1 ≤ kd.toNat ∧ kd.toNat ≤ 10) ∧ (kd.toNat = 1 ∨ kd.toNat = 3 ∨ kd.toNat = 4 ∨ kd.toNat = 5 ∨ kd.toNat = 9 → (formOf kd).lo = 1 ∧ (formOf kd).hi = 1) ∧ (kd.toNat = 2 ∨ kd.toNat = 8 → (formOf kd).lo = 2 ∧ (formOf kd).hi = 2) ∧ (kd.toNat = 6 → (formOf kd).lo = 0 ∧ (formOf kd).hi = 4) ∧ (kd.toNat = 7 → (formOf kd).lo = 1 ∧ (formOf kd).hi = 5) ∧ (kd.toNat = 10 → (formOf kd).lo = 0 ∧ (formOf kd).hi = 0)) (by decide +kernel) kd
  obtain ⟨k0, k1, k2, k3, k4, k5⟩ := key
  rw [cntK, k0, Bool.eq_iff_iff]
  simp only [Bool.and_eq_true, decide_eq_true_eq]
  generalize (formOf kd).lo = lo at *
  generalize (formOf kd).hi = hi at *
  generalize kd.toNat = d at *
  omega
set_option maxRecDepth 100000 in
theorem counts_any (H : Hp) (kd : UInt8) (n : Nat) (w : World) (hA : Agr H w) : Calls Tryz.prog 105 #[.int .i64 kd.toNat, .int .i64 (n : Nat)] w fun r w' => r = .returned (.bool (cntK kd n)) ∧ Ext w w' := by
  refine Sx.enter (H := H) Tryz.func105 rfl Tryz.ntmps105 rfl hA ?_
  refine .sr <| .a rfl rfl <| .nt <| .sq <| .sr <| .m rfl rfl <| .nt <| .bk <| .sq <| .sr <| .yv (.eql rfl rfl) rfl <| .a rfl rfl <| .nt <| .cd rfl (fun h6 => ?_) (fun h6 => ?_)
  ·try simp only [dt] at h6
   refine .sk <| .tN <| .cd rfl (fun h6 => ?_) (fun h6 => ?_)
   ·try simp only [dt] at h6
    refine .sr <| .m rfl rfl <| .yv (.eql rfl rfl) rfl <| .a rfl rfl <| .nt <| .rt <| .bR <| .tR <| ?_
    refine Sx.ret1 (.inl rfl) rfl (.tmp rfl) fun W s => ⟨?_, s.ext⟩
    first
      | (rw [cnt_eq]; exact retE (dT (by omega)))
      | (rw [cnt_eq]; exact retE (dF (by omega)))
      | (rw [cnt_eq]; exact retE (dD (by omega)))
   try simp only [df] at h6
   refine .sq <| .sr <| .yv (.eql rfl rfl) rfl <| .a rfl rfl <| .nt <| .cd rfl (fun h14 => ?_) (fun h14 => ?_)
   ·try simp only [dt] at h14
    refine .sk <| .tN <| .cd rfl (fun h14 => ?_) (fun h14 => ?_)
    ·try simp only [dt] at h14
     refine .sr <| .m rfl rfl <| .yv (.eql rfl rfl) rfl <| .a rfl rfl <| .nt <| .rt <| .bR <| .tR <| ?_
     refine Sx.ret1 (.inl rfl) rfl (.tmp rfl) fun W s => ⟨?_, s.ext⟩
     first
       | (rw [cnt_eq]; exact retE (dT (by omega)))
       | (rw [cnt_eq]; exact retE (dF (by omega)))
       | (rw [cnt_eq]; exact retE (dD (by omega)))
    try simp only [df] at h14
    refine .sr <| .yv (.eql rfl rfl) rfl <| .a rfl rfl <| .nt <| .cd rfl (fun h19 => ?_) (fun h19 => ?_)
    ·try simp only [dt] at h19
     refine .sr <| .m rfl rfl <| .yv (.leq rfl rfl) rfl <| .a rfl rfl <| .nt <| .rt <| .bR <| .tR <| ?_
     refine Sx.ret1 (.inl rfl) rfl (.tmp rfl) fun W s => ⟨?_, s.ext⟩
     first
       | (rw [cnt_eq]; exact retE (dT (by omega)))
       | (rw [cnt_eq]; exact retE (dF (by omega)))
       | (rw [cnt_eq]; exact retE (dD (by omega)))
    try simp only [df] at h19
    refine .sr <| .yv (.eql rfl rfl) rfl <| .a rfl rfl <| .nt <| .cd rfl (fun h23 => ?_) (fun h23 => ?_)
    ·try simp only [dt] at h23
     refine .sr <| .m rfl rfl <| .yv (.geq rfl rfl) rfl <| .m rfl rfl <| .b2 (fun h27 => ?_) (fun h27 => ?_)
     ·try simp only [dt] at h27
      refine .gd rfl rfl <| .yv (.move rfl) rfl <| .gd rfl rfl <| .yv (.leq rfl rfl) rfl <| .yv (.pickT rfl rfl) rfl <| .a rfl rfl <| .nt <| .rt <| .bR <| .tR <| ?_
      refine Sx.ret1 (.inl rfl) rfl (.tmp rfl) fun W s => ⟨?_, s.ext⟩
      first
        | (rw [cnt_eq]; exact retE (dT (by omega)))
        | (rw [cnt_eq]; exact retE (dF (by omega)))
        | (rw [cnt_eq]; exact retE (dD (by omega)))
     try simp only [df] at h27
     refine .gF rfl rfl rfl rfl <| .gF rfl rfl rfl rfl <| .yv (.pickF rfl rfl) rfl <| .a rfl rfl <| .nt <| .rt <| .bR <| .tR <| ?_
     refine Sx.ret1 (.inl rfl) rfl (.tmp rfl) fun W s => ⟨?_, s.ext⟩
     first
       | (rw [cnt_eq]; exact retE (dT (by omega)))
       | (rw [cnt_eq]; exact retE (dF (by omega)))
       | (rw [cnt_eq]; exact retE (dD (by omega)))
    try simp only [df] at h23
    refine .sr <| .yv (.eql rfl rfl) rfl <| .a rfl rfl <| .nt <| .cd rfl (fun h31 => ?_) (fun h31 => ?_)
    ·try simp only [dt] at h31
     refine .sr <| .m rfl rfl <| .yv (.eql rfl rfl) rfl <| .a rfl rfl <| .nt <| .rt <| .bR <| .tR <| ?_
     refine Sx.ret1 (.inl rfl) rfl (.tmp rfl) fun W s => ⟨?_, s.ext⟩
     first
       | (rw [cnt_eq]; exact retE (dT (by omega)))
       | (rw [cnt_eq]; exact retE (dF (by omega)))
       | (rw [cnt_eq]; exact retE (dD (by omega)))
    try simp only [df] at h31
    refine .sk <| .bN <| .tN <| .sr <| .a rfl rfl <| .nt <| .rt <| ?_
    refine Sx.ret1 (.inl rfl) rfl (.tmp rfl) fun W s => ⟨?_, s.ext⟩
    first
      | (rw [cnt_eq]; exact retE (dT (by omega)))
      | (rw [cnt_eq]; exact retE (dF (by omega)))
      | (rw [cnt_eq]; exact retE (dD (by omega)))
   try simp only [df] at h14
   refine .rg <| .yv (.eql rfl rfl) rfl <| .a rfl rfl <| .nt <| .cd rfl (fun h14 => ?_) (fun h14 => ?_)
   ·try simp only [dt] at h14
    refine .sr <| .m rfl rfl <| .yv (.eql rfl rfl) rfl <| .a rfl rfl <| .nt <| .rt <| .bR <| .tR <| ?_
    refine Sx.ret1 (.inl rfl) rfl (.tmp rfl) fun W s => ⟨?_, s.ext⟩
    first
      | (rw [cnt_eq]; exact retE (dT (by omega)))
      | (rw [cnt_eq]; exact retE (dF (by omega)))
      | (rw [cnt_eq]; exact retE (dD (by omega)))
   try simp only [df] at h14
   refine .sr <| .yv (.eql rfl rfl) rfl <| .a rfl rfl <| .nt <| .cd rfl (fun h19 => ?_) (fun h19 => ?_)
   ·try simp only [dt] at h19
    refine .sr <| .m rfl rfl <| .yv (.leq rfl rfl) rfl <| .a rfl rfl <| .nt <| .rt <| .bR <| .tR <| ?_
    refine Sx.ret1 (.inl rfl) rfl (.tmp rfl) fun W s => ⟨?_, s.ext⟩
    first
      | (rw [cnt_eq]; exact retE (dT (by omega)))
      | (rw [cnt_eq]; exact retE (dF (by omega)))
      | (rw [cnt_eq]; exact retE (dD (by omega)))
   try simp only [df] at h19
   refine .sr <| .yv (.eql rfl rfl) rfl <| .a rfl rfl <| .nt <| .cd rfl (fun h23 => ?_) (fun h23 => ?_)
   ·try simp only [dt] at h23
    refine .sr <| .m rfl rfl <| .yv (.geq rfl rfl) rfl <| .m rfl rfl <| .b2 (fun h27 => ?_) (fun h27 => ?_)
    ·try simp only [dt] at h27
     refine .gd rfl rfl <| .yv (.move rfl) rfl <| .gd rfl rfl <| .yv (.leq rfl rfl) rfl <| .yv (.pickT rfl rfl) rfl <| .a rfl rfl <| .nt <| .rt <| .bR <| .tR <| ?_
     refine Sx.ret1 (.inl rfl) rfl (.tmp rfl) fun W s => ⟨?_, s.ext⟩
     first
       | (rw [cnt_eq]; exact retE (dT (by omega)))
       | (rw [cnt_eq]; exact retE (dF (by omega)))
       | (rw [cnt_eq]; exact retE (dD (by omega)))
    try simp only [df] at h27
    refine .gF rfl rfl rfl rfl <| .gF rfl rfl rfl rfl <| .yv (.pickF rfl rfl) rfl <| .a rfl rfl <| .nt <| .rt <| .bR <| .tR <| ?_
    refine Sx.ret1 (.inl rfl) rfl (.tmp rfl) fun W s => ⟨?_, s.ext⟩
    first
      | (rw [cnt_eq]; exact retE (dT (by omega)))
      | (rw [cnt_eq]; exact retE (dF (by omega)))
      | (rw [cnt_eq]; exact retE (dD (by omega)))
   try simp only [df] at h23
   refine .sr <| .yv (.eql rfl rfl) rfl <| .a rfl rfl <| .nt <| .cd rfl (fun h31 => ?_) (fun h31 => ?_)
   ·try simp only [dt] at h31
    refine .sr <| .m rfl rfl <| .yv (.eql rfl rfl) rfl <| .a rfl rfl <| .nt <| .rt <| .bR <| .tR <| ?_
    refine Sx.ret1 (.inl rfl) rfl (.tmp rfl) fun W s => ⟨?_, s.ext⟩
    first
      | (rw [cnt_eq]; exact retE (dT (by omega)))
      | (rw [cnt_eq]; exact retE (dF (by omega)))
      | (rw [cnt_eq]; exact retE (dD (by omega)))
   try simp only [df] at h31
   refine .sk <| .bN <| .tN <| .sr <| .a rfl rfl <| .nt <| .rt <| ?_
   refine Sx.ret1 (.inl rfl) rfl (.tmp rfl) fun W s => ⟨?_, s.ext⟩
   first
     | (rw [cnt_eq]; exact retE (dT (by omega)))
     | (rw [cnt_eq]; exact retE (dF (by omega)))
     | (rw [cnt_eq]; exact retE (dD (by omega)))
  try simp only [df] at h6
  refine .sr <| .yv (.eql rfl rfl) rfl <| .a rfl rfl <| .nt <| .cd rfl (fun h6 => ?_) (fun h6 => ?_)
  ·try simp only [dt] at h6
   refine .sk <| .tN <| .cd rfl (fun h6 => ?_) (fun h6 => ?_)
   ·try simp only [dt] at h6
    refine .sr <| .m rfl rfl <| .yv (.eql rfl rfl) rfl <| .a rfl rfl <| .nt <| .rt <| .bR <| .tR <| ?_
    refine Sx.ret1 (.inl rfl) rfl (.tmp rfl) fun W s => ⟨?_, s.ext⟩
    first
      | (rw [cnt_eq]; exact retE (dT (by omega)))
      | (rw [cnt_eq]; exact retE (dF (by omega)))
      | (rw [cnt_eq]; exact retE (dD (by omega)))
   try simp only [df] at h6
   refine .sq <| .sr <| .yv (.eql rfl rfl) rfl <| .a rfl rfl <| .nt <| .cd rfl (fun h14 => ?_) (fun h14 => ?_)
   ·try simp only [dt] at h14
    refine .sk <| .tN <| .cd rfl (fun h14 => ?_) (fun h14 => ?_)
    ·try simp only [dt] at h14
     refine .sr <| .m rfl rfl <| .yv (.eql rfl rfl) rfl <| .a rfl rfl <| .nt <| .rt <| .bR <| .tR <| ?_
     refine Sx.ret1 (.inl rfl) rfl (.tmp rfl) fun W s => ⟨?_, s.ext⟩
     first
       | (rw [cnt_eq]; exact retE (dT (by omega)))
       | (rw [cnt_eq]; exact retE (dF (by omega)))
       | (rw [cnt_eq]; exact retE (dD (by omega)))
    try simp only [df] at h14
    refine .sr <| .yv (.eql rfl rfl) rfl <| .a rfl rfl <| .nt <| .cd rfl (fun h19 => ?_) (fun h19 => ?_)
    ·try simp only [dt] at h19
     refine .sr <| .m rfl rfl <| .yv (.leq rfl rfl) rfl <| .a rfl rfl <| .nt <| .rt <| .bR <| .tR <| ?_
     refine Sx.ret1 (.inl rfl) rfl (.tmp rfl) fun W s => ⟨?_, s.ext⟩
     first
       | (rw [cnt_eq]; exact retE (dT (by omega)))
       | (rw [cnt_eq]; exact retE (dF (by omega)))
       | (rw [cnt_eq]; exact retE (dD (by omega)))
    try simp only [df] at h19
    refine .sr <| .yv (.eql rfl rfl) rfl <| .a rfl rfl <| .nt <| .cd rfl (fun h23 => ?_) (fun h23 => ?_)
    ·try simp only [dt] at h23
     refine .sr <| .m rfl rfl <| .yv (.geq rfl rfl) rfl <| .m rfl rfl <| .b2 (fun h27 => ?_) (fun h27 => ?_)
     ·try simp only [dt] at h27
      refine .gd rfl rfl <| .yv (.move rfl) rfl <| .gd rfl rfl <| .yv (.leq rfl rfl) rfl <| .yv (.pickT rfl rfl) rfl <| .a rfl rfl <| .nt <| .rt <| .bR <| .tR <| ?_
      refine Sx.ret1 (.inl rfl) rfl (.tmp rfl) fun W s => ⟨?_, s.ext⟩
      first
        | (rw [cnt_eq]; exact retE (dT (by omega)))
        | (rw [cnt_eq]; exact retE (dF (by omega)))
        | (rw [cnt_eq]; exact retE (dD (by omega)))
     try simp only [df] at h27
     refine .gF rfl rfl rfl rfl <| .gF rfl rfl rfl rfl <| .yv (.pickF rfl rfl) rfl <| .a rfl rfl <| .nt <| .rt <| .bR <| .tR <| ?_
     refine Sx.ret1 (.inl rfl) rfl (.tmp rfl) fun W s => ⟨?_, s.ext⟩
     first
       | (rw [cnt_eq]; exact retE (dT (by omega)))
       | (rw [cnt_eq]; exact retE (dF (by omega)))
       | (rw [cnt_eq]; exact retE (dD (by omega)))
    try simp only [df] at h23
    refine .sr <| .yv (.eql rfl rfl) rfl <| .a rfl rfl <| .nt <| .cd rfl (fun h31 => ?_) (fun h31 => ?_)
    ·try simp only [dt] at h31
     refine .sr <| .m rfl rfl <| .yv (.eql rfl rfl) rfl <| .a rfl rfl <| .nt <| .rt <| .bR <| .tR <| ?_
     refine Sx.ret1 (.inl rfl) rfl (.tmp rfl) fun W s => ⟨?_, s.ext⟩
     first
       | (rw [cnt_eq]; exact retE (dT (by omega)))
       | (rw [cnt_eq]; exact retE (dF (by omega)))
       | (rw [cnt_eq]; exact retE (dD (by omega)))
    try simp only [df] at h31
    refine .sk <| .bN <| .tN <| .sr <| .a rfl rfl <| .nt <| .rt <| ?_
    refine Sx.ret1 (.inl rfl) rfl (.tmp rfl) fun W s => ⟨?_, s.ext⟩
    first
      | (rw [cnt_eq]; exact retE (dT (by omega)))
      | (rw [cnt_eq]; exact retE (dF (by omega)))
      | (rw [cnt_eq]; exact retE (dD (by omega)))
   try simp only [df] at h14
   refine .rg <| .yv (.eql rfl rfl) rfl <| .a rfl rfl <| .nt <| .cd rfl (fun h14 => ?_) (fun h14 => ?_)
   ·try simp only [dt] at h14
    refine .sr <| .m rfl rfl <| .yv (.eql rfl rfl) rfl <| .a rfl rfl <| .nt <| .rt <| .bR <| .tR <| ?_
    refine Sx.ret1 (.inl rfl) rfl (.tmp rfl) fun W s => ⟨?_, s.ext⟩
    first
      | (rw [cnt_eq]; exact retE (dT (by omega)))
      | (rw [cnt_eq]; exact retE (dF (by omega)))
      | (rw [cnt_eq]; exact retE (dD (by omega)))
   try simp only [df] at h14
   refine .sr <| .yv (.eql rfl rfl) rfl <| .a rfl rfl <| .nt <| .cd rfl (fun h19 => ?_) (fun h19 => ?_)
   ·try simp only [dt] at h19
    refine .sr <| .m rfl rfl <| .yv (.leq rfl rfl) rfl <| .a rfl rfl <| .nt <| .rt <| .bR <| .tR <| ?_
    refine Sx.ret1 (.inl rfl) rfl (.tmp rfl) fun W s => ⟨?_, s.ext⟩
    first
      | (rw [cnt_eq]; exact retE (dT (by omega)))
      | (rw [cnt_eq]; exact retE (dF (by omega)))
      | (rw [cnt_eq]; exact retE (dD (by omega)))
   try simp only [df] at h19
   refine .sr <| .yv (.eql rfl rfl) rfl <| .a rfl rfl <| .nt <| .cd rfl (fun h23 => ?_) (fun h23 => ?_)
   ·try simp only [dt] at h23
    refine .sr <| .m rfl rfl <| .yv (.geq rfl rfl) rfl <| .m rfl rfl <| .b2 (fun h27 => ?_) (fun h27 => ?_)
    ·try simp only [dt] at h27
     refine .gd rfl rfl <| .yv (.move rfl) rfl <| .gd rfl rfl <| .yv (.leq rfl rfl) rfl <| .yv (.pickT rfl rfl) rfl <| .a rfl rfl <| .nt <| .rt <| .bR <| .tR <| ?_
     refine Sx.ret1 (.inl rfl) rfl (.tmp rfl) fun W s => ⟨?_, s.ext⟩
     first
       | (rw [cnt_eq]; exact retE (dT (by omega)))
       | (rw [cnt_eq]; exact retE (dF (by omega)))
       | (rw [cnt_eq]; exact retE (dD (by omega)))
    try simp only [df] at h27
    refine .gF rfl rfl rfl rfl <| .gF rfl rfl rfl rfl <| .yv (.pickF rfl rfl) rfl <| .a rfl rfl <| .nt <| .rt <| .bR <| .tR <| ?_
    refine Sx.ret1 (.inl rfl) rfl (.tmp rfl) fun W s => ⟨?_, s.ext⟩
    first
      | (rw [cnt_eq]; exact retE (dT (by omega)))
      | (rw [cnt_eq]; exact retE (dF (by omega)))
      | (rw [cnt_eq]; exact retE (dD (by omega)))
   try simp only [df] at h23
   refine .sr <| .yv (.eql rfl rfl) rfl <| .a rfl rfl <| .nt <| .cd rfl (fun h31 => ?_) (fun h31 => ?_)
   ·try simp only [dt] at h31
    refine .sr <| .m rfl rfl <| .yv (.eql rfl rfl) rfl <| .a rfl rfl <| .nt <| .rt <| .bR <| .tR <| ?_
    refine Sx.ret1 (.inl rfl) rfl (.tmp rfl) fun W s => ⟨?_, s.ext⟩
    first
      | (rw [cnt_eq]; exact retE (dT (by omega)))
      | (rw [cnt_eq]; exact retE (dF (by omega)))
      | (rw [cnt_eq]; exact retE (dD (by omega)))
   try simp only [df] at h31
   refine .sk <| .bN <| .tN <| .sr <| .a rfl rfl <| .nt <| .rt <| ?_
   refine Sx.ret1 (.inl rfl) rfl (.tmp rfl) fun W s => ⟨?_, s.ext⟩
   first
     | (rw [cnt_eq]; exact retE (dT (by omega)))
     | (rw [cnt_eq]; exact retE (dF (by omega)))
     | (rw [cnt_eq]; exact retE (dD (by omega)))
  try simp only [df] at h6
  refine .sr <| .yv (.eql rfl rfl) rfl <| .a rfl rfl <| .nt <| .cd rfl (fun h6 => ?_) (fun h6 => ?_)
  ·try simp only [dt] at h6
   refine .sk <| .tN <| .cd rfl (fun h6 => ?_) (fun h6 => ?_)
   ·try simp only [dt] at h6
    refine .sr <| .m rfl rfl <| .yv (.eql rfl rfl) rfl <| .a rfl rfl <| .nt <| .rt <| .bR <| .tR <| ?_
    refine Sx.ret1 (.inl rfl) rfl (.tmp rfl) fun W s => ⟨?_, s.ext⟩
    first
      | (rw [cnt_eq]; exact retE (dT (by omega)))
      | (rw [cnt_eq]; exact retE (dF (by omega)))
      | (rw [cnt_eq]; exact retE (dD (by omega)))
   try simp only [df] at h6
   refine .sq <| .sr <| .yv (.eql rfl rfl) rfl <| .a rfl rfl <| .nt <| .cd rfl (fun h14 => ?_) (fun h14 => ?_)
   ·try simp only [dt] at h14
    refine .sk <| .tN <| .cd rfl (fun h14 => ?_) (fun h14 => ?_)
    ·try simp only [dt] at h14
     refine .sr <| .m rfl rfl <| .yv (.eql rfl rfl) rfl <| .a rfl rfl <| .nt <| .rt <| .bR <| .tR <| ?_
     refine Sx.ret1 (.inl rfl) rfl (.tmp rfl) fun W s => ⟨?_, s.ext⟩
     first
       | (rw [cnt_eq]; exact retE (dT (by omega)))
       | (rw [cnt_eq]; exact retE (dF (by omega)))
       | (rw [cnt_eq]; exact retE (dD (by omega)))
    try simp only [df] at h14
    refine .sr <| .yv (.eql rfl rfl) rfl <| .a rfl rfl <| .nt <| .cd rfl (fun h19 => ?_) (fun h19 => ?_)
    ·try simp only [dt] at h19
     refine .sr <| .m rfl rfl <| .yv (.leq rfl rfl) rfl <| .a rfl rfl <| .nt <| .rt <| .bR <| .tR <| ?_
     refine Sx.ret1 (.inl rfl) rfl (.tmp rfl) fun W s => ⟨?_, s.ext⟩
     first
       | (rw [cnt_eq]; exact retE (dT (by omega)))
       | (rw [cnt_eq]; exact retE (dF (by omega)))
       | (rw [cnt_eq]; exact retE (dD (by omega)))
    try simp only [df] at h19
    refine .sr <| .yv (.eql rfl rfl) rfl <| .a rfl rfl <| .nt <| .cd rfl (fun h23 => ?_) (fun h23 => ?_)
    ·try simp only [dt] at h23
     refine .sr <| .m rfl rfl <| .yv (.geq rfl rfl) rfl <| .m rfl rfl <| .b2 (fun h27 => ?_) (fun h27 => ?_)
     ·try simp only [dt] at h27
      refine .gd rfl rfl <| .yv (.move rfl) rfl <| .gd rfl rfl <| .yv (.leq rfl rfl) rfl <| .yv (.pickT rfl rfl) rfl <| .a rfl rfl <| .nt <| .rt <| .bR <| .tR <| ?_
      refine Sx.ret1 (.inl rfl) rfl (.tmp rfl) fun W s => ⟨?_, s.ext⟩
      first
        | (rw [cnt_eq]; exact retE (dT (by omega)))
        | (rw [cnt_eq]; exact retE (dF (by omega)))
        | (rw [cnt_eq]; exact retE (dD (by omega)))
     try simp only [df] at h27
     refine .gF rfl rfl rfl rfl <| .gF rfl rfl rfl rfl <| .yv (.pickF rfl rfl) rfl <| .a rfl rfl <| .nt <| .rt <| .bR <| .tR <| ?_
     refine Sx.ret1 (.inl rfl) rfl (.tmp rfl) fun W s => ⟨?_, s.ext⟩
     first
       | (rw [cnt_eq]; exact retE (dT (by omega)))
       | (rw [cnt_eq]; exact retE (dF (by omega)))
       | (rw [cnt_eq]; exact retE (dD (by omega)))
    try simp only [df] at h23
    refine .sr <| .yv (.eql rfl rfl) rfl <| .a rfl rfl <| .nt <| .cd rfl (fun h31 => ?_) (fun h31 => ?_)
    ·try simp only [dt] at h31
     refine .sr <| .m rfl rfl <| .yv (.eql rfl rfl) rfl <| .a rfl rfl <| .nt <| .rt <| .bR <| .tR <| ?_
     refine Sx.ret1 (.inl rfl) rfl (.tmp rfl) fun W s => ⟨?_, s.ext⟩
     first
       | (rw [cnt_eq]; exact retE (dT (by omega)))
       | (rw [cnt_eq]; exact retE (dF (by omega)))
       | (rw [cnt_eq]; exact retE (dD (by omega)))
    try simp only [df] at h31
    refine .sk <| .bN <| .tN <| .sr <| .a rfl rfl <| .nt <| .rt <| ?_
    refine Sx.ret1 (.inl rfl) rfl (.tmp rfl) fun W s => ⟨?_, s.ext⟩
    first
      | (rw [cnt_eq]; exact retE (dT (by omega)))
      | (rw [cnt_eq]; exact retE (dF (by omega)))
      | (rw [cnt_eq]; exact retE (dD (by omega)))
   try simp only [df] at h14
   refine .rg <| .yv (.eql rfl rfl) rfl <| .a rfl rfl <| .nt <| .cd rfl (fun h14 => ?_) (fun h14 => ?_)
   ·try simp only [dt] at h14
    refine .sr <| .m rfl rfl <| .yv (.eql rfl rfl) rfl <| .a rfl rfl <| .nt <| .rt <| .bR <| .tR <| ?_
    refine Sx.ret1 (.inl rfl) rfl (.tmp rfl) fun W s => ⟨?_, s.ext⟩
    first
      | (rw [cnt_eq]; exact retE (dT (by omega)))
      | (rw [cnt_eq]; exact retE (dF (by omega)))
      | (rw [cnt_eq]; exact retE (dD (by omega)))
   try simp only [df] at h14
   refine .sr <| .yv (.eql rfl rfl) rfl <| .a rfl rfl <| .nt <| .cd rfl (fun h19 => ?_) (fun h19 => ?_)
   ·try simp only [dt] at h19
    refine .sr <| .m rfl rfl <| .yv (.leq rfl rfl) rfl <| .a rfl rfl <| .nt <| .rt <| .bR <| .tR <| ?_
    refine Sx.ret1 (.inl rfl) rfl (.tmp rfl) fun W s => ⟨?_, s.ext⟩
    first
      | (rw [cnt_eq]; exact retE (dT (by omega)))
      | (rw [cnt_eq]; exact retE (dF (by omega)))
      | (rw [cnt_eq]; exact retE (dD (by omega)))
   try simp only [df] at h19
   refine .sr <| .yv (.eql rfl rfl) rfl <| .a rfl rfl <| .nt <| .cd rfl (fun h23 => ?_) (fun h23 => ?_)
   ·try simp only [dt] at h23
    refine .sr <| .m rfl rfl <| .yv (.geq rfl rfl) rfl <| .m rfl rfl <| .b2 (fun h27 => ?_) (fun h27 => ?_)
    ·try simp only [dt] at h27
     refine .gd rfl rfl <| .yv (.move rfl) rfl <| .gd rfl rfl <| .yv (.leq rfl rfl) rfl <| .yv (.pickT rfl rfl) rfl <| .a rfl rfl <| .nt <| .rt <| .bR <| .tR <| ?_
     refine Sx.ret1 (.inl rfl) rfl (.tmp rfl) fun W s => ⟨?_, s.ext⟩
     first
       | (rw [cnt_eq]; exact retE (dT (by omega)))
       | (rw [cnt_eq]; exact retE (dF (by omega)))
       | (rw [cnt_eq]; exact retE (dD (by omega)))
    try simp only [df] at h27
    refine .gF rfl rfl rfl rfl <| .gF rfl rfl rfl rfl <| .yv (.pickF rfl rfl) rfl <| .a rfl rfl <| .nt <| .rt <| .bR <| .tR <| ?_
    refine Sx.ret1 (.inl rfl) rfl (.tmp rfl) fun W s => ⟨?_, s.ext⟩
    first
      | (rw [cnt_eq]; exact retE (dT (by omega)))
      | (rw [cnt_eq]; exact retE (dF (by omega)))
      | (rw [cnt_eq]; exact retE (dD (by omega)))
   try simp only [df] at h23
   refine .sr <| .yv (.eql rfl rfl) rfl <| .a rfl rfl <| .nt <| .cd rfl (fun h31 => ?_) (fun h31 => ?_)
   ·try simp only [dt] at h31
    refine .sr <| .m rfl rfl <| .yv (.eql rfl rfl) rfl <| .a rfl rfl <| .nt <| .rt <| .bR <| .tR <| ?_
    refine Sx.ret1 (.inl rfl) rfl (.tmp rfl) fun W s => ⟨?_, s.ext⟩
    first
      | (rw [cnt_eq]; exact retE (dT (by omega)))
      | (rw [cnt_eq]; exact retE (dF (by omega)))
      | (rw [cnt_eq]; exact retE (dD (by omega)))
   try simp only [df] at h31
   refine .sk <| .bN <| .tN <| .sr <| .a rfl rfl <| .nt <| .rt <| ?_
   refine Sx.ret1 (.inl rfl) rfl (.tmp rfl) fun W s => ⟨?_, s.ext⟩
   first
     | (rw [cnt_eq]; exact retE (dT (by omega)))
     | (rw [cnt_eq]; exact retE (dF (by omega)))
     | (rw [cnt_eq]; exact retE (dD (by omega)))
  try simp only [df] at h6
  refine .sr <| .yv (.eql rfl rfl) rfl <| .a rfl rfl <| .nt <| .cd rfl (fun h6 => ?_) (fun h6 => ?_)
  ·try simp only [dt] at h6
   refine .sk <| .tN <| .cd rfl (fun h6 => ?_) (fun h6 => ?_)
   ·try simp only [dt] at h6
    refine .sr <| .m rfl rfl <| .yv (.eql rfl rfl) rfl <| .a rfl rfl <| .nt <| .rt <| .bR <| .tR <| ?_
    refine Sx.ret1 (.inl rfl) rfl (.tmp rfl) fun W s => ⟨?_, s.ext⟩
    first
      | (rw [cnt_eq]; exact retE (dT (by omega)))
      | (rw [cnt_eq]; exact retE (dF (by omega)))
      | (rw [cnt_eq]; exact retE (dD (by omega)))
   try simp only [df] at h6
   refine .sq <| .sr <| .yv (.eql rfl rfl) rfl <| .a rfl rfl <| .nt <| .cd rfl (fun h14 => ?_) (fun h14 => ?_)
   ·try simp only [dt] at h14
    refine .sk <| .tN <| .cd rfl (fun h14 => ?_) (fun h14 => ?_)
    ·try simp only [dt] at h14
     refine .sr <| .m rfl rfl <| .yv (.eql rfl rfl) rfl <| .a rfl rfl <| .nt <| .rt <| .bR <| .tR <| ?_
     refine Sx.ret1 (.inl rfl) rfl (.tmp rfl) fun W s => ⟨?_, s.ext⟩
     first
       | (rw [cnt_eq]; exact retE (dT (by omega)))
       | (rw [cnt_eq]; exact retE (dF (by omega)))
       | (rw [cnt_eq]; exact retE (dD (by omega)))
    try simp only [df] at h14
    refine .sr <| .yv (.eql rfl rfl) rfl <| .a rfl rfl <| .nt <| .cd rfl (fun h19 => ?_) (fun h19 => ?_)
    ·try simp only [dt] at h19
     refine .sr <| .m rfl rfl <| .yv (.leq rfl rfl) rfl <| .a rfl rfl <| .nt <| .rt <| .bR <| .tR <| ?_
     refine Sx.ret1 (.inl rfl) rfl (.tmp rfl) fun W s => ⟨?_, s.ext⟩
     first
       | (rw [cnt_eq]; exact retE (dT (by omega)))
       | (rw [cnt_eq]; exact retE (dF (by omega)))
       | (rw [cnt_eq]; exact retE (dD (by omega)))
    try simp only [df] at h19
    refine .sr <| .yv (.eql rfl rfl) rfl <| .a rfl rfl <| .nt <| .cd rfl (fun h23 => ?_) (fun h23 => ?_)
    ·try simp only [dt] at h23
     refine .sr <| .m rfl rfl <| .yv (.geq rfl rfl) rfl <| .m rfl rfl <| .b2 (fun h27 => ?_) (fun h27 => ?_)
     ·try simp only [dt] at h27
      refine .gd rfl rfl <| .yv (.move rfl) rfl <| .gd rfl rfl <| .yv (.leq rfl rfl) rfl <| .yv (.pickT rfl rfl) rfl <| .a rfl rfl <| .nt <| .rt <| .bR <| .tR <| ?_
      refine Sx.ret1 (.inl rfl) rfl (.tmp rfl) fun W s => ⟨?_, s.ext⟩
      first
        | (rw [cnt_eq]; exact retE (dT (by omega)))
        | (rw [cnt_eq]; exact retE (dF (by omega)))
        | (rw [cnt_eq]; exact retE (dD (by omega)))
     try simp only [df] at h27
     refine .gF rfl rfl rfl rfl <| .gF rfl rfl rfl rfl <| .yv (.pickF rfl rfl) rfl <| .a rfl rfl <| .nt <| .rt <| .bR <| .tR <| ?_
     refine Sx.ret1 (.inl rfl) rfl (.tmp rfl) fun W s => ⟨?_, s.ext⟩
     first
       | (rw [cnt_eq]; exact retE (dT (by omega)))
       | (rw [cnt_eq]; exact retE (dF (by omega)))
       | (rw [cnt_eq]; exact retE (dD (by omega)))
    try simp only [df] at h23
    refine .sr <| .yv (.eql rfl rfl) rfl <| .a rfl rfl <| .nt <| .cd rfl (fun h31 => ?_) (fun h31 => ?_)
    ·try simp only [dt] at h31
     refine .sr <| .m rfl rfl <| .yv (.eql rfl rfl) rfl <| .a rfl rfl <| .nt <| .rt <| .bR <| .tR <| ?_
     refine Sx.ret1 (.inl rfl) rfl (.tmp rfl) fun W s => ⟨?_, s.ext⟩
     first
       | (rw [cnt_eq]; exact retE (dT (by omega)))
       | (rw [cnt_eq]; exact retE (dF (by omega)))
       | (rw [cnt_eq]; exact retE (dD (by omega)))
    try simp only [df] at h31
    refine .sk <| .bN <| .tN <| .sr <| .a rfl rfl <| .nt <| .rt <| ?_
    refine Sx.ret1 (.inl rfl) rfl (.tmp rfl) fun W s => ⟨?_, s.ext⟩
    first
      | (rw [cnt_eq]; exact retE (dT (by omega)))
      | (rw [cnt_eq]; exact retE (dF (by omega)))
      | (rw [cnt_eq]; exact retE (dD (by omega)))
   try simp only [df] at h14
   refine .rg <| .yv (.eql rfl rfl) rfl <| .a rfl rfl <| .nt <| .cd rfl (fun h14 => ?_) (fun h14 => ?_)
   ·try simp only [dt] at h14
    refine .sr <| .m rfl rfl <| .yv (.eql rfl rfl) rfl <| .a rfl rfl <| .nt <| .rt <| .bR <| .tR <| ?_
    refine Sx.ret1 (.inl rfl) rfl (.tmp rfl) fun W s => ⟨?_, s.ext⟩
    first
      | (rw [cnt_eq]; exact retE (dT (by omega)))
      | (rw [cnt_eq]; exact retE (dF (by omega)))
      | (rw [cnt_eq]; exact retE (dD (by omega)))
   try simp only [df] at h14
   refine .sr <| .yv (.eql rfl rfl) rfl <| .a rfl rfl <| .nt <| .cd rfl (fun h19 => ?_) (fun h19 => ?_)
   ·try simp only [dt] at h19
    refine .sr <| .m rfl rfl <| .yv (.leq rfl rfl) rfl <| .a rfl rfl <| .nt <| .rt <| .bR <| .tR <| ?_
    refine Sx.ret1 (.inl rfl) rfl (.tmp rfl) fun W s => ⟨?_, s.ext⟩
    first
      | (rw [cnt_eq]; exact retE (dT (by omega)))
      | (rw [cnt_eq]; exact retE (dF (by omega)))
      | (rw [cnt_eq]; exact retE (dD (by omega)))
   try simp only [df] at h19
   refine .sr <| .yv (.eql rfl rfl) rfl <| .a rfl rfl <| .nt <| .cd rfl (fun h23 => ?_) (fun h23 => ?_)
   ·try simp only [dt] at h23
    refine .sr <| .m rfl rfl <| .yv (.geq rfl rfl) rfl <| .m rfl rfl <| .b2 (fun h27 => ?_) (fun h27 => ?_)
    ·try simp only [dt] at h27
     refine .gd rfl rfl <| .yv (.move rfl) rfl <| .gd rfl rfl <| .yv (.leq rfl rfl) rfl <| .yv (.pickT rfl rfl) rfl <| .a rfl rfl <| .nt <| .rt <| .bR <| .tR <| ?_
     refine Sx.ret1 (.inl rfl) rfl (.tmp rfl) fun W s => ⟨?_, s.ext⟩
     first
       | (rw [cnt_eq]; exact retE (dT (by omega)))
       | (rw [cnt_eq]; exact retE (dF (by omega)))
       | (rw [cnt_eq]; exact retE (dD (by omega)))
    try simp only [df] at h27
    refine .gF rfl rfl rfl rfl <| .gF rfl rfl rfl rfl <| .yv (.pickF rfl rfl) rfl <| .a rfl rfl <| .nt <| .rt <| .bR <| .tR <| ?_
    refine Sx.ret1 (.inl rfl) rfl (.tmp rfl) fun W s => ⟨?_, s.ext⟩
    first
      | (rw [cnt_eq]; exact retE (dT (by omega)))
      | (rw [cnt_eq]; exact retE (dF (by omega)))
      | (rw [cnt_eq]; exact retE (dD (by omega)))
   try simp only [df] at h23
   refine .sr <| .yv (.eql rfl rfl) rfl <| .a rfl rfl <| .nt <| .cd rfl (fun h31 => ?_) (fun h31 => ?_)
   ·try simp only [dt] at h31
    refine .sr <| .m rfl rfl <| .yv (.eql rfl rfl) rfl <| .a rfl rfl <| .nt <| .rt <| .bR <| .tR <| ?_
    refine Sx.ret1 (.inl rfl) rfl (.tmp rfl) fun W s => ⟨?_, s.ext⟩
    first
      | (rw [cnt_eq]; exact retE (dT (by omega)))
      | (rw [cnt_eq]; exact retE (dF (by omega)))
      | (rw [cnt_eq]; exact retE (dD (by omega)))
   try simp only [df] at h31
   refine .sk <| .bN <| .tN <| .sr <| .a rfl rfl <| .nt <| .rt <| ?_
   refine Sx.ret1 (.inl rfl) rfl (.tmp rfl) fun W s => ⟨?_, s.ext⟩
   first
     | (rw [cnt_eq]; exact retE (dT (by omega)))
     | (rw [cnt_eq]; exact retE (dF (by omega)))
     | (rw [cnt_eq]; exact retE (dD (by omega)))
  try simp only [df] at h6
  refine .rg <| .yv (.eql rfl rfl) rfl <| .a rfl rfl <| .nt <| .cd rfl (fun h6 => ?_) (fun h6 => ?_)
  ·try simp only [dt] at h6
   refine .sr <| .m rfl rfl <| .yv (.eql rfl rfl) rfl <| .a rfl rfl <| .nt <| .rt <| .bR <| .tR <| ?_
   refine Sx.ret1 (.inl rfl) rfl (.tmp rfl) fun W s => ⟨?_, s.ext⟩
   first
     | (rw [cnt_eq]; exact retE (dT (by omega)))
     | (rw [cnt_eq]; exact retE (dF (by omega)))
     | (rw [cnt_eq]; exact retE (dD (by omega)))
  try simp only [df] at h6
  refine .sq <| .sr <| .yv (.eql rfl rfl) rfl <| .a rfl rfl <| .nt <| .cd rfl (fun h14 => ?_) (fun h14 => ?_)
  ·try simp only [dt] at h14
   refine .sk <| .tN <| .cd rfl (fun h14 => ?_) (fun h14 => ?_)
   ·try simp only [dt] at h14
    refine .sr <| .m rfl rfl <| .yv (.eql rfl rfl) rfl <| .a rfl rfl <| .nt <| .rt <| .bR <| .tR <| ?_
    refine Sx.ret1 (.inl rfl) rfl (.tmp rfl) fun W s => ⟨?_, s.ext⟩
    first
      | (rw [cnt_eq]; exact retE (dT (by omega)))
      | (rw [cnt_eq]; exact retE (dF (by omega)))
      | (rw [cnt_eq]; exact retE (dD (by omega)))
   try simp only [df] at h14
   refine .sr <| .yv (.eql rfl rfl) rfl <| .a rfl rfl <| .nt <| .cd rfl (fun h19 => ?_) (fun h19 => ?_)
   ·try simp only [dt] at h19
    refine .sr <| .m rfl rfl <| .yv (.leq rfl rfl) rfl <| .a rfl rfl <| .nt <| .rt <| .bR <| .tR <| ?_
    refine Sx.ret1 (.inl rfl) rfl (.tmp rfl) fun W s => ⟨?_, s.ext⟩
    first
      | (rw [cnt_eq]; exact retE (dT (by omega)))
      | (rw [cnt_eq]; exact retE (dF (by omega)))
      | (rw [cnt_eq]; exact retE (dD (by omega)))
   try simp only [df] at h19
   refine .sr <| .yv (.eql rfl rfl) rfl <| .a rfl rfl <| .nt <| .cd rfl (fun h23 => ?_) (fun h23 => ?_)
   ·try simp only [dt] at h23
    refine .sr <| .m rfl rfl <| .yv (.geq rfl rfl) rfl <| .m rfl rfl <| .b2 (fun h27 => ?_) (fun h27 => ?_)
    ·try simp only [dt] at h27
     refine .gd rfl rfl <| .yv (.move rfl) rfl <| .gd rfl rfl <| .yv (.leq rfl rfl) rfl <| .yv (.pickT rfl rfl) rfl <| .a rfl rfl <| .nt <| .rt <| .bR <| .tR <| ?_
     refine Sx.ret1 (.inl rfl) rfl (.tmp rfl) fun W s => ⟨?_, s.ext⟩
     first
       | (rw [cnt_eq]; exact retE (dT (by omega)))
       | (rw [cnt_eq]; exact retE (dF (by omega)))
       | (rw [cnt_eq]; exact retE (dD (by omega)))
    try simp only [df] at h27
    refine .gF rfl rfl rfl rfl <| .gF rfl rfl rfl rfl <| .yv (.pickF rfl rfl) rfl <| .a rfl rfl <| .nt <| .rt <| .bR <| .tR <| ?_
    refine Sx.ret1 (.inl rfl) rfl (.tmp rfl) fun W s => ⟨?_, s.ext⟩
    first
      | (rw [cnt_eq]; exact retE (dT (by omega)))
      | (rw [cnt_eq]; exact retE (dF (by omega)))
      | (rw [cnt_eq]; exact retE (dD (by omega)))
   try simp only [df] at h23
   refine .sr <| .yv (.eql rfl rfl) rfl <| .a rfl rfl <| .nt <| .cd rfl (fun h31 => ?_) (fun h31 => ?_)
   ·try simp only [dt] at h31
    refine .sr <| .m rfl rfl <| .yv (.eql rfl rfl) rfl <| .a rfl rfl <| .nt <| .rt <| .bR <| .tR <| ?_
    refine Sx.ret1 (.inl rfl) rfl (.tmp rfl) fun W s => ⟨?_, s.ext⟩
    first
      | (rw [cnt_eq]; exact retE (dT (by omega)))
      | (rw [cnt_eq]; exact retE (dF (by omega)))
      | (rw [cnt_eq]; exact retE (dD (by omega)))
   try simp only [df] at h31
   refine .sk <| .bN <| .tN <| .sr <| .a rfl rfl <| .nt <| .rt <| ?_
   refine Sx.ret1 (.inl rfl) rfl (.tmp rfl) fun W s => ⟨?_, s.ext⟩
   first
     | (rw [cnt_eq]; exact retE (dT (by omega)))
     | (rw [cnt_eq]; exact retE (dF (by omega)))
     | (rw [cnt_eq]; exact retE (dD (by omega)))
  try simp only [df] at h14
  refine .rg <| .yv (.eql rfl rfl) rfl <| .a rfl rfl <| .nt <| .cd rfl (fun h14 => ?_) (fun h14 => ?_)
  ·try simp only [dt] at h14
   refine .sr <| .m rfl rfl <| .yv (.eql rfl rfl) rfl <| .a rfl rfl <| .nt <| .rt <| .bR <| .tR <| ?_
   refine Sx.ret1 (.inl rfl) rfl (.tmp rfl) fun W s => ⟨?_, s.ext⟩
   first
     | (rw [cnt_eq]; exact retE (dT (by omega)))
     | (rw [cnt_eq]; exact retE (dF (by omega)))
     | (rw [cnt_eq]; exact retE (dD (by omega)))
  try simp only [df] at h14
  refine .sr <| .yv (.eql rfl rfl) rfl <| .a rfl rfl <| .nt <| .cd rfl (fun h19 => ?_) (fun h19 => ?_)
  ·try simp only [dt] at h19
   refine .sr <| .m rfl rfl <| .yv (.leq rfl rfl) rfl <| .a rfl rfl <| .nt <| .rt <| .bR <| .tR <| ?_
   refine Sx.ret1 (.inl rfl) rfl (.tmp rfl) fun W s => ⟨?_, s.ext⟩
   first
     | (rw [cnt_eq]; exact retE (dT (by omega)))
     | (rw [cnt_eq]; exact retE (dF (by omega)))
     | (rw [cnt_eq]; exact retE (dD (by omega)))
  try simp only [df] at h19
  refine .sr <| .yv (.eql rfl rfl) rfl <| .a rfl rfl <| .nt <| .cd rfl (fun h23 => ?_) (fun h23 => ?_)
  ·try simp only [dt] at h23
   refine .sr <| .m rfl rfl <| .yv (.geq rfl rfl) rfl <| .m rfl rfl <| .b2 (fun h27 => ?_) (fun h27 => ?_)
   ·try simp only [dt] at h27
    refine .gd rfl rfl <| .yv (.move rfl) rfl <| .gd rfl rfl <| .yv (.leq rfl rfl) rfl <| .yv (.pickT rfl rfl) rfl <| .a rfl rfl <| .nt <| .rt <| .bR <| .tR <| ?_
    refine Sx.ret1 (.inl rfl) rfl (.tmp rfl) fun W s => ⟨?_, s.ext⟩
    first
      | (rw [cnt_eq]; exact retE (dT (by omega)))
      | (rw [cnt_eq]; exact retE (dF (by omega)))
      | (rw [cnt_eq]; exact retE (dD (by omega)))
   try simp only [df] at h27
   refine .gF rfl rfl rfl rfl <| .gF rfl rfl rfl rfl <| .yv (.pickF rfl rfl) rfl <| .a rfl rfl <| .nt <| .rt <| .bR <| .tR <| ?_
   refine Sx.ret1 (.inl rfl) rfl (.tmp rfl) fun W s => ⟨?_, s.ext⟩
   first
     | (rw [cnt_eq]; exact retE (dT (by omega)))
     | (rw [cnt_eq]; exact retE (dF (by omega)))
     | (rw [cnt_eq]; exact retE (dD (by omega)))
  try simp only [df] at h23
  refine .sr <| .yv (.eql rfl rfl) rfl <| .a rfl rfl <| .nt <| .cd rfl (fun h31 => ?_) (fun h31 => ?_)
  ·try simp only [dt] at h31
   refine .sr <| .m rfl rfl <| .yv (.eql rfl rfl) rfl <| .a rfl rfl <| .nt <| .rt <| .bR <| .tR <| ?_
   refine Sx.ret1 (.inl rfl) rfl (.tmp rfl) fun W s => ⟨?_, s.ext⟩
   first
     | (rw [cnt_eq]; exact retE (dT (by omega)))
     | (rw [cnt_eq]; exact retE (dF (by omega)))
     | (rw [cnt_eq]; exact retE (dD (by omega)))
  try simp only [df] at h31
  refine .sk <| .bN <| .tN <| .sr <| .a rfl rfl <| .nt <| .rt <| ?_
  refine Sx.ret1 (.inl rfl) rfl (.tmp rfl) fun W s => ⟨?_, s.ext⟩
  first
    | (rw [cnt_eq]; exact retE (dT (by omega)))
    | (rw [cnt_eq]; exact retE (dF (by omega)))
    | (rw [cnt_eq]; exact retE (dD (by omega)))
theorem thel_eq (kd : UInt8) : (formOf kd).th = decide (kd.toNat = 4 ∨ kd.toNat = 5) ∧ (formOf kd).el = decide (kd.toNat = 4 ∨ kd.toNat = 8 ∨ kd.toNat = 9) :=
  byte_k (Q := fun kd => (formOf kd).th = decide (kd.toNat = 4 ∨ kd.toNat = 5) ∧ (formOf kd).el = decide (kd.toNat = 4 ∨ kd.toNat = 8 ∨ kd.toNat = 9)) (by decide +kernel) kd
theorem frm_bad (kd : UInt8) (nm hd : Str) (ex : List Ex) (th el : List Sm) : frmS (.mk kd nm hd ex th el) = (!(!cntK kd ex.length || (!(formOf kd).nm && decide (¬ nm = [])) || (!(formOf kd).hd && decide (¬ hd = [])) || (!(formOf kd).th && decide ((0 : Int) < th.length)) || (!(formOf kd).el && decide ((0 : Int) < el.length))) && Ex.alls frmE ex) := by
  rw [frmS_eq]
  have h1 : cntK kd ex.length = !(!okKd kd || decide ((ex.length : Int) < ((formOf kd).lo : Nat)) || decide (((formOf kd).hi : Nat) < (ex.length : Int))) := by
    have e1 : decide ((ex.length : Int) < ((formOf kd).lo : Nat)) = !decide ((formOf kd).lo ≤ ex.length) := by rw [Bool.eq_iff_iff]; simp
    have e2 : decide (((formOf kd).hi : Nat) < (ex.length : Int)) = !decide (ex.length ≤ (formOf kd).hi) := by rw [Bool.eq_iff_iff]; simp
    rw [cntK, e1, e2]
    generalize decide ((formOf kd).lo ≤ ex.length) = b1
    generalize decide (ex.length ≤ (formOf kd).hi) = b2
    cases okKd kd <;> cases b1 <;> cases b2 <;> rfl
  rw [h1]
  generalize (!okKd kd || decide ((ex.length : Int) < ((formOf kd).lo : Nat)) || decide (((formOf kd).hi : Nat) < (ex.length : Int))) = a1
  generalize decide (¬ nm = []) = a2
  generalize decide (¬ hd = []) = a3
  generalize decide ((0 : Int) < th.length) = a4
  generalize decide ((0 : Int) < el.length) = a5
  cases a1 <;> cases (formOf kd).nm <;> cases a2 <;> cases (formOf kd).hd <;> cases a3 <;> cases (formOf kd).th <;> cases a4 <;> cases (formOf kd).el <;> cases a5 <;> rfl
set_option maxHeartbeats 2000000 in
set_option maxRecDepth 100000 in
theorem stmtForm_any (N : Nat) (hN : N ≤ 1000000) (H : Hp) : ∀ (l : List Sm), okL N l → ∀ (v : Value) (w : World), Rep H (.seq 6 (l.map (dSm .i64))) [v] → Agr H w →
    Calls Tryz.prog 70 #[v] w fun r w' => r = .returned (.bool (Sm.alls frmS l)) ∧ Ext w w' := by
  refine Sm.lists fun l ih => ?_
  intro hok v w hs hA
  obtain ⟨p, c, e, _⟩ := hs.sl
  simp only [List.cons.injEq, and_true, List.length_map] at e
  subst e
  have hcap := hs.cap
  have hll := hok.len
  refine Sx.enter (H := H) Tryz.func70 rfl Tryz.ntmps70 rfl hA ?_
  refine .sr <| .a rfl rfl <| .nt <| .sq <| .sr <| .m rfl rfl <| .yv (.lenSl Fx.sl98 rfl) rfl <| .m rfl rfl <| .nt <| .bk <| .lp (X := Nat) [(11, _), (12, _)] ⟨rfl, rfl, trivial⟩ [] (fun k => [(13, .int .i64 (k : Nat))]) (fun k => H) (fun k => []) (fun k => k ≤ l.length ∧ Sm.alls frmS (l.take k) = true) (fun k => l.length - k) 0 (fun _ s => s) ⟨rfl, trivial⟩ ⟨by omega, rfl⟩ fun k hC => ?_
  obtain ⟨hk0, hal⟩ := hC
  refine .sr <| .yv (.lss rfl rfl) rfl <| .nt <| .sq <| .cd rfl (fun h14 => ?_) (fun h14 => ?_)
  ·try simp only [dt] at h14
   have hk : k < l.length := by omega
   obtain ⟨bE, oE, cE, hpE, rE, lE, mE⟩ := hs.elem (map_at (f := dSm .i64) hk)
   cases hpE
   have hi := ih _ (List.getElem_mem hk)
   have hka := hok.at hk
   have hsucc := salls_succ (q := frmS) hk
   have hbad := fun h => salls_bad (q := frmS) hk h
   generalize hx : l[k] = x at rE hi hka hsucc hbad
   obtain ⟨kd, nm, hd, ex, th, el⟩ := x
   obtain ⟨p1, c1, p2, c2, p3, c3, rfl, hs1, hs2, hs3, hn1, hn2⟩ := sm_open rE
   simp only [Sm.th, Sm.el] at hi
   obtain ⟨a1, a2, a3, a4, a5, a6, a7⟩ := okL_one.1 hka
   have hit := hi.1 ⟨by omega, by omega, a6⟩
   have hie := hi.2 ⟨by omega, by omega, a7⟩
   have hcap1 := hs1.cap
   rw [sall_mk] at hsucc hbad
   refine .sk <| .tN <| .sq <| .bk <| .sr <| .yv (.indexSl Fx.sl98 rfl rfl rfl (by omega) (q := oE + k * 6) rfl) rfl <| .yv (.loadMW rfl Fx.agg150 mE rfl) rfl <| .al Fx.zero150 rfl fun b4 => .sW .head rfl rfl Fx.size150 (by simp [Value.oneCell', strV]) rfl <| .ns <| .yv (.fieldAddr rfl Fx.field150_0) rfl <| .yv (.load rfl Fx.agg3 (.head _) rfl) rfl <| .yv (.call Fx.call103 rfl (fun W s => namedK_any H kd W s.agr)) rfl <| .m rfl rfl <| .yv (.extract rfl rfl) rfl <| .yv (.extract rfl rfl) rfl <| .a rfl rfl <| .a rfl rfl <| .nt <| .cu (X := Bool) [(4, _), (5, _), (6, _), (11, _), (12, _), (13, _)] ⟨rfl, rfl, rfl, rfl, rfl, rfl, trivial⟩ (fun z => [(7, .bool z)]) (fun z => H) (fun z => [.box b4 [.int .i64 kd.toNat, strV nm, strV hd, .slice p1 ex.length c1, .slice p2 th.length c2, .slice p3 el.length c3] 150]) (fun z => z = ((formOf kd).th)) ?_ fun z hC => ?_
   ·
    refine .rg <| .yv (.fieldAddr rfl Fx.field150_0) rfl <| .yv (.load rfl Fx.agg3 (.head _) rfl) rfl <| .yv (.eql rfl rfl) rfl <| .m rfl rfl <| .b2 (fun h26 => ?_) (fun h26 => ?_)
    ·try simp only [dt] at h26
     exact .gF rfl rfl rfl rfl <| .gF rfl rfl rfl rfl <| .gF rfl rfl rfl rfl <| .yv (.pickT rfl rfl) rfl <| .a rfl rfl <| .nt <| .me _ ⟨rfl, trivial⟩ ⟨rfl, rfl, rfl, rfl, rfl, rfl, trivial⟩ (fun _ s => s) (by rw [(thel_eq kd).1]; first | exact dT (by omega) | exact dF (by omega) | exact dD (by omega))
    try simp only [df] at h26
    exact .gd rfl rfl <| .yv (.fieldAddr rfl Fx.field150_0) rfl <| .gd rfl rfl <| .yv (.load rfl Fx.agg3 (.head _) rfl) rfl <| .gd rfl rfl <| .yv (.eql rfl rfl) rfl <| .yv (.pickF rfl rfl) rfl <| .a rfl rfl <| .nt <| .me _ ⟨rfl, trivial⟩ ⟨rfl, rfl, rfl, rfl, rfl, rfl, trivial⟩ (fun _ s => s) (by rw [(thel_eq kd).1]; first | exact dT (by omega) | exact dF (by omega) | exact dD (by omega))
   have e7 := hC
   subst e7
   refine .cu (X := Bool) [(4, _), (5, _), (6, _), (7, _), (11, _), (12, _), (13, _)] ⟨rfl, rfl, rfl, rfl, rfl, rfl, rfl, trivial⟩ (fun z => [(8, .bool z)]) (fun z => H) (fun z => [.box b4 [.int .i64 kd.toNat, strV nm, strV hd, .slice p1 ex.length c1, .slice p2 th.length c2, .slice p3 el.length c3] 150]) (fun z => z = ((formOf kd).el)) ?_ fun z hC => ?_
   ·
    refine .rg <| .yv (.fieldAddr rfl Fx.field150_0) rfl <| .yv (.load rfl Fx.agg3 (.head _) rfl) rfl <| .yv (.eql rfl rfl) rfl <| .m rfl rfl <| .b2 (fun h34 => ?_) (fun h34 => ?_)
    ·try simp only [dt] at h34
     exact .gF rfl rfl rfl rfl <| .gF rfl rfl rfl rfl <| .gF rfl rfl rfl rfl <| .yv (.pickT rfl rfl) rfl <| .m rfl rfl <| .gF rfl rfl rfl rfl <| .gF rfl rfl rfl rfl <| .gF rfl rfl rfl rfl <| .yv (.pickT rfl rfl) rfl <| .a rfl rfl <| .nt <| .me _ ⟨rfl, trivial⟩ ⟨rfl, rfl, rfl, rfl, rfl, rfl, rfl, trivial⟩ (fun _ s => s) (by rw [(thel_eq kd).2]; first | exact dT (by omega) | exact dF (by omega) | exact dD (by omega))
    try simp only [df] at h34
    refine .gd rfl rfl <| .yv (.fieldAddr rfl Fx.field150_0) rfl <| .gd rfl rfl <| .yv (.load rfl Fx.agg3 (.head _) rfl) rfl <| .gd rfl rfl <| .yv (.eql rfl rfl) rfl <| .yv (.pickF rfl rfl) rfl <| .m rfl rfl <| .b2 (fun h39 => ?_) (fun h39 => ?_)
    ·try simp only [dt] at h39
     exact .gF rfl rfl rfl rfl <| .gF rfl rfl rfl rfl <| .gF rfl rfl rfl rfl <| .yv (.pickT rfl rfl) rfl <| .a rfl rfl <| .nt <| .me _ ⟨rfl, trivial⟩ ⟨rfl, rfl, rfl, rfl, rfl, rfl, rfl, trivial⟩ (fun _ s => s) (by rw [(thel_eq kd).2]; first | exact dT (by omega) | exact dF (by omega) | exact dD (by omega))
    try simp only [df] at h39
    exact .gd rfl rfl <| .yv (.fieldAddr rfl Fx.field150_0) rfl <| .gd rfl rfl <| .yv (.load rfl Fx.agg3 (.head _) rfl) rfl <| .gd rfl rfl <| .yv (.eql rfl rfl) rfl <| .yv (.pickF rfl rfl) rfl <| .a rfl rfl <| .nt <| .me _ ⟨rfl, trivial⟩ ⟨rfl, rfl, rfl, rfl, rfl, rfl, rfl, trivial⟩ (fun _ s => s) (by rw [(thel_eq kd).2]; first | exact dT (by omega) | exact dF (by omega) | exact dD (by omega))
   have e8 := hC
   subst e8
   refine .sq <| .cu (X := Bool) [(4, _), (11, _), (12, _), (13, _)] ⟨rfl, rfl, rfl, rfl, trivial⟩ (fun z => [(88, .bool z)]) (fun z => H) (fun z => [.box b4 [.int .i64 kd.toNat, strV nm, strV hd, .slice p1 ex.length c1, .slice p2 th.length c2, .slice p3 el.length c3] 150]) (fun z => z = (!cntK kd ex.length || (!(formOf kd).nm && decide (¬ nm = [])) || (!(formOf kd).hd && decide (¬ hd = [])) || (!(formOf kd).th && decide ((0 : Int) < th.length)) || (!(formOf kd).el && decide ((0 : Int) < el.length)))) ?_ fun z hC => ?_
   ·
    refine .rg <| .yv (.fieldAddr rfl Fx.field150_0) rfl <| .yv (.load rfl Fx.agg3 (.head _) rfl) rfl <| .yv (.fieldAddr rfl Fx.field150_3) rfl <| .yv (.load rfl Fx.agg49 (.head _) rfl) rfl <| .yv (.lenSl Fx.sl49 rfl) rfl <| .yv (.call Fx.call105 rfl (fun W s => counts_any H kd ex.length W s.agr)) rfl <| .yv (.not rfl) rfl <| .m rfl rfl <| .b2 (fun h51 => ?_) (fun h51 => ?_)
    ·try simp only [dt] at h51
     exact .gF rfl rfl rfl rfl <| .gF rfl rfl rfl rfl <| .gF rfl rfl rfl rfl <| .gU rfl rfl rfl <| .gU rfl rfl rfl <| .gU rfl rfl rfl <| .gF rfl rfl rfl rfl <| .yv (.pickT rfl rfl) rfl <| .m rfl rfl <| .gF rfl rfl rfl rfl <| .gF rfl rfl rfl rfl <| .gF rfl rfl rfl rfl <| .gU rfl rfl rfl <| .gU rfl rfl rfl <| .gU rfl rfl rfl <| .gF rfl rfl rfl rfl <| .yv (.pickT rfl rfl) rfl <| .m rfl rfl <| .gF rfl rfl rfl rfl <| .gF rfl rfl rfl rfl <| .gF rfl rfl rfl rfl <| .gU rfl rfl rfl <| .gU rfl rfl rfl <| .gU rfl rfl rfl <| .gU rfl rfl rfl <| .gF rfl rfl rfl rfl <| .yv (.pickT rfl rfl) rfl <| .m rfl rfl <| .gF rfl rfl rfl rfl <| .gF rfl rfl rfl rfl <| .gF rfl rfl rfl rfl <| .gU rfl rfl rfl <| .gU rfl rfl rfl <| .gU rfl rfl rfl <| .gU rfl rfl rfl <| .gF rfl rfl rfl rfl <| .yv (.pickT rfl rfl) rfl <| .nt <| .me _ ⟨rfl, trivial⟩ ⟨rfl, rfl, rfl, rfl, trivial⟩ (fun _ s => s) (by simp_all)
    try simp only [df] at h51
    refine .gd rfl rfl <| .yv (.move rfl) rfl <| .gd rfl rfl <| .yv (.not rfl) rfl <| .gd rfl rfl <| .yv (.move rfl) rfl <| .b2 (fun h54 => ?_) (fun h54 => ?_)
    ·try simp only [dt] at h54
     refine .gd rfl rfl <| .yv (.fieldAddr rfl Fx.field150_1) rfl <| .gd rfl rfl <| .yv (.load rfl Fx.agg9 (.head _) rfl) rfl <| .gd rfl rfl <| .yv (.neS rfl rfl) rfl <| .gd rfl rfl <| .yv (.pickT rfl rfl) rfl <| .yv (.pickF rfl rfl) rfl <| .m rfl rfl <| .b2 (fun h60 => ?_) (fun h60 => ?_)
     ·try simp only [dt] at h60
      exact .gF rfl rfl rfl rfl <| .gF rfl rfl rfl rfl <| .gF rfl rfl rfl rfl <| .gU rfl rfl rfl <| .gU rfl rfl rfl <| .gU rfl rfl rfl <| .gF rfl rfl rfl rfl <| .yv (.pickT rfl rfl) rfl <| .m rfl rfl <| .gF rfl rfl rfl rfl <| .gF rfl rfl rfl rfl <| .gF rfl rfl rfl rfl <| .gU rfl rfl rfl <| .gU rfl rfl rfl <| .gU rfl rfl rfl <| .gU rfl rfl rfl <| .gF rfl rfl rfl rfl <| .yv (.pickT rfl rfl) rfl <| .m rfl rfl <| .gF rfl rfl rfl rfl <| .gF rfl rfl rfl rfl <| .gF rfl rfl rfl rfl <| .gU rfl rfl rfl <| .gU rfl rfl rfl <| .gU rfl rfl rfl <| .gU rfl rfl rfl <| .gF rfl rfl rfl rfl <| .yv (.pickT rfl rfl) rfl <| .nt <| .me _ ⟨rfl, trivial⟩ ⟨rfl, rfl, rfl, rfl, trivial⟩ (fun _ s => s) (by simp_all)
     try simp only [df] at h60
     refine .gd rfl rfl <| .yv (.move rfl) rfl <| .gd rfl rfl <| .yv (.not rfl) rfl <| .gd rfl rfl <| .yv (.move rfl) rfl <| .b2 (fun h63 => ?_) (fun h63 => ?_)
     ·try simp only [dt] at h63
      refine .gd rfl rfl <| .yv (.fieldAddr rfl Fx.field150_2) rfl <| .gd rfl rfl <| .yv (.load rfl Fx.agg9 (.head _) rfl) rfl <| .gd rfl rfl <| .yv (.neS rfl rfl) rfl <| .gd rfl rfl <| .yv (.pickT rfl rfl) rfl <| .yv (.pickF rfl rfl) rfl <| .m rfl rfl <| .b2 (fun h69 => ?_) (fun h69 => ?_)
      ·try simp only [dt] at h69
       exact .gF rfl rfl rfl rfl <| .gF rfl rfl rfl rfl <| .gF rfl rfl rfl rfl <| .gU rfl rfl rfl <| .gU rfl rfl rfl <| .gU rfl rfl rfl <| .gU rfl rfl rfl <| .gF rfl rfl rfl rfl <| .yv (.pickT rfl rfl) rfl <| .m rfl rfl <| .gF rfl rfl rfl rfl <| .gF rfl rfl rfl rfl <| .gF rfl rfl rfl rfl <| .gU rfl rfl rfl <| .gU rfl rfl rfl <| .gU rfl rfl rfl <| .gU rfl rfl rfl <| .gF rfl rfl rfl rfl <| .yv (.pickT rfl rfl) rfl <| .nt <| .me _ ⟨rfl, trivial⟩ ⟨rfl, rfl, rfl, rfl, trivial⟩ (fun _ s => s) (by simp_all)
      try simp only [df] at h69
      refine .gd rfl rfl <| .yv (.move rfl) rfl <| .gd rfl rfl <| .yv (.not rfl) rfl <| .gd rfl rfl <| .yv (.move rfl) rfl <| .b2 (fun h72 => ?_) (fun h72 => ?_)
      ·try simp only [dt] at h72
       refine .gd rfl rfl <| .yv (.fieldAddr rfl Fx.field150_4) rfl <| .gd rfl rfl <| .yv (.load rfl Fx.agg98 (.head _) rfl) rfl <| .gd rfl rfl <| .yv (.lenSl Fx.sl98 rfl) rfl <| .gd rfl rfl <| .yv (.gtr rfl rfl) rfl <| .gd rfl rfl <| .yv (.pickT rfl rfl) rfl <| .yv (.pickF rfl rfl) rfl <| .m rfl rfl <| .b2 (fun h79 => ?_) (fun h79 => ?_)
       ·try simp only [dt] at h79
        exact .gF rfl rfl rfl rfl <| .gF rfl rfl rfl rfl <| .gF rfl rfl rfl rfl <| .gU rfl rfl rfl <| .gU rfl rfl rfl <| .gU rfl rfl rfl <| .gU rfl rfl rfl <| .gF rfl rfl rfl rfl <| .yv (.pickT rfl rfl) rfl <| .nt <| .me _ ⟨rfl, trivial⟩ ⟨rfl, rfl, rfl, rfl, trivial⟩ (fun _ s => s) (by simp_all)
       try simp only [df] at h79
       refine .gd rfl rfl <| .yv (.move rfl) rfl <| .gd rfl rfl <| .yv (.not rfl) rfl <| .gd rfl rfl <| .yv (.move rfl) rfl <| .b2 (fun h82 => ?_) (fun h82 => ?_)
       ·try simp only [dt] at h82
        exact .gd rfl rfl <| .yv (.fieldAddr rfl Fx.field150_5) rfl <| .gd rfl rfl <| .yv (.load rfl Fx.agg98 (.head _) rfl) rfl <| .gd rfl rfl <| .yv (.lenSl Fx.sl98 rfl) rfl <| .gd rfl rfl <| .yv (.gtr rfl rfl) rfl <| .gd rfl rfl <| .yv (.pickT rfl rfl) rfl <| .yv (.pickF rfl rfl) rfl <| .nt <| .me _ ⟨rfl, trivial⟩ ⟨rfl, rfl, rfl, rfl, trivial⟩ (fun _ s => s) (by simp_all)
       try simp only [df] at h82
       exact .gF rfl rfl rfl rfl <| .gF rfl rfl rfl rfl <| .gF rfl rfl rfl rfl <| .gF rfl rfl rfl rfl <| .gd rfl rfl <| .yv (.pickF rfl rfl) rfl <| .yv (.pickF rfl rfl) rfl <| .nt <| .me _ ⟨rfl, trivial⟩ ⟨rfl, rfl, rfl, rfl, trivial⟩ (fun _ s => s) (by simp_all)
      try simp only [df] at h72
      refine .gF rfl rfl rfl rfl <| .gF rfl rfl rfl rfl <| .gF rfl rfl rfl rfl <| .gF rfl rfl rfl rfl <| .gd rfl rfl <| .yv (.pickF rfl rfl) rfl <| .yv (.pickF rfl rfl) rfl <| .m rfl rfl <| .gd rfl rfl <| .yv (.move rfl) rfl <| .gd rfl rfl <| .yv (.not rfl) rfl <| .gd rfl rfl <| .yv (.move rfl) rfl <| .b2 (fun h82 => ?_) (fun h82 => ?_)
      ·try simp only [dt] at h82
       exact .gd rfl rfl <| .yv (.fieldAddr rfl Fx.field150_5) rfl <| .gd rfl rfl <| .yv (.load rfl Fx.agg98 (.head _) rfl) rfl <| .gd rfl rfl <| .yv (.lenSl Fx.sl98 rfl) rfl <| .gd rfl rfl <| .yv (.gtr rfl rfl) rfl <| .gd rfl rfl <| .yv (.pickT rfl rfl) rfl <| .yv (.pickF rfl rfl) rfl <| .nt <| .me _ ⟨rfl, trivial⟩ ⟨rfl, rfl, rfl, rfl, trivial⟩ (fun _ s => s) (by simp_all)
      try simp only [df] at h82
      exact .gF rfl rfl rfl rfl <| .gF rfl rfl rfl rfl <| .gF rfl rfl rfl rfl <| .gF rfl rfl rfl rfl <| .gd rfl rfl <| .yv (.pickF rfl rfl) rfl <| .yv (.pickF rfl rfl) rfl <| .nt <| .me _ ⟨rfl, trivial⟩ ⟨rfl, rfl, rfl, rfl, trivial⟩ (fun _ s => s) (by simp_all)
     try simp only [df] at h63
     refine .gF rfl rfl rfl rfl <| .gF rfl rfl rfl rfl <| .gF rfl rfl rfl rfl <| .gd rfl rfl <| .yv (.pickF rfl rfl) rfl <| .yv (.pickF rfl rfl) rfl <| .m rfl rfl <| .gd rfl rfl <| .yv (.move rfl) rfl <| .gd rfl rfl <| .yv (.not rfl) rfl <| .gd rfl rfl <| .yv (.move rfl) rfl <| .b2 (fun h72 => ?_) (fun h72 => ?_)
     ·try simp only [dt] at h72
      refine .gd rfl rfl <| .yv (.fieldAddr rfl Fx.field150_4) rfl <| .gd rfl rfl <| .yv (.load rfl Fx.agg98 (.head _) rfl) rfl <| .gd rfl rfl <| .yv (.lenSl Fx.sl98 rfl) rfl <| .gd rfl rfl <| .yv (.gtr rfl rfl) rfl <| .gd rfl rfl <| .yv (.pickT rfl rfl) rfl <| .yv (.pickF rfl rfl) rfl <| .m rfl rfl <| .b2 (fun h79 => ?_) (fun h79 => ?_)
      ·try simp only [dt] at h79
       exact .gF rfl rfl rfl rfl <| .gF rfl rfl rfl rfl <| .gF rfl rfl rfl rfl <| .gU rfl rfl rfl <| .gU rfl rfl rfl <| .gU rfl rfl rfl <| .gU rfl rfl rfl <| .gF rfl rfl rfl rfl <| .yv (.pickT rfl rfl) rfl <| .nt <| .me _ ⟨rfl, trivial⟩ ⟨rfl, rfl, rfl, rfl, trivial⟩ (fun _ s => s) (by simp_all)
      try simp only [df] at h79
      refine .gd rfl rfl <| .yv (.move rfl) rfl <| .gd rfl rfl <| .yv (.not rfl) rfl <| .gd rfl rfl <| .yv (.move rfl) rfl <| .b2 (fun h82 => ?_) (fun h82 => ?_)
      ·try simp only [dt] at h82
       exact .gd rfl rfl <| .yv (.fieldAddr rfl Fx.field150_5) rfl <| .gd rfl rfl <| .yv (.load rfl Fx.agg98 (.head _) rfl) rfl <| .gd rfl rfl <| .yv (.lenSl Fx.sl98 rfl) rfl <| .gd rfl rfl <| .yv (.gtr rfl rfl) rfl <| .gd rfl rfl <| .yv (.pickT rfl rfl) rfl <| .yv (.pickF rfl rfl) rfl <| .nt <| .me _ ⟨rfl, trivial⟩ ⟨rfl, rfl, rfl, rfl, trivial⟩ (fun _ s => s) (by simp_all)
      try simp only [df] at h82
      exact .gF rfl rfl rfl rfl <| .gF rfl rfl rfl rfl <| .gF rfl rfl rfl rfl <| .gF rfl rfl rfl rfl <| .gd rfl rfl <| .yv (.pickF rfl rfl) rfl <| .yv (.pickF rfl rfl) rfl <| .nt <| .me _ ⟨rfl, trivial⟩ ⟨rfl, rfl, rfl, rfl, trivial⟩ (fun _ s => s) (by simp_all)
     try simp only [df] at h72
     refine .gF rfl rfl rfl rfl <| .gF rfl rfl rfl rfl <| .gF rfl rfl rfl rfl <| .gF rfl rfl rfl rfl <| .gd rfl rfl <| .yv (.pickF rfl rfl) rfl <| .yv (.pickF rfl rfl) rfl <| .m rfl rfl <| .gd rfl rfl <| .yv (.move rfl) rfl <| .gd rfl rfl <| .yv (.not rfl) rfl <| .gd rfl rfl <| .yv (.move rfl) rfl <| .b2 (fun h82 => ?_) (fun h82 => ?_)
     ·try simp only [dt] at h82
      exact .gd rfl rfl <| .yv (.fieldAddr rfl Fx.field150_5) rfl <| .gd rfl rfl <| .yv (.load rfl Fx.agg98 (.head _) rfl) rfl <| .gd rfl rfl <| .yv (.lenSl Fx.sl98 rfl) rfl <| .gd rfl rfl <| .yv (.gtr rfl rfl) rfl <| .gd rfl rfl <| .yv (.pickT rfl rfl) rfl <| .yv (.pickF rfl rfl) rfl <| .nt <| .me _ ⟨rfl, trivial⟩ ⟨rfl, rfl, rfl, rfl, trivial⟩ (fun _ s => s) (by simp_all)
     try simp only [df] at h82
     exact .gF rfl rfl rfl rfl <| .gF rfl rfl rfl rfl <| .gF rfl rfl rfl rfl <| .gF rfl rfl rfl rfl <| .gd rfl rfl <| .yv (.pickF rfl rfl) rfl <| .yv (.pickF rfl rfl) rfl <| .nt <| .me _ ⟨rfl, trivial⟩ ⟨rfl, rfl, rfl, rfl, trivial⟩ (fun _ s => s) (by simp_all)
    try simp only [df] at h54
    refine .gF rfl rfl rfl rfl <| .gF rfl rfl rfl rfl <| .gF rfl rfl rfl rfl <| .gd rfl rfl <| .yv (.pickF rfl rfl) rfl <| .yv (.pickF rfl rfl) rfl <| .m rfl rfl <| .gd rfl rfl <| .yv (.move rfl) rfl <| .gd rfl rfl <| .yv (.not rfl) rfl <| .gd rfl rfl <| .yv (.move rfl) rfl <| .b2 (fun h63 => ?_) (fun h63 => ?_)
    ·try simp only [dt] at h63
     refine .gd rfl rfl <| .yv (.fieldAddr rfl Fx.field150_2) rfl <| .gd rfl rfl <| .yv (.load rfl Fx.agg9 (.head _) rfl) rfl <| .gd rfl rfl <| .yv (.neS rfl rfl) rfl <| .gd rfl rfl <| .yv (.pickT rfl rfl) rfl <| .yv (.pickF rfl rfl) rfl <| .m rfl rfl <| .b2 (fun h69 => ?_) (fun h69 => ?_)
     ·try simp only [dt] at h69
      exact .gF rfl rfl rfl rfl <| .gF rfl rfl rfl rfl <| .gF rfl rfl rfl rfl <| .gU rfl rfl rfl <| .gU rfl rfl rfl <| .gU rfl rfl rfl <| .gU rfl rfl rfl <| .gF rfl rfl rfl rfl <| .yv (.pickT rfl rfl) rfl <| .m rfl rfl <| .gF rfl rfl rfl rfl <| .gF rfl rfl rfl rfl <| .gF rfl rfl rfl rfl <| .gU rfl rfl rfl <| .gU rfl rfl rfl <| .gU rfl rfl rfl <| .gU rfl rfl rfl <| .gF rfl rfl rfl rfl <| .yv (.pickT rfl rfl) rfl <| .nt <| .me _ ⟨rfl, trivial⟩ ⟨rfl, rfl, rfl, rfl, trivial⟩ (fun _ s => s) (by simp_all)
     try simp only [df] at h69
     refine .gd rfl rfl <| .yv (.move rfl) rfl <| .gd rfl rfl <| .yv (.not rfl) rfl <| .gd rfl rfl <| .yv (.move rfl) rfl <| .b2 (fun h72 => ?_) (fun h72 => ?_)
     ·try simp only [dt] at h72
      refine .gd rfl rfl <| .yv (.fieldAddr rfl Fx.field150_4) rfl <| .gd rfl rfl <| .yv (.load rfl Fx.agg98 (.head _) rfl) rfl <| .gd rfl rfl <| .yv (.lenSl Fx.sl98 rfl) rfl <| .gd rfl rfl <| .yv (.gtr rfl rfl) rfl <| .gd rfl rfl <| .yv (.pickT rfl rfl) rfl <| .yv (.pickF rfl rfl) rfl <| .m rfl rfl <| .b2 (fun h79 => ?_) (fun h79 => ?_)
      ·try simp only [dt] at h79
       exact .gF rfl rfl rfl rfl <| .gF rfl rfl rfl rfl <| .gF rfl rfl rfl rfl <| .gU rfl rfl rfl <| .gU rfl rfl rfl <| .gU rfl rfl rfl <| .gU rfl rfl rfl <| .gF rfl rfl rfl rfl <| .yv (.pickT rfl rfl) rfl <| .nt <| .me _ ⟨rfl, trivial⟩ ⟨rfl, rfl, rfl, rfl, trivial⟩ (fun _ s => s) (by simp_all)
      try simp only [df] at h79
      refine .gd rfl rfl <| .yv (.move rfl) rfl <| .gd rfl rfl <| .yv (.not rfl) rfl <| .gd rfl rfl <| .yv (.move rfl) rfl <| .b2 (fun h82 => ?_) (fun h82 => ?_)
      ·try simp only [dt] at h82
       exact .gd rfl rfl <| .yv (.fieldAddr rfl Fx.field150_5) rfl <| .gd rfl rfl <| .yv (.load rfl Fx.agg98 (.head _) rfl) rfl <| .gd rfl rfl <| .yv (.lenSl Fx.sl98 rfl) rfl <| .gd rfl rfl <| .yv (.gtr rfl rfl) rfl <| .gd rfl rfl <| .yv (.pickT rfl rfl) rfl <| .yv (.pickF rfl rfl) rfl <| .nt <| .me _ ⟨rfl, trivial⟩ ⟨rfl, rfl, rfl, rfl, trivial⟩ (fun _ s => s) (by simp_all)
      try simp only [df] at h82
      exact .gF rfl rfl rfl rfl <| .gF rfl rfl rfl rfl <| .gF rfl rfl rfl rfl <| .gF rfl rfl rfl rfl <| .gd rfl rfl <| .yv (.pickF rfl rfl) rfl <| .yv (.pickF rfl rfl) rfl <| .nt <| .me _ ⟨rfl, trivial⟩ ⟨rfl, rfl, rfl, rfl, trivial⟩ (fun _ s => s) (by simp_all)
     try simp only [df] at h72
     refine .gF rfl rfl rfl rfl <| .gF rfl rfl rfl rfl <| .gF rfl rfl rfl rfl <| .gF rfl rfl rfl rfl <| .gd rfl rfl <| .yv (.pickF rfl rfl) rfl <| .yv (.pickF rfl rfl) rfl <| .m rfl rfl <| .gd rfl rfl <| .yv (.move rfl) rfl <| .gd rfl rfl <| .yv (.not rfl) rfl <| .gd rfl rfl <| .yv (.move rfl) rfl <| .b2 (fun h82 => ?_) (fun h82 => ?_)
     ·try simp only [dt] at h82
      exact .gd rfl rfl <| .yv (.fieldAddr rfl Fx.field150_5) rfl <| .gd rfl rfl <| .yv (.load rfl Fx.agg98 (.head _) rfl) rfl <| .gd rfl rfl <| .yv (.lenSl Fx.sl98 rfl) rfl <| .gd rfl rfl <| .yv (.gtr rfl rfl) rfl <| .gd rfl rfl <| .yv (.pickT rfl rfl) rfl <| .yv (.pickF rfl rfl) rfl <| .nt <| .me _ ⟨rfl, trivial⟩ ⟨rfl, rfl, rfl, rfl, trivial⟩ (fun _ s => s) (by simp_all)
     try simp only [df] at h82
     exact .gF rfl rfl rfl rfl <| .gF rfl rfl rfl rfl <| .gF rfl rfl rfl rfl <| .gF rfl rfl rfl rfl <| .gd rfl rfl <| .yv (.pickF rfl rfl) rfl <| .yv (.pickF rfl rfl) rfl <| .nt <| .me _ ⟨rfl, trivial⟩ ⟨rfl, rfl, rfl, rfl, trivial⟩ (fun _ s => s) (by simp_all)
    try simp only [df] at h63
    refine .gF rfl rfl rfl rfl <| .gF rfl rfl rfl rfl <| .gF rfl rfl rfl rfl <| .gd rfl rfl <| .yv (.pickF rfl rfl) rfl <| .yv (.pickF rfl rfl) rfl <| .m rfl rfl <| .gd rfl rfl <| .yv (.move rfl) rfl <| .gd rfl rfl <| .yv (.not rfl) rfl <| .gd rfl rfl <| .yv (.move rfl) rfl <| .b2 (fun h72 => ?_) (fun h72 => ?_)
    ·try simp only [dt] at h72
     refine .gd rfl rfl <| .yv (.fieldAddr rfl Fx.field150_4) rfl <| .gd rfl rfl <| .yv (.load rfl Fx.agg98 (.head _) rfl) rfl <| .gd rfl rfl <| .yv (.lenSl Fx.sl98 rfl) rfl <| .gd rfl rfl <| .yv (.gtr rfl rfl) rfl <| .gd rfl rfl <| .yv (.pickT rfl rfl) rfl <| .yv (.pickF rfl rfl) rfl <| .m rfl rfl <| .b2 (fun h79 => ?_) (fun h79 => ?_)
     ·try simp only [dt] at h79
      exact .gF rfl rfl rfl rfl <| .gF rfl rfl rfl rfl <| .gF rfl rfl rfl rfl <| .gU rfl rfl rfl <| .gU rfl rfl rfl <| .gU rfl rfl rfl <| .gU rfl rfl rfl <| .gF rfl rfl rfl rfl <| .yv (.pickT rfl rfl) rfl <| .nt <| .me _ ⟨rfl, trivial⟩ ⟨rfl, rfl, rfl, rfl, trivial⟩ (fun _ s => s) (by simp_all)
     try simp only [df] at h79
     refine .gd rfl rfl <| .yv (.move rfl) rfl <| .gd rfl rfl <| .yv (.not rfl) rfl <| .gd rfl rfl <| .yv (.move rfl) rfl <| .b2 (fun h82 => ?_) (fun h82 => ?_)
     ·try simp only [dt] at h82
      exact .gd rfl rfl <| .yv (.fieldAddr rfl Fx.field150_5) rfl <| .gd rfl rfl <| .yv (.load rfl Fx.agg98 (.head _) rfl) rfl <| .gd rfl rfl <| .yv (.lenSl Fx.sl98 rfl) rfl <| .gd rfl rfl <| .yv (.gtr rfl rfl) rfl <| .gd rfl rfl <| .yv (.pickT rfl rfl) rfl <| .yv (.pickF rfl rfl) rfl <| .nt <| .me _ ⟨rfl, trivial⟩ ⟨rfl, rfl, rfl, rfl, trivial⟩ (fun _ s => s) (by simp_all)
     try simp only [df] at h82
     exact .gF rfl rfl rfl rfl <| .gF rfl rfl rfl rfl <| .gF rfl rfl rfl rfl <| .gF rfl rfl rfl rfl <| .gd rfl rfl <| .yv (.pickF rfl rfl) rfl <| .yv (.pickF rfl rfl) rfl <| .nt <| .me _ ⟨rfl, trivial⟩ ⟨rfl, rfl, rfl, rfl, trivial⟩ (fun _ s => s) (by simp_all)
    try simp only [df] at h72
    refine .gF rfl rfl rfl rfl <| .gF rfl rfl rfl rfl <| .gF rfl rfl rfl rfl <| .gF rfl rfl rfl rfl <| .gd rfl rfl <| .yv (.pickF rfl rfl) rfl <| .yv (.pickF rfl rfl) rfl <| .m rfl rfl <| .gd rfl rfl <| .yv (.move rfl) rfl <| .gd rfl rfl <| .yv (.not rfl) rfl <| .gd rfl rfl <| .yv (.move rfl) rfl <| .b2 (fun h82 => ?_) (fun h82 => ?_)
    ·try simp only [dt] at h82
     exact .gd rfl rfl <| .yv (.fieldAddr rfl Fx.field150_5) rfl <| .gd rfl rfl <| .yv (.load rfl Fx.agg98 (.head _) rfl) rfl <| .gd rfl rfl <| .yv (.lenSl Fx.sl98 rfl) rfl <| .gd rfl rfl <| .yv (.gtr rfl rfl) rfl <| .gd rfl rfl <| .yv (.pickT rfl rfl) rfl <| .yv (.pickF rfl rfl) rfl <| .nt <| .me _ ⟨rfl, trivial⟩ ⟨rfl, rfl, rfl, rfl, trivial⟩ (fun _ s => s) (by simp_all)
    try simp only [df] at h82
    exact .gF rfl rfl rfl rfl <| .gF rfl rfl rfl rfl <| .gF rfl rfl rfl rfl <| .gF rfl rfl rfl rfl <| .gd rfl rfl <| .yv (.pickF rfl rfl) rfl <| .yv (.pickF rfl rfl) rfl <| .nt <| .me _ ⟨rfl, trivial⟩ ⟨rfl, rfl, rfl, rfl, trivial⟩ (fun _ s => s) (by simp_all)
   have e88 := hC
   refine .cd rfl (fun h88 => ?_) (fun h88 => ?_)
   ·try simp only [dt] at h88
    rw [h88] at e88
    have hz := hbad (by rw [show frmS (.mk kd nm hd ex th el) = false from by rw [frm_bad, ← e88]; rfl]; rfl)
    refine .sr <| .a rfl rfl <| .nt <| .rt <| .tR <| .bR <| .tR <| .tR <| .bR <| .tR <| ?_
    refine Sx.ret1 (.inl rfl) rfl (.tmp rfl) fun W s => ⟨retB ?_, s.ext⟩
    first
      | (rw [hz])
      | (rw [hal])
   try simp only [df] at h88
   rw [h88] at e88
   have hg := e88.symm
   refine .sk <| .tN <| .sq <| .sr <| .yv (.fieldAddr rfl Fx.field150_3) rfl <| .yv (.load rfl Fx.agg49 (.head _) rfl) rfl <| .yv (.lenSl Fx.sl49 rfl) rfl <| .m rfl rfl <| .nt <| .bk <| .lp (X := Nat) [(4, _), (11, _), (12, _), (13, _), (90, _), (91, _)] ⟨rfl, rfl, rfl, rfl, rfl, rfl, trivial⟩ [_] (fun j => [(92, .int .i64 (j : Nat))]) (fun j => H) (fun j => []) (fun j => j ≤ ex.length ∧ Ex.alls frmE (ex.take j) = true) (fun j => ex.length - j) 0 (fun _ s => s) ⟨rfl, trivial⟩ ⟨by omega, rfl⟩ fun j hC => ?_
   obtain ⟨hj0, hae⟩ := hC
   refine .sr <| .yv (.lss rfl rfl) rfl <| .nt <| .sq <| .cd rfl (fun h93 => ?_) (fun h93 => ?_)
   ·try simp only [dt] at h93
    have hj : j < ex.length := by omega
    obtain ⟨bF, oF, cF, hpF, rF, lF, mF⟩ := hs1.elem (map_at (f := dEx .i64) hj)
    cases hpF
    have hje := List.all_eq_true.1 a5 _ (List.getElem_mem hj)
    simp only [okE, Bool.and_eq_true, decide_eq_true_eq] at hje
    refine .sk <| .tN <| .sq <| .bk <| .sr <| .yv (.indexSl Fx.sl49 rfl rfl rfl (by omega) (q := oF + j * 4) rfl) rfl <| .yv (.loadMW rfl Fx.agg51 mF lF) rfl <| .al Fx.zero51 rfl fun b10 => .sV .head rfl rfl Fx.size51 lF rF.one rfl <| .ns <| .yv (.loadW rfl Fx.agg51 (.head _) lF) rfl <| .yv (.call Fx.call106 rfl (fun W s => exprForm_any H _ cF W rF s.agr)) rfl <| .yv (.not rfl) rfl <| .nt <| .cd rfl (fun h98 => ?_) (fun h98 => ?_)
    ·try simp only [dt] at h98
     have hb : Ex.alls frmE ex = false := alls_bad hj (by simpa using h98)
     have hz := hbad (by rw [show frmS (.mk kd nm hd ex th el) = false from by rw [frm_bad, hb, Bool.and_false]]; rfl)
     refine .sr <| .a rfl rfl <| .nt <| .rt <| .bR <| .tR <| .tR <| .bR <| .tR <| .bR <| .tR <| .tR <| .bR <| .tR <| ?_
     refine Sx.ret1 (.inl rfl) rfl (.tmp rfl) fun W s => ⟨retB ?_, s.ext⟩
     first
       | (rw [hz])
       | (rw [hal])
    skip
    exact .sk <| .bN <| .tN <| .rg <| .yv (.add rfl rfl (w6 (by omega))) rfl <| .m rfl rfl <| .nt <| .ag (j + 1) ⟨rfl, trivial⟩ ⟨rfl, rfl, rfl, rfl, rfl, rfl, trivial⟩ (fun _ s => s.pick [1] [_] rfl rfl) ⟨by omega, by rw [alls_succ hj, hae]; simpa using h98⟩ (by omega)
   try simp only [df] at h93
   obtain rfl : j = ex.length := by omega
   rw [List.take_length] at hae
   refine .ex <| .tE <| .tE <| .bE <| .tN <| .cu (X := Bool) [(11, _), (12, _), (13, _)] ⟨rfl, rfl, rfl, trivial⟩ (fun z => [(109, .bool z)]) (fun z => H) (fun z => [.box b4 [.int .i64 kd.toNat, strV nm, strV hd, .slice p1 ex.length c1, .slice p2 th.length c2, .slice p3 el.length c3] 150]) (fun z => z = (!(Sm.alls frmS th && Sm.alls frmS el))) ?_ fun z hC => ?_
   ·
    refine .rg <| .yv (.fieldAddr rfl Fx.field150_4) rfl <| .yv (.load rfl Fx.agg98 (.head _) rfl) rfl <| .yv (.call Fx.call70 rfl (fun W s => hit _ W hs2 s.agr)) rfl <| .yv (.not rfl) rfl <| .m rfl rfl <| .b2 (fun h104 => ?_) (fun h104 => ?_)
    ·try simp only [dt] at h104
     exact .gF rfl rfl rfl rfl <| .gF rfl rfl rfl rfl <| .gF rfl rfl rfl rfl <| .gF rfl rfl rfl rfl <| .yv (.pickT rfl rfl) rfl <| .nt <| .me _ ⟨rfl, trivial⟩ ⟨rfl, rfl, rfl, trivial⟩ (fun _ s => s) (by simp_all)
    try simp only [df] at h104
    exact .gd rfl rfl <| .yv (.fieldAddr rfl Fx.field150_5) rfl <| .gd rfl rfl <| .yv (.load rfl Fx.agg98 (.head _) rfl) rfl <| .gd rfl rfl <| .yv (.call Fx.call70 rfl (fun W s => hie _ W hs3 s.agr)) rfl <| .gd rfl rfl <| .yv (.not rfl) rfl <| .yv (.pickF rfl rfl) rfl <| .nt <| .me _ ⟨rfl, trivial⟩ ⟨rfl, rfl, rfl, trivial⟩ (fun _ s => s) (by simp_all)
   have e109 := hC
   refine .cd rfl (fun h109 => ?_) (fun h109 => ?_)
   ·try simp only [dt] at h109
    rw [h109] at e109
    have hz := hbad (by rw [show frmS (.mk kd nm hd ex th el) = true from by rw [frm_bad, hg, hae]; rfl, Bool.true_and]; have := e109.symm; rwa [Bool.not_eq_true'] at this)
    refine .sr <| .a rfl rfl <| .nt <| .rt <| .bR <| .tR <| .tR <| .bR <| .tR <| ?_
    refine Sx.ret1 (.inl rfl) rfl (.tmp rfl) fun W s => ⟨retB ?_, s.ext⟩
    first
      | (rw [hz])
      | (rw [hal])
   try simp only [df] at h109
   rw [h109] at e109
   have q109 : (Sm.alls frmS th && Sm.alls frmS el) = true := by simpa using e109.symm
   exact .sk <| .bN <| .tN <| .rg <| .yv (.add rfl rfl (w6 (by omega))) rfl <| .m rfl rfl <| .nt <| .ag (k + 1) ⟨rfl, trivial⟩ ⟨rfl, rfl, trivial⟩ (fun _ s => s.pick [] [] rfl rfl) ⟨by omega, by rw [hsucc, hal, Bool.true_and]; rw [show frmS (.mk kd nm hd ex th el) = true from by rw [frm_bad, hg, hae]; rfl]; simp only [Bool.true_and]; simpa using q109⟩ (by omega)
  try simp only [df] at h14
  obtain rfl : k = l.length := by omega
  rw [List.take_length] at hal
  refine .ex <| .tE <| .tE <| .bE <| .tN <| .sr <| .a rfl rfl <| .nt <| .rt <| ?_
  refine Sx.ret1 (.inl rfl) rfl (.tmp rfl) fun W s => ⟨retB ?_, s.ext⟩
  first
    | (rw [hz])
    | (rw [hal])
theorem mem_step {l : List Str} {m : Nat} {a : Str} (h : m < l.length) : (decide (a ∈ l.take m) || decide (l[m] = a)) = decide (a ∈ l.take (m + 1)) := by
  rw [take_snoc h, Bool.eq_iff_iff]
  simp only [Bool.or_eq_true, decide_eq_true_eq, List.mem_append, List.mem_singleton]
  exact or_congr Iff.rfl eq_comm
set_option maxHeartbeats 2000000 in
set_option maxRecDepth 100000 in
theorem handlersR_any (N : Nat) (hN : N ≤ 100000) (H : Hp) (c : Cp) (okc : okCp N c) (cs : List Value) (w : World) (h : Rep H (dCp .i64 c) cs) (hA : Agr H w) :
    Calls Tryz.prog 64 #[.agg cs.toArray] w fun r w' => ∃ (x : Option Addr × Nat) (H' : Hp), H' = H ∧ r = .returned (.slice x.1 (namesOf c).length x.2) ∧ Grow H w H' w' := by
  obtain ⟨q1, d1, q2, d2, rfl, nc, g1, g2⟩ := cp_open h
  have hcr := g2.cap
  have hvr : c.vers.length ≤ N := okc.vers
  have hNN : c.vers.length * N ≤ 10000000000 := Nat.le_trans (Nat.mul_le_mul hvr hN) (Nat.mul_le_mul hN (Nat.le_refl 100000))
  refine Sx.enter (H := H) Tryz.func64 rfl Tryz.ntmps64 rfl hA ?_
  refine .sr <| .bx rfl rfl rfl fun b1 => .a rfl rfl <| .ns <| .a rfl rfl <| ?_
  refine Sx.row0 9 1 ?_
  refine .nt <| .sq <| .sr <| .yv (.fieldAddr rfl Fx.field91_2) rfl <| .yv (.load rfl Fx.agg89 (.tail _ <| .head _) rfl) rfl <| .yv (.lenSl Fx.sl89 rfl) rfl <| .m rfl rfl <| .nt <| .bk <| .lp (X := Nat × Nat × Value × List Value) [(12, _), (13, _)] ⟨rfl, rfl, trivial⟩ [_] (fun z => [(3, z.2.2.1), (14, .int .i64 (z.1 : Nat))]) (fun z => H) (fun z => [.row 9 1 z.2.2.1 z.2.1 z.2.2.2]) (fun z => z.1 ≤ c.vers.length ∧ z.2.1 = ((c.vers.take z.1).foldl stepV []).length ∧ z.2.1 ≤ z.1 * N ∧ RepZ H 1 (((c.vers.take z.1).foldl stepV []).map dStr) z.2.2.2) (fun z => c.vers.length - z.1) (0, 0, .slice none 0 0, []) (fun _ s => s) ⟨rfl, rfl, trivial⟩ ⟨by simp, rfl, by simp, RepZ.nil⟩ fun z hC => ?_
  obtain ⟨i, n, r, xs⟩ := z
  dsimp only at hC ⊢
  obtain ⟨hi0, hn, hnb, hz⟩ := hC
  refine .sr <| .yv (.lss rfl rfl) rfl <| .nt <| .sq <| .cd rfl (fun h15 => ?_) (fun h15 => ?_)
  ·try simp only [dt] at h15
   have hi : i < c.vers.length := by omega
   have hs1 := fold_succ (f := stepV) (a := []) hi
   obtain ⟨bG, oG, cG, hpG, rG, lG, mG⟩ := g2.elem (map_at (f := dVs .i64) hi)
   cases hpG
   have okv := okc.all _ (List.getElem_mem hi)
   generalize hxv : c.vers[i] = v at rG okv hs1
   obtain ⟨pv, cv, rfl, gv⟩ := vs_open rG
   have hcw := gv.cap
   have hvn : v.length ≤ N := okv.len
   have hbN : i * N + N ≤ 10000000000 := by
     have := Nat.mul_le_mul_right N (show i + 1 ≤ c.vers.length by omega)
     rw [Nat.succ_mul] at this; omega
   generalize hks : (c.vers.take i).foldl stepV [] = ks at hs1 hn hz
   refine .sk <| .tN <| .sq <| .bk <| .sr <| .yv (.indexSl Fx.sl89 rfl rfl (i := i) rfl hi (q := oG + i * 1) rfl) rfl <| .yv (.loadM rfl Fx.agg97 mG (k := 0) rfl rfl) rfl <| .a rfl rfl <| .ns <| .m rfl rfl <| .yv (.lenSl Fx.sl97 rfl) rfl <| .m rfl rfl <| .nt <| .bk <| .lp (X := Nat × Nat × Value × List Value) [(12, _), (13, _), (14, _), (18, _), (19, _)] ⟨rfl, rfl, rfl, rfl, rfl, trivial⟩ [_] (fun z => [(3, z.2.2.1), (20, .int .i64 (z.1 : Nat))]) (fun z => H) (fun z => [.row 9 1 z.2.2.1 z.2.1 z.2.2.2]) (fun z => z.1 ≤ v.length ∧ z.2.1 = ((v.take z.1).foldl stepH ks).length ∧ z.2.1 ≤ n + z.1 ∧ RepZ H 1 (((v.take z.1).foldl stepH ks).map dStr) z.2.2.2) (fun z => v.length - z.1) (0, n, r, xs) (fun _ s => s) ⟨rfl, rfl, trivial⟩ ⟨by simp, hn, by simp, hz⟩ fun z hC => ?_
   obtain ⟨j, n2, r2, xs2⟩ := z
   dsimp only at hC ⊢
   obtain ⟨hj0, hn2, hnb2, hz2⟩ := hC
   refine .sr <| .yv (.lss rfl rfl) rfl <| .nt <| .sq <| .cd rfl (fun h21 => ?_) (fun h21 => ?_)
   ·try simp only [dt] at h21
    have hj : j < v.length := by omega
    have hs2 := fold_succ (f := stepH) (a := ks) hj
    obtain ⟨bI, oI, cI, hpI, rI, lI, mI⟩ := gv.elem (map_at (f := dHd .i64) hj)
    cases hpI
    have okh := okv.all _ (List.getElem_mem hj)
    generalize hxh : v[j] = y at rI okh hs2
    obtain ⟨t1, w1, t2, w2, rfl, ny, m1, m2⟩ := hd_open rI
    generalize hk2 : (v.take j).foldl stepH ks = ks2 at hs2 hn2 hz2
    refine At.ra (.head _) fun pr cr er => ?_
    subst er
    refine .sk <| .tN <| .sq <| .bk <| .sr <| .yv (.indexSl Fx.sl97 rfl rfl rfl (by omega) (q := oI + j * 3) rfl) rfl <| .yv (.loadMW rfl Fx.agg100 mI rfl) rfl <| .al Fx.zero100 rfl fun b7 => .sW .head rfl rfl Fx.size100 (by simp [Value.oneCell', strV]) rfl <| .ns <| .a rfl rfl <| .nt <| .sq <| .sr <| .m rfl rfl <| .yv (.lenSl Fx.sl66 rfl) rfl <| .m rfl rfl <| .nt <| .bk <| .lp (X := Nat × Bool) [(3, _), (7, _), (12, _), (13, _), (14, _), (18, _), (19, _), (20, _), (24, _), (25, _)] ⟨rfl, rfl, rfl, rfl, rfl, rfl, rfl, rfl, rfl, rfl, trivial⟩ [_, _, _] (fun z => [(8, .bool z.2), (26, .int .i64 (z.1 : Nat))]) (fun z => H) (fun z => []) (fun z => z.1 ≤ n2 ∧ z.2 = decide (y.nm ∈ ks2.take z.1)) (fun z => n2 - z.1) (0, false) (fun _ s => s) ⟨rfl, rfl, trivial⟩ ⟨by simp, by simp⟩ fun z hC => ?_
    obtain ⟨m, fl⟩ := z
    dsimp only at hC ⊢
    obtain ⟨hm0, hfl⟩ := hC
    refine .sr <| .yv (.lss rfl rfl) rfl <| .nt <| .sq <| .cd rfl (fun h27 => ?_) (fun h27 => ?_)
    ·try simp only [dt] at h27
     have hm : m < ks2.length := by omega
     have hn20 : 0 < n2 := by omega
     refine At.rs (.tail _ <| .head _) hn20 fun gr cr2 er2 => ?_
     obtain ⟨rfl, rfl⟩ := sl_inj er2
     obtain ⟨cM, rM, lM, mM⟩ := hz2.at (i := m) (map_at (f := dStr) hm)
     obtain ⟨rfl, _⟩ := str_open rM
     have hmz : xs2[m * 1]? = some (strV ks2[m]) := mM 0 _ rfl
     refine .sk <| .tN <| .cu (X := Bool) [(3, _), (7, _), (12, _), (13, _), (14, _), (18, _), (19, _), (20, _), (24, _), (25, _), (26, _)] ⟨rfl, rfl, rfl, rfl, rfl, rfl, rfl, rfl, rfl, rfl, rfl, trivial⟩ (fun z => [(8, .bool z)]) (fun z => H) (fun z => [.box b7 [strV y.nm, .slice t1 y.ps.length w1, .slice t2 y.body.length w2] 100, .row 9 1 (.slice (some ⟨gr, 0, none⟩) n2 cr) n2 xs2, .box b1 [strV c.nm, .slice q1 c.vars.length d1, .slice (some ⟨bG, oG, none⟩) c.vers.length d2] 91]) (fun z => z = (fl || decide (ks2[m] = y.nm))) ?_ fun z hC => ?_
     ·
      refine .bk <| .sr <| .yv (.indexSl Fx.sl66 rfl rfl (i := m) rfl (by omega) (q := m * 1) (by omega)) rfl <| .yv (.loadSrc rfl Fx.agg9 (.row (.tail _ <| .head _) (one_at hmz))) rfl <| .a rfl rfl <| .nt <| .rg <| .m rfl rfl <| .m rfl rfl <| .b2 (fun h31 => ?_) (fun h31 => ?_)
      ·try simp only [dt] at h31
       exact .gF rfl rfl rfl rfl <| .gF rfl rfl rfl rfl <| .gF rfl rfl rfl rfl <| .gF rfl rfl rfl rfl <| .yv (.pickT rfl rfl) rfl <| .a rfl rfl <| .nl <| .bN <| .tN <| .me _ ⟨rfl, trivial⟩ ⟨rfl, rfl, rfl, rfl, rfl, rfl, rfl, rfl, rfl, rfl, rfl, trivial⟩ (fun _ s => s) (by simp_all)
      try simp only [df] at h31
      exact .gd rfl rfl <| .yv (.move rfl) rfl <| .gd rfl rfl <| .yv (.fieldAddr rfl Fx.field100_0) rfl <| .gd rfl rfl <| .yv (.load rfl Fx.agg9 (.head _) rfl) rfl <| .gd rfl rfl <| .yv (.eqS rfl rfl) rfl <| .yv (.pickF rfl rfl) rfl <| .a rfl rfl <| .nl <| .bN <| .tN <| .me _ ⟨rfl, trivial⟩ ⟨rfl, rfl, rfl, rfl, rfl, rfl, rfl, rfl, rfl, rfl, rfl, trivial⟩ (fun _ s => s) (by simp_all)
     have e8 := hC
     exact .rg <| .yv (.add rfl rfl (w6 (by omega))) rfl <| .m rfl rfl <| .nt <| .ag (x := (m, fl)) (m + 1, _) ⟨rfl, rfl, trivial⟩ ⟨rfl, rfl, rfl, rfl, rfl, rfl, rfl, rfl, rfl, rfl, trivial⟩ (fun _ s => (s.pick [0, 1, 2] _ rfl rfl)) ⟨by dsimp only; omega, by dsimp only; rw [e8, hfl]; exact mem_step hm⟩ (by dsimp only; omega)
    try simp only [df] at h27
    have hfull : fl = decide (y.nm ∈ ks2) := by rw [hfl, show m = ks2.length by omega, List.take_length]
    refine .ex <| .tE <| .tE <| .bE <| .tN <| .sr <| .m rfl rfl <| .yv (.not rfl) rfl <| .nt <| .cd rfl (fun h39 => ?_) (fun h39 => ?_)
    ·try simp only [dt] at h39
     have hq : ¬ y.nm ∈ ks2 := by simpa [hfull] using h39
     exact .rg <| .m rfl rfl <| .yv (.fieldAddr rfl Fx.field100_0) rfl <| .yv (.load rfl Fx.agg9 (.head _) rfl) rfl <| .bl rfl (Fx.bsl66_1 _) rfl fun b43 => .ap (news := [strV y.nm]) Fx.row66 rfl (fun _ => (.tail <| .tail <| .head)) rfl (.box (.head _) z0) rfl (by simp [Value.oneCell', strV]) (by simp [maxLen]; omega) (by omega) rfl fun r44 _ => .a rfl rfl <| .nl <| .bN <| .tN <| .rg <| .yv (.add rfl rfl (w6 (by omega))) rfl <| .m rfl rfl <| .nt <| .ag (x := (j, n2, .slice pr n2 cr, xs2)) (j + 1, n2 + 1, r44, xs2 ++ [strV y.nm]) ⟨rfl, rfl, trivial⟩ ⟨rfl, rfl, rfl, rfl, rfl, trivial⟩ (fun _ s => (s.pick [2, 3] _ rfl rfl)) ⟨by dsimp only; omega, by dsimp only; rw [hs2, stepH, addK, if_neg hq, List.length_append, hn2]; rfl, by dsimp only; omega, by dsimp only; rw [hs2, stepH, addK, if_neg hq, List.map_append]; exact hz2.snoc (str_shut ny) rfl⟩ (by dsimp only; omega)
    try simp only [df] at h39
    have hq : y.nm ∈ ks2 := by simpa [hfull] using h39
    exact .sk <| .bN <| .tN <| .rg <| .yv (.add rfl rfl (w6 (by omega))) rfl <| .m rfl rfl <| .nt <| .ag (x := (j, n2, .slice pr n2 cr, xs2)) (j + 1, n2, .slice pr n2 cr, xs2) ⟨rfl, rfl, trivial⟩ ⟨rfl, rfl, rfl, rfl, rfl, trivial⟩ (fun _ s => (s.pick [1, 2] _ rfl rfl)) ⟨by dsimp only; omega, by dsimp only; rw [hs2, stepH, addK, if_pos hq]; exact hn2, by dsimp only; omega, by dsimp only; rw [hs2, stepH, addK, if_pos hq]; exact hz2⟩ (by dsimp only; omega)
   try simp only [df] at h21
   obtain rfl : j = v.length := by omega
   rw [List.take_length] at hn2 hz2
   rw [show stepV ks v = v.foldl stepH ks from rfl] at hs1
   exact .ex <| .tE <| .tE <| .bE <| .bN <| .tN <| .rg <| .yv (.add rfl rfl (w6 (by omega))) rfl <| .m rfl rfl <| .nt <| .ag (x := (i, n, r, xs)) (i + 1, n2, r2, xs2) ⟨rfl, rfl, trivial⟩ ⟨rfl, rfl, trivial⟩ (fun _ s => (s.pick [0, 1] _ rfl rfl)) ⟨by dsimp only; omega, by dsimp only; rw [hs1]; exact hn2, by dsimp only; rw [Nat.add_mul, Nat.one_mul]; omega, by dsimp only; rw [hs1]; exact hz2⟩ (by dsimp only; omega)
  try simp only [df] at h15
  obtain rfl : i = c.vers.length := by omega
  rw [List.take_length] at hn hz
  refine .ex <| .tE <| .tE <| .bE <| .tN <| .sr <| .m rfl rfl <| .a rfl rfl <| .nt <| .rt <| ?_
  refine At.ra (.head _) fun pr cr er => ?_
  subst er
  exact Sx.ret1 (.inl rfl) rfl (.tmp rfl) fun W t => ⟨(pr, cr), H, rfl, by rw [hn]; rfl, .pure hA t.ext⟩
def okNmC (c : Cp) : Bool := nameB c.nm && (c.vars.all fun v => nameB v.nm) && c.vers.all fun v => v.all namH
theorem and_mix (a t b c d : Bool) : (a && t && b && c && d) = (a && (t && (b && d && c))) := by cases a <;> cases t <;> cases b <;> cases c <;> cases d <;> rfl
theorem all_and {α : Type} (p q : α → Bool) : ∀ l : List α, (l.all fun x => p x && q x) = (l.all p && l.all q)
  | [] => rfl
  | x :: r => by rw [List.all_cons, List.all_cons, List.all_cons, all_and p q r]; cases p x <;> cases q x <;> cases r.all p <;> cases r.all q <;> rfl
theorem namF_eq (f : Ft) : (((nameB f.nm && f.flags.all fun x => nameB x.nm) && f.links.all fun x => nameB x.fr && nameB x.to) && f.comps.all okNmC) = namF f := by
  have e : f.comps.all okNmC = ((f.comps.all fun c => nameB c.nm && c.vars.all fun v => nameB v.nm) && evH namH f) := by
    rw [evH, ← all_and]; rfl
  rw [e, namF]; simp only [Bool.and_assoc]
set_option maxHeartbeats 2000000 in
set_option maxRecDepth 100000 in
theorem names_f (N : Nat) (hN : N ≤ 1000000) (H : Hp) (f : Ft) (hok : okFt N f) (cs : List Value) (w : World) (h : Rep H (dFt .i64 f) cs) (hA : Agr H w) :
    Calls Tryz.prog 29 #[.agg cs.toArray] w fun r w' => r = .returned (.bool (namF f)) ∧ Ext w w' := by
  obtain ⟨p1, c1, p2, c2, p3, c3, rfl, n00, k1, k2, k3⟩ := ft_open h
  have hcap1 := k1.cap
  have hcap2 := k2.cap
  have hcap3 := k3.cap
  refine Sx.enter (H := H) Tryz.func29 rfl Tryz.ntmps29 rfl hA ?_
  refine .sr <| .bx rfl rfl rfl fun b1 => .a rfl rfl <| .ns <| .yv (.fieldAddr rfl Fx.field32_0) rfl <| .yv (.load rfl Fx.agg9 (.head _) rfl) rfl <| .yv (.call Fx.call68 rfl (fun W s => isNameR_any H f.nm n00 W s.agr)) rfl <| .a rfl rfl <| .nt <| .sq <| .sr <| .yv (.fieldAddr rfl Fx.field32_1) rfl <| .yv (.load rfl Fx.agg28 (.head _) rfl) rfl <| .yv (.lenSl Fx.sl28 rfl) rfl <| .m rfl rfl <| .nt <| .bk <| .lp (X := Nat × Bool) [(1, _), (22, _), (23, _)] ⟨rfl, rfl, rfl, trivial⟩ [_] (fun z => [(3, .bool z.2), (24, .int .i64 (z.1 : Nat))]) (fun z => H) (fun z => []) (fun z => z.1 ≤ f.flags.length ∧ z.2 = (nameB f.nm && (f.flags.take z.1).all fun x => nameB x.nm)) (fun z => f.flags.length - z.1) (0, nameB f.nm) (fun _ s => s) ⟨rfl, rfl, trivial⟩ ⟨by simp, by simp⟩ fun z hC => ?_
  obtain ⟨k, fa⟩ := z
  dsimp only at hC ⊢
  obtain ⟨hlek, hfa⟩ := hC
  refine .sr <| .yv (.lss rfl rfl) rfl <| .nt <| .sq <| .cd rfl (fun h25 => ?_) (fun h25 => ?_)
  ·try simp only [dt] at h25
   have hk : k < f.flags.length := by omega
   obtain ⟨bE, oE, cE, hpE, rE, lE, mE⟩ := k1.elem (map_at (f := dFg) hk)
   cases hpE
   generalize hx : f.flags[k] = x at rE
   obtain ⟨rfl, nx⟩ := fg_open rE
   refine .sk <| .tN <| .cu (X := Bool) [(1, _), (22, _), (23, _), (24, _)] ⟨rfl, rfl, rfl, rfl, trivial⟩ (fun z => [(3, .bool z)]) (fun z => H) (fun z => [.box b1 [strV f.nm, .slice (some ⟨bE, oE, none⟩) f.flags.length c1, .slice p2 f.links.length c2, .slice p3 f.comps.length c3] 32]) (fun z => z = (fa && nameB x.nm)) ?_ fun z hC => ?_
   ·
    refine .bk <| .sr <| .yv (.indexSl Fx.sl28 rfl rfl rfl (by omega) (q := oE + k * 2) rfl) rfl <| .yv (.loadMW rfl Fx.agg84 mE rfl) rfl <| .al Fx.zero84 rfl fun b5 => .sW .head rfl rfl Fx.size84 (by simp [Value.oneCell', strV]) rfl <| .nt <| .rg <| .m rfl rfl <| .m rfl rfl <| .b2 (fun h29 => ?_) (fun h29 => ?_)
    ·try simp only [dt] at h29
     exact .gd rfl rfl <| .yv (.fieldAddr rfl Fx.field84_0) rfl <| .gd rfl rfl <| .yv (.load rfl Fx.agg9 (.head _) rfl) rfl <| .gd rfl rfl <| .yv (.call Fx.call68 rfl (fun W s => isNameR_any H x.nm nx W s.agr)) rfl <| .yv (.pickT rfl rfl) rfl <| .a rfl rfl <| .nl <| .bN <| .tN <| .me _ ⟨rfl, trivial⟩ ⟨rfl, rfl, rfl, rfl, trivial⟩ (fun _ s => s.pick [1] [_] rfl rfl) (by simp_all)
    try simp only [df] at h29
    exact .gF rfl rfl rfl rfl <| .gF rfl rfl rfl rfl <| .gF rfl rfl rfl rfl <| .yv (.pickF rfl rfl) rfl <| .a rfl rfl <| .nl <| .bN <| .tN <| .me _ ⟨rfl, trivial⟩ ⟨rfl, rfl, rfl, rfl, trivial⟩ (fun _ s => s.pick [1] [_] rfl rfl) (by simp_all)
   have ea := hC
   exact .rg <| .yv (.add rfl rfl (w6 (by omega))) rfl <| .m rfl rfl <| .nt <| .ag (x := (k, fa)) (k + 1, z) ⟨rfl, rfl, trivial⟩ ⟨rfl, rfl, rfl, trivial⟩ (fun _ s => (s.pick [0] _ rfl rfl)) ⟨by dsimp only; omega, by dsimp only; rw [ea, hfa, lall_succ hk, hx, Bool.and_assoc]⟩ (by dsimp only; omega)
  try simp only [df] at h25
  obtain rfl : k = f.flags.length := by omega
  rw [List.take_length] at hfa
  refine .ex <| .tE <| .tE <| .bE <| .tN <| .sq <| .sr <| .yv (.fieldAddr rfl Fx.field32_2) rfl <| .yv (.load rfl Fx.agg29 (.head _) rfl) rfl <| .yv (.lenSl Fx.sl29 rfl) rfl <| .m rfl rfl <| .nt <| .bk <| .lp (X := Nat × Bool) [(1, _), (36, _), (37, _)] ⟨rfl, rfl, rfl, trivial⟩ [_] (fun z => [(3, .bool z.2), (38, .int .i64 (z.1 : Nat))]) (fun z => H) (fun z => []) (fun z => z.1 ≤ f.links.length ∧ z.2 = (fa && (f.links.take z.1).all fun x => nameB x.fr && nameB x.to)) (fun z => f.links.length - z.1) (0, fa) (fun _ s => s) ⟨rfl, rfl, trivial⟩ ⟨by simp, by simp⟩ fun z hC => ?_
  obtain ⟨k, fb⟩ := z
  dsimp only at hC ⊢
  obtain ⟨hlek, hfb⟩ := hC
  refine .sr <| .yv (.lss rfl rfl) rfl <| .nt <| .sq <| .cd rfl (fun h39 => ?_) (fun h39 => ?_)
  ·try simp only [dt] at h39
   have hk : k < f.links.length := by omega
   obtain ⟨bE, oE, cE, hpE, rE, lE, mE⟩ := k2.elem (map_at (f := dLk) hk)
   cases hpE
   generalize hx : f.links[k] = x at rE
   obtain ⟨rfl, nx, nx2⟩ := lk_open rE
   refine .sk <| .tN <| .cu (X := Bool) [(1, _), (36, _), (37, _), (38, _)] ⟨rfl, rfl, rfl, rfl, trivial⟩ (fun z => [(3, .bool z)]) (fun z => H) (fun z => [.box b1 [strV f.nm, .slice p1 f.flags.length c1, .slice (some ⟨bE, oE, none⟩) f.links.length c2, .slice p3 f.comps.length c3] 32]) (fun z => z = (fb && nameB x.fr && nameB x.to)) ?_ fun z hC => ?_
   ·
    refine .bk <| .sr <| .yv (.indexSl Fx.sl29 rfl rfl rfl (by omega) (q := oE + k * 3) rfl) rfl <| .yv (.loadMW rfl Fx.agg86 mE rfl) rfl <| .al Fx.zero86 rfl fun b7 => .sW .head rfl rfl Fx.size86 (by simp [Value.oneCell', strV]) rfl <| .nt <| .rg <| .m rfl rfl <| .m rfl rfl <| .b2 (fun h43 => ?_) (fun h43 => ?_)
    ·try simp only [dt] at h43
     refine .gd rfl rfl <| .yv (.fieldAddr rfl Fx.field86_0) rfl <| .gd rfl rfl <| .yv (.load rfl Fx.agg9 (.head _) rfl) rfl <| .gd rfl rfl <| .yv (.call Fx.call68 rfl (fun W s => isNameR_any H x.fr nx W s.agr)) rfl <| .yv (.pickT rfl rfl) rfl <| .m rfl rfl <| .b2 (fun h48 => ?_) (fun h48 => ?_)
     ·try simp only [dt] at h48
      exact .gd rfl rfl <| .yv (.fieldAddr rfl Fx.field86_1) rfl <| .gd rfl rfl <| .yv (.load rfl Fx.agg9 (.head _) rfl) rfl <| .gd rfl rfl <| .yv (.call Fx.call68 rfl (fun W s => isNameR_any H x.to nx2 W s.agr)) rfl <| .yv (.pickT rfl rfl) rfl <| .a rfl rfl <| .nl <| .bN <| .tN <| .me _ ⟨rfl, trivial⟩ ⟨rfl, rfl, rfl, rfl, trivial⟩ (fun _ s => s.pick [1] [_] rfl rfl) (by simp_all)
     try simp only [df] at h48
     exact .gF rfl rfl rfl rfl <| .gF rfl rfl rfl rfl <| .gF rfl rfl rfl rfl <| .yv (.pickF rfl rfl) rfl <| .a rfl rfl <| .nl <| .bN <| .tN <| .me _ ⟨rfl, trivial⟩ ⟨rfl, rfl, rfl, rfl, trivial⟩ (fun _ s => s.pick [1] [_] rfl rfl) (by simp_all)
    try simp only [df] at h43
    exact .gF rfl rfl rfl rfl <| .gF rfl rfl rfl rfl <| .gF rfl rfl rfl rfl <| .yv (.pickF rfl rfl) rfl <| .m rfl rfl <| .gF rfl rfl rfl rfl <| .gF rfl rfl rfl rfl <| .gF rfl rfl rfl rfl <| .yv (.pickF rfl rfl) rfl <| .a rfl rfl <| .nl <| .bN <| .tN <| .me _ ⟨rfl, trivial⟩ ⟨rfl, rfl, rfl, rfl, trivial⟩ (fun _ s => s.pick [1] [_] rfl rfl) (by simp_all)
   have eb := hC
   exact .rg <| .yv (.add rfl rfl (w6 (by omega))) rfl <| .m rfl rfl <| .nt <| .ag (x := (k, fb)) (k + 1, z) ⟨rfl, rfl, trivial⟩ ⟨rfl, rfl, rfl, trivial⟩ (fun _ s => (s.pick [0] _ rfl rfl)) ⟨by dsimp only; omega, by dsimp only; rw [eb, hfb, lall_succ hk, hx, Bool.and_assoc, Bool.and_assoc]⟩ (by dsimp only; omega)
  try simp only [df] at h39
  obtain rfl : k = f.links.length := by omega
  rw [List.take_length] at hfb
  refine .ex <| .tE <| .tE <| .bE <| .tN <| .sq <| .sr <| .yv (.fieldAddr rfl Fx.field32_3) rfl <| .yv (.load rfl Fx.agg30 (.head _) rfl) rfl <| .yv (.lenSl Fx.sl30 rfl) rfl <| .m rfl rfl <| .nt <| .bk <| .lp (X := Nat × Bool) [(55, _), (56, _)] ⟨rfl, rfl, trivial⟩ [_] (fun z => [(3, .bool z.2), (57, .int .i64 (z.1 : Nat))]) (fun z => H) (fun z => []) (fun z => z.1 ≤ f.comps.length ∧ z.2 = (fb && (f.comps.take z.1).all okNmC)) (fun z => f.comps.length - z.1) (0, fb) (fun _ s => s) ⟨rfl, rfl, trivial⟩ ⟨by simp, by simp⟩ fun z hC => ?_
  obtain ⟨k, fc⟩ := z
  dsimp only at hC ⊢
  obtain ⟨hlek, hfc⟩ := hC
  refine .sr <| .yv (.lss rfl rfl) rfl <| .nt <| .sq <| .cd rfl (fun h58 => ?_) (fun h58 => ?_)
  ·try simp only [dt] at h58
   have hk : k < f.comps.length := by omega
   obtain ⟨bE, oE, cE, hpE, rE, lE, mE⟩ := k3.elem (map_at (f := dCp .i64) hk)
   cases hpE
   have okc := hok.all _ (List.getElem_mem hk)
   generalize hx : f.comps[k] = c at rE okc
   obtain ⟨q1, d1, q2, d2, rfl, nc, g1, g2⟩ := cp_open rE
   have hcv := g1.cap
   have hcr := g2.cap
   refine .sk <| .tN <| .sq <| .bk <| .sr <| .yv (.indexSl Fx.sl30 rfl rfl rfl (by omega) (q := oE + k * 3) rfl) rfl <| .yv (.loadMW rfl Fx.agg91 mE rfl) rfl <| .al Fx.zero91 rfl fun b9 => .sW .head rfl rfl Fx.size91 (by simp [Value.oneCell', strV]) rfl <| .nt <| .cu (X := Bool) [(9, _), (55, _), (56, _), (57, _)] ⟨rfl, rfl, rfl, rfl, trivial⟩ (fun fd => [(3, .bool fd)]) (fun fd => H) (fun fd => [.box b9 [strV c.nm, .slice q1 c.vars.length d1, .slice q2 c.vers.length d2] 91, .box b1 [strV f.nm, .slice p1 f.flags.length c1, .slice p2 f.links.length c2, .slice (some ⟨bE, oE, none⟩) f.comps.length c3] 32]) (fun fd => fd = (fc && nameB c.nm)) ?_ fun fd hC => ?_
   ·
    refine .rg <| .m rfl rfl <| .m rfl rfl <| .b2 (fun h62 => ?_) (fun h62 => ?_)
    ·try simp only [dt] at h62
     exact .gd rfl rfl <| .yv (.fieldAddr rfl Fx.field91_0) rfl <| .gd rfl rfl <| .yv (.load rfl Fx.agg9 (.head _) rfl) rfl <| .gd rfl rfl <| .yv (.call Fx.call68 rfl (fun W s => isNameR_any H c.nm nc W s.agr)) rfl <| .yv (.pickT rfl rfl) rfl <| .a rfl rfl <| .nt <| .me _ ⟨rfl, trivial⟩ ⟨rfl, rfl, rfl, rfl, trivial⟩ (fun _ s => s) (by simp_all)
    try simp only [df] at h62
    exact .gF rfl rfl rfl rfl <| .gF rfl rfl rfl rfl <| .gF rfl rfl rfl rfl <| .yv (.pickF rfl rfl) rfl <| .a rfl rfl <| .nt <| .me _ ⟨rfl, trivial⟩ ⟨rfl, rfl, rfl, rfl, trivial⟩ (fun _ s => s) (by simp_all)
   have ed := hC
   refine .sq <| .sr <| .yv (.fieldAddr rfl Fx.field91_1) rfl <| .yv (.load rfl Fx.agg88 (.head _) rfl) rfl <| .yv (.lenSl Fx.sl88 rfl) rfl <| .m rfl rfl <| .nt <| .bk <| .lp (X := Nat × Bool) [(9, _), (55, _), (56, _), (57, _), (68, _), (69, _)] ⟨rfl, rfl, rfl, rfl, rfl, rfl, trivial⟩ [_, _] (fun z => [(3, .bool z.2), (70, .int .i64 (z.1 : Nat))]) (fun z => H) (fun z => []) (fun z => z.1 ≤ c.vars.length ∧ z.2 = (fd && (c.vars.take z.1).all fun v => nameB v.nm)) (fun z => c.vars.length - z.1) (0, fd) (fun _ s => s) ⟨rfl, rfl, trivial⟩ ⟨by simp, by simp⟩ fun z hC => ?_
   obtain ⟨j, fe⟩ := z
   dsimp only at hC ⊢
   obtain ⟨hlej, hfe⟩ := hC
   refine .sr <| .yv (.lss rfl rfl) rfl <| .nt <| .sq <| .cd rfl (fun h71 => ?_) (fun h71 => ?_)
   ·try simp only [dt] at h71
    have hj : j < c.vars.length := by omega
    obtain ⟨bF, oF, cF, hpF, rF, lF, mF⟩ := g1.elem (map_at (f := dVr .i64) hj)
    cases hpF
    generalize hxw : c.vars[j] = vr at rF
    obtain ⟨rfl, nv⟩ := vr_open rF
    refine .sk <| .tN <| .cu (X := Bool) [(9, _), (55, _), (56, _), (57, _), (68, _), (69, _), (70, _)] ⟨rfl, rfl, rfl, rfl, rfl, rfl, rfl, trivial⟩ (fun z => [(3, .bool z)]) (fun z => H) (fun z => [.box b9 [strV c.nm, .slice (some ⟨bF, oF, none⟩) c.vars.length d1, .slice q2 c.vers.length d2] 91, .box b1 [strV f.nm, .slice p1 f.flags.length c1, .slice p2 f.links.length c2, .slice (some ⟨bE, oE, none⟩) f.comps.length c3] 32]) (fun z => z = (fe && nameB vr.nm)) ?_ fun z hC => ?_
    ·
     refine .bk <| .sr <| .yv (.indexSl Fx.sl88 rfl rfl rfl (by omega) (q := oF + j * 3) rfl) rfl <| .yv (.loadMW rfl Fx.agg93 mF rfl) rfl <| .al Fx.zero93 rfl fun b11 => .sW .head rfl rfl Fx.size93 (by simp [Value.oneCell', strV]) rfl <| .nt <| .rg <| .m rfl rfl <| .m rfl rfl <| .b2 (fun h75 => ?_) (fun h75 => ?_)
     ·try simp only [dt] at h75
      exact .gd rfl rfl <| .yv (.fieldAddr rfl Fx.field93_0) rfl <| .gd rfl rfl <| .yv (.load rfl Fx.agg9 (.head _) rfl) rfl <| .gd rfl rfl <| .yv (.call Fx.call68 rfl (fun W s => isNameR_any H vr.nm nv W s.agr)) rfl <| .yv (.pickT rfl rfl) rfl <| .a rfl rfl <| .nl <| .bN <| .tN <| .me _ ⟨rfl, trivial⟩ ⟨rfl, rfl, rfl, rfl, rfl, rfl, rfl, trivial⟩ (fun _ s => s.pick [1, 2] [_, _] rfl rfl) (by simp_all)
     try simp only [df] at h75
     exact .gF rfl rfl rfl rfl <| .gF rfl rfl rfl rfl <| .gF rfl rfl rfl rfl <| .yv (.pickF rfl rfl) rfl <| .a rfl rfl <| .nl <| .bN <| .tN <| .me _ ⟨rfl, trivial⟩ ⟨rfl, rfl, rfl, rfl, rfl, rfl, rfl, trivial⟩ (fun _ s => s.pick [1, 2] [_, _] rfl rfl) (by simp_all)
    have ee := hC
    exact .rg <| .yv (.add rfl rfl (w6 (by omega))) rfl <| .m rfl rfl <| .nt <| .ag (x := (j, fe)) (j + 1, z) ⟨rfl, rfl, trivial⟩ ⟨rfl, rfl, rfl, rfl, rfl, rfl, trivial⟩ (fun _ s => (s.pick [0, 1] _ rfl rfl)) ⟨by dsimp only; omega, by dsimp only; rw [ee, hfe, lall_succ hj, hxw, Bool.and_assoc]⟩ (by dsimp only; omega)
   try simp only [df] at h71
   obtain rfl : j = c.vars.length := by omega
   rw [List.take_length] at hfe
   refine .ex <| .tE <| .tE <| .bE <| .tN <| .sr <| .yv (.fieldAddr rfl Fx.field91_2) rfl <| .yv (.load rfl Fx.agg89 (.head _) rfl) rfl <| .yv (.lenSl Fx.sl89 rfl) rfl <| .m rfl rfl <| .nt <| .bk <| .lp (X := Nat × Bool) [(55, _), (56, _), (57, _), (82, _), (83, _)] ⟨rfl, rfl, rfl, rfl, rfl, trivial⟩ [_, _] (fun z => [(3, .bool z.2), (84, .int .i64 (z.1 : Nat))]) (fun z => H) (fun z => []) (fun z => z.1 ≤ c.vers.length ∧ z.2 = (fe && (c.vers.take z.1).all fun v => v.all namH)) (fun z => c.vers.length - z.1) (0, fe) (fun _ s => s) ⟨rfl, rfl, trivial⟩ ⟨by simp, by simp⟩ fun z hC => ?_
   obtain ⟨i, fg⟩ := z
   dsimp only at hC ⊢
   obtain ⟨hlei, hfg⟩ := hC
   refine .sr <| .yv (.lss rfl rfl) rfl <| .nt <| .sq <| .cd rfl (fun h85 => ?_) (fun h85 => ?_)
   ·try simp only [dt] at h85
    have hi : i < c.vers.length := by omega
    obtain ⟨bG, oG, cG, hpG, rG, lG, mG⟩ := g2.elem (map_at (f := dVs .i64) hi)
    cases hpG
    have okv := okc.all _ (List.getElem_mem hi)
    generalize hxv : c.vers[i] = v at rG okv
    obtain ⟨pv, cv, rfl, gv⟩ := vs_open rG
    have hcw := gv.cap
    refine .sk <| .tN <| .sq <| .bk <| .sr <| .yv (.indexSl Fx.sl89 rfl rfl (i := i) rfl hi (q := oG + i * 1) rfl) rfl <| .yv (.loadM rfl Fx.agg97 mG (k := 0) rfl rfl) rfl <| .a rfl rfl <| .ns <| .m rfl rfl <| .yv (.lenSl Fx.sl97 rfl) rfl <| .m rfl rfl <| .nt <| .bk <| .lp (X := Nat × Bool) [(55, _), (56, _), (57, _), (82, _), (83, _), (84, _), (88, _), (89, _)] ⟨rfl, rfl, rfl, rfl, rfl, rfl, rfl, rfl, trivial⟩ [_, _] (fun z => [(3, .bool z.2), (90, .int .i64 (z.1 : Nat))]) (fun z => H) (fun z => []) (fun z => z.1 ≤ v.length ∧ z.2 = (fg && (v.take z.1).all namH)) (fun z => v.length - z.1) (0, fg) (fun _ s => s) ⟨rfl, rfl, trivial⟩ ⟨by simp, by simp⟩ fun z hC => ?_
    obtain ⟨j, fh⟩ := z
    dsimp only at hC ⊢
    obtain ⟨hlej, hfh⟩ := hC
    refine .sr <| .yv (.lss rfl rfl) rfl <| .nt <| .sq <| .cd rfl (fun h91 => ?_) (fun h91 => ?_)
    ·try simp only [dt] at h91
     have hj : j < v.length := by omega
     obtain ⟨bI, oI, cI, hpI, rI, lI, mI⟩ := gv.elem (map_at (f := dHd .i64) hj)
     cases hpI
     have okh := okv.all _ (List.getElem_mem hj)
     generalize hxh : v[j] = y at rI okh
     obtain ⟨t1, w1, t2, w2, rfl, ny, m1, m2⟩ := hd_open rI
     have hcp := m1.cap
     refine .sk <| .tN <| .sq <| .bk <| .sr <| .yv (.indexSl Fx.sl97 rfl rfl rfl (by omega) (q := oI + j * 3) rfl) rfl <| .yv (.loadMW rfl Fx.agg100 mI rfl) rfl <| .al Fx.zero100 rfl fun b15 => .sW .head rfl rfl Fx.size100 (by simp [Value.oneCell', strV]) rfl <| .nt <| .cu (X := Bool) [(15, _), (55, _), (56, _), (57, _), (82, _), (83, _), (84, _), (88, _), (89, _), (90, _)] ⟨rfl, rfl, rfl, rfl, rfl, rfl, rfl, rfl, rfl, rfl, trivial⟩ (fun fi => [(3, .bool fi)]) (fun fi => H) (fun fi => [.box b15 [strV y.nm, .slice t1 y.ps.length w1, .slice t2 y.body.length w2] 100, .box b9 [strV c.nm, .slice q1 c.vars.length d1, .slice (some ⟨bG, oG, none⟩) c.vers.length d2] 91, .box b1 [strV f.nm, .slice p1 f.flags.length c1, .slice p2 f.links.length c2, .slice (some ⟨bE, oE, none⟩) f.comps.length c3] 32]) (fun fi => fi = (fh && nameB y.nm && Sm.alls namS y.body)) ?_ fun fi hC => ?_
     ·
      refine .rg <| .m rfl rfl <| .m rfl rfl <| .b2 (fun h95 => ?_) (fun h95 => ?_)
      ·try simp only [dt] at h95
       refine .gd rfl rfl <| .yv (.fieldAddr rfl Fx.field100_0) rfl <| .gd rfl rfl <| .yv (.load rfl Fx.agg9 (.head _) rfl) rfl <| .gd rfl rfl <| .yv (.call Fx.call68 rfl (fun W s => isNameR_any H y.nm ny W s.agr)) rfl <| .yv (.pickT rfl rfl) rfl <| .m rfl rfl <| .b2 (fun h100 => ?_) (fun h100 => ?_)
       ·try simp only [dt] at h100
        exact .gd rfl rfl <| .yv (.fieldAddr rfl Fx.field100_2) rfl <| .gd rfl rfl <| .yv (.load rfl Fx.agg98 (.head _) rfl) rfl <| .gd rfl rfl <| .yv (.call Fx.call69 rfl (fun W s => stmtNames_any N hN H y.body okh.body _ W m2 s.agr)) rfl <| .yv (.pickT rfl rfl) rfl <| .a rfl rfl <| .nt <| .me _ ⟨rfl, trivial⟩ ⟨rfl, rfl, rfl, rfl, rfl, rfl, rfl, rfl, rfl, rfl, trivial⟩ (fun _ s => s) (by simp_all)
       try simp only [df] at h100
       exact .gF rfl rfl rfl rfl <| .gF rfl rfl rfl rfl <| .gF rfl rfl rfl rfl <| .yv (.pickF rfl rfl) rfl <| .a rfl rfl <| .nt <| .me _ ⟨rfl, trivial⟩ ⟨rfl, rfl, rfl, rfl, rfl, rfl, rfl, rfl, rfl, rfl, trivial⟩ (fun _ s => s) (by simp_all)
      try simp only [df] at h95
      exact .gF rfl rfl rfl rfl <| .gF rfl rfl rfl rfl <| .gF rfl rfl rfl rfl <| .yv (.pickF rfl rfl) rfl <| .m rfl rfl <| .gF rfl rfl rfl rfl <| .gF rfl rfl rfl rfl <| .gF rfl rfl rfl rfl <| .yv (.pickF rfl rfl) rfl <| .a rfl rfl <| .nt <| .me _ ⟨rfl, trivial⟩ ⟨rfl, rfl, rfl, rfl, rfl, rfl, rfl, rfl, rfl, rfl, trivial⟩ (fun _ s => s) (by simp_all)
     have ei := hC
     refine .sr <| .yv (.fieldAddr rfl Fx.field100_1) rfl <| .yv (.load rfl Fx.agg66 (.head _) rfl) rfl <| .yv (.lenSl Fx.sl66 rfl) rfl <| .m rfl rfl <| .nt <| .bk <| .lp (X := Nat × Bool) [(55, _), (56, _), (57, _), (82, _), (83, _), (84, _), (88, _), (89, _), (90, _), (106, _), (107, _)] ⟨rfl, rfl, rfl, rfl, rfl, rfl, rfl, rfl, rfl, rfl, rfl, trivial⟩ [_, _, _] (fun z => [(3, .bool z.2), (108, .int .i64 (z.1 : Nat))]) (fun z => H) (fun z => []) (fun z => z.1 ≤ y.ps.length ∧ z.2 = (fi && (y.ps.take z.1).all nameB)) (fun z => y.ps.length - z.1) (0, fi) (fun _ s => s) ⟨rfl, rfl, trivial⟩ ⟨by simp, by simp⟩ fun z hC => ?_
     obtain ⟨m, fj⟩ := z
     dsimp only at hC ⊢
     obtain ⟨hlem, hfj⟩ := hC
     refine .sr <| .yv (.lss rfl rfl) rfl <| .nt <| .sq <| .cd rfl (fun h109 => ?_) (fun h109 => ?_)
     ·try simp only [dt] at h109
      have hm : m < y.ps.length := by omega
      obtain ⟨bP, oP, cP, hpP, rP, lP, mP⟩ := m1.elem (map_at (f := dStr) hm)
      cases hpP
      generalize hxp : y.ps[m] = s0 at rP
      obtain ⟨rfl, np⟩ := str_open rP
      refine .sk <| .tN <| .cu (X := Bool) [(55, _), (56, _), (57, _), (82, _), (83, _), (84, _), (88, _), (89, _), (90, _), (106, _), (107, _), (108, _)] ⟨rfl, rfl, rfl, rfl, rfl, rfl, rfl, rfl, rfl, rfl, rfl, rfl, trivial⟩ (fun z => [(3, .bool z)]) (fun z => H) (fun z => [.box b15 [strV y.nm, .slice (some ⟨bP, oP, none⟩) y.ps.length w1, .slice t2 y.body.length w2] 100, .box b9 [strV c.nm, .slice q1 c.vars.length d1, .slice (some ⟨bG, oG, none⟩) c.vers.length d2] 91, .box b1 [strV f.nm, .slice p1 f.flags.length c1, .slice p2 f.links.length c2, .slice (some ⟨bE, oE, none⟩) f.comps.length c3] 32]) (fun z => z = (fj && nameB s0)) ?_ fun z hC => ?_
      ·
       refine .bk <| .sr <| .yv (.indexSl Fx.sl66 rfl rfl (i := m) rfl hm (q := oP + m * 1) rfl) rfl <| .yv (.loadM rfl Fx.agg9 mP (k := 0) rfl rfl) rfl <| .a rfl rfl <| .nt <| .rg <| .m rfl rfl <| .m rfl rfl <| .b2 (fun h113 => ?_) (fun h113 => ?_)
       ·try simp only [dt] at h113
        exact .gd rfl rfl <| .yv (.move rfl) rfl <| .gd rfl rfl <| .yv (.call Fx.call68 rfl (fun W s => isNameR_any H s0 np W s.agr)) rfl <| .yv (.pickT rfl rfl) rfl <| .a rfl rfl <| .nl <| .bN <| .tN <| .me _ ⟨rfl, trivial⟩ ⟨rfl, rfl, rfl, rfl, rfl, rfl, rfl, rfl, rfl, rfl, rfl, rfl, trivial⟩ (fun _ s => s) (by simp_all)
       try simp only [df] at h113
       exact .gF rfl rfl rfl rfl <| .gF rfl rfl rfl rfl <| .yv (.pickF rfl rfl) rfl <| .a rfl rfl <| .nl <| .bN <| .tN <| .me _ ⟨rfl, trivial⟩ ⟨rfl, rfl, rfl, rfl, rfl, rfl, rfl, rfl, rfl, rfl, rfl, rfl, trivial⟩ (fun _ s => s) (by simp_all)
      have ek := hC
      exact .rg <| .yv (.add rfl rfl (w6 (by omega))) rfl <| .m rfl rfl <| .nt <| .ag (x := (m, fj)) (m + 1, z) ⟨rfl, rfl, trivial⟩ ⟨rfl, rfl, rfl, rfl, rfl, rfl, rfl, rfl, rfl, rfl, rfl, trivial⟩ (fun _ s => (s.pick [0, 1, 2] _ rfl rfl)) ⟨by dsimp only; omega, by dsimp only; rw [ek, hfj, lall_succ hm, hxp, Bool.and_assoc]⟩ (by dsimp only; omega)
     try simp only [df] at h109
     obtain rfl : m = y.ps.length := by omega
     rw [List.take_length] at hfj
     exact .ex <| .tE <| .tE <| .bE <| .bN <| .tN <| .rg <| .yv (.add rfl rfl (w6 (by omega))) rfl <| .m rfl rfl <| .nt <| .ag (x := (j, fh)) (j + 1, fj) ⟨rfl, rfl, trivial⟩ ⟨rfl, rfl, rfl, rfl, rfl, rfl, rfl, rfl, trivial⟩ (fun _ s => (s.pick [1, 2] _ rfl rfl)) ⟨by dsimp only; omega, by dsimp only; rw [hfj, ei, hfh, lall_succ hj, hxh, namH]; exact and_mix _ _ _ _ _⟩ (by dsimp only; omega)
    try simp only [df] at h91
    obtain rfl : j = v.length := by omega
    rw [List.take_length] at hfh
    exact .ex <| .tE <| .tE <| .bE <| .bN <| .tN <| .rg <| .yv (.add rfl rfl (w6 (by omega))) rfl <| .m rfl rfl <| .nt <| .ag (x := (i, fg)) (i + 1, fh) ⟨rfl, rfl, trivial⟩ ⟨rfl, rfl, rfl, rfl, rfl, trivial⟩ (fun _ s => (s.pick [0, 1] _ rfl rfl)) ⟨by dsimp only; omega, by dsimp only; rw [hfh, hfg, lall_succ hi, hxv, Bool.and_assoc]⟩ (by dsimp only; omega)
   try simp only [df] at h85
   obtain rfl : i = c.vers.length := by omega
   rw [List.take_length] at hfg
   exact .ex <| .tE <| .tE <| .bE <| .bN <| .tN <| .rg <| .yv (.add rfl rfl (w6 (by omega))) rfl <| .m rfl rfl <| .nt <| .ag (x := (k, fc)) (k + 1, fg) ⟨rfl, rfl, trivial⟩ ⟨rfl, rfl, trivial⟩ (fun _ s => (s.pick [1] _ rfl rfl)) ⟨by dsimp only; omega, by dsimp only; rw [hfg, hfe, ed, hfc, lall_succ hk, hx, okNmC]; simp only [Bool.and_assoc]⟩ (by dsimp only; omega)
  try simp only [df] at h58
  obtain rfl : k = f.comps.length := by omega
  rw [List.take_length] at hfc
  refine .ex <| .tE <| .tE <| .bE <| .tN <| .sr <| .m rfl rfl <| .a rfl rfl <| .nt <| .rt <| ?_
  refine Sx.ret1 (.inl rfl) rfl (.tmp rfl) fun W s => ⟨?_, s.ext⟩
  first
    | (rw [hfc, hfb, hfa, namF_eq])
theorem Fx.call28 : callN Tryz.prog 28 = Bool.true := by kernel_rfl
theorem Fx.call29 : callN Tryz.prog 29 = Bool.true := by kernel_rfl
theorem Fx.call30 : callN Tryz.prog 30 = Bool.true := by kernel_rfl
theorem Fx.call64 : callN Tryz.prog 64 = Bool.true := by kernel_rfl
theorem lkB_eq (x : Lk) : (!lkB x) = decide (x.lat.toInt < 1 ∨ 50 < x.lat.toInt) := by
  rw [Bool.eq_iff_iff]; simp only [lkB, Bool.not_eq_true', Bool.and_eq_false_iff, decide_eq_false_iff_not, decide_eq_true_eq]; omega
theorem frmV_eq (v : Vr) : (!frmV v) = decide (¬ ((v.ty.toNat = 1 ∧ v.init.toInt ≠ -9223372036854775808) ∨ (v.ty.toNat = 2 ∧ (v.init.toInt = 0 ∨ v.init.toInt = 1)) ∨ (v.ty.toNat = 3 ∧ v.init.toInt = 0))) := by
  have e1 : v.ty = 1 ↔ v.ty.toNat = 1 := ⟨fun e => by rw [e]; rfl, fun e => UInt8.toNat_inj.1 e⟩
  have e2 : v.ty = 2 ↔ v.ty.toNat = 2 := ⟨fun e => by rw [e]; rfl, fun e => UInt8.toNat_inj.1 e⟩
  have e3 : v.ty = 3 ↔ v.ty.toNat = 3 := ⟨fun e => by rw [e]; rfl, fun e => UInt8.toNat_inj.1 e⟩
  unfold frmV
  rw [Bool.eq_iff_iff]
  by_cases h1 : v.ty.toNat = 1
  · rw [if_pos (e1.2 h1)]; simp only [Bool.not_eq_true', decide_eq_false_iff_not, decide_eq_true_eq]; omega
  rw [if_neg (fun e => h1 (e1.1 e))]
  by_cases h2 : v.ty.toNat = 2
  · rw [if_pos (e2.2 h2)]; simp only [Bool.not_eq_true', decide_eq_false_iff_not, decide_eq_true_eq]; omega
  rw [if_neg (fun e => h2 (e2.1 e))]
  by_cases h3 : v.ty.toNat = 3
  · rw [if_pos (e3.2 h3)]; simp only [Bool.not_eq_true', decide_eq_false_iff_not, decide_eq_true_eq]; omega
  rw [if_neg (fun e => h3 (e3.1 e))]
  simp only [Bool.not_false, decide_eq_true_eq, true_iff]; omega
def okFmC (c : Cp) : Bool := c.vars.all frmV && c.vers.all fun v => v.all frmH
theorem frmF_eq (f : Ft) : frmF f = (f.links.all lkB && f.comps.all okFmC) := by
  have e : f.comps.all okFmC = ((f.comps.all fun c => c.vars.all frmV) && evH frmH f) := by
    rw [evH, ← all_and]; rfl
  rw [e, frmF, Bool.and_assoc]
set_option maxHeartbeats 2000000 in
set_option maxRecDepth 100000 in
theorem form_f (N : Nat) (hN : N ≤ 1000000) (H : Hp) (f : Ft) (hok : okFt N f) (cs : List Value) (w : World) (h : Rep H (dFt .i64 f) cs) (hA : Agr H w) :
    Calls Tryz.prog 30 #[.agg cs.toArray] w fun r w' => r = .returned (.bool (frmF f)) ∧ Ext w w' := by
  obtain ⟨p1, c1, p2, c2, p3, c3, rfl, n00, k1, k2, k3⟩ := ft_open h
  have hcap2 := k2.cap
  have hcap3 := k3.cap
  refine Sx.enter (H := H) Tryz.func30 rfl Tryz.ntmps30 rfl hA ?_
  refine .sr <| .bx rfl rfl rfl fun b1 => .a rfl rfl <| .nt <| .sq <| .sr <| .yv (.fieldAddr rfl Fx.field32_2) rfl <| .yv (.load rfl Fx.agg29 (.head _) rfl) rfl <| .yv (.lenSl Fx.sl29 rfl) rfl <| .m rfl rfl <| .nt <| .bk <| .lp (X := Nat) [(1, _), (14, _), (15, _)] ⟨rfl, rfl, rfl, trivial⟩ [_] (fun k => [(16, .int .i64 (k : Nat))]) (fun k => H) (fun k => []) (fun k => k ≤ f.links.length ∧ (f.links.take k).all lkB = true) (fun k => f.links.length - k) 0 (fun _ s => s) ⟨rfl, trivial⟩ ⟨by omega, rfl⟩ fun k hC => ?_
  obtain ⟨hlek, ha⟩ := hC
  refine .sr <| .yv (.lss rfl rfl) rfl <| .nt <| .sq <| .cd rfl (fun h17 => ?_) (fun h17 => ?_)
  ·try simp only [dt] at h17
   have hk : k < f.links.length := by omega
   obtain ⟨bE, oE, cE, hpE, rE, lE, mE⟩ := k2.elem (map_at (f := dLk) hk)
   cases hpE
   have hbd := fun h => lall_bad (q := lkB) hk h
   generalize hx : f.links[k] = x at rE hbd
   obtain ⟨rfl, nx, nx2⟩ := lk_open rE
   refine .sk <| .tN <| .sq <| .bk <| .sr <| .yv (.indexSl Fx.sl29 rfl rfl rfl (by omega) (q := oE + k * 3) rfl) rfl <| .yv (.loadMW rfl Fx.agg86 mE rfl) rfl <| .al Fx.zero86 rfl fun b4 => .sW .head rfl rfl Fx.size86 (by simp [Value.oneCell', strV]) rfl <| .nt <| .cu (X := Bool) [(1, _), (14, _), (15, _), (16, _)] ⟨rfl, rfl, rfl, rfl, trivial⟩ (fun z => [(27, .bool z)]) (fun z => H) (fun z => [.box b4 [strV x.fr, strV x.to, .int .i64 x.lat.toInt] 86, .box b1 [strV f.nm, .slice p1 f.flags.length c1, .slice (some ⟨bE, oE, none⟩) f.links.length c2, .slice p3 f.comps.length c3] 32]) (fun z => z = !lkB x) ?_ fun z hC => ?_
   ·
    refine .rg <| .yv (.fieldAddr rfl Fx.field86_2) rfl <| .yv (.load rfl Fx.agg3 (.head _) rfl) rfl <| .yv (.lss rfl rfl) rfl <| .m rfl rfl <| .b2 (fun h23 => ?_) (fun h23 => ?_)
    ·try simp only [dt] at h23
     exact .gF rfl rfl rfl rfl <| .gF rfl rfl rfl rfl <| .gF rfl rfl rfl rfl <| .yv (.pickT rfl rfl) rfl <| .nt <| .me _ ⟨rfl, trivial⟩ ⟨rfl, rfl, rfl, rfl, trivial⟩ (fun _ s => s) (by rw [lkB_eq]; first | exact dT (by omega) | exact dF (by omega) | exact dD (by omega))
    try simp only [df] at h23
    exact .gd rfl rfl <| .yv (.fieldAddr rfl Fx.field86_2) rfl <| .gd rfl rfl <| .yv (.load rfl Fx.agg3 (.head _) rfl) rfl <| .gd rfl rfl <| .yv (.gtr rfl rfl) rfl <| .yv (.pickF rfl rfl) rfl <| .nt <| .me _ ⟨rfl, trivial⟩ ⟨rfl, rfl, rfl, rfl, trivial⟩ (fun _ s => s) (by rw [lkB_eq]; first | exact dT (by omega) | exact dF (by omega) | exact dD (by omega))
   have e27 := hC
   refine .cd rfl (fun h27 => ?_) (fun h27 => ?_)
   ·try simp only [dt] at h27
    rw [h27] at e27
    have hz : frmF f = false := by rw [frmF, hbd (by simpa using e27.symm)]; rfl
    refine .sr <| .a rfl rfl <| .nt <| .rt <| .bR <| .tR <| .tR <| .bR <| .tR <| ?_
    refine Sx.ret1 (.inl rfl) rfl (.tmp rfl) fun W s => ⟨retB ?_, s.ext⟩
    first
      | (rw [hz])
      | (rw [frmF_eq, ha, hb]; simp)
   try simp only [df] at h27
   rw [h27] at e27
   have hgood : lkB x = true := by simpa using e27.symm
   exact .sk <| .bN <| .tN <| .rg <| .yv (.add rfl rfl (w6 (by omega))) rfl <| .m rfl rfl <| .nt <| .ag (k + 1) ⟨rfl, trivial⟩ ⟨rfl, rfl, rfl, trivial⟩ (fun _ s => (s.pick [1] _ rfl rfl)) ⟨by omega, by rw [lall_succ hk, hx, ha, hgood]; rfl⟩ (by omega)
  try simp only [df] at h17
  obtain rfl : k = f.links.length := by omega
  rw [List.take_length] at ha
  refine .ex <| .tE <| .tE <| .bE <| .tN <| .sq <| .sr <| .yv (.fieldAddr rfl Fx.field32_3) rfl <| .yv (.load rfl Fx.agg30 (.head _) rfl) rfl <| .yv (.lenSl Fx.sl30 rfl) rfl <| .m rfl rfl <| .nt <| .bk <| .lp (X := Nat) [(30, _), (31, _)] ⟨rfl, rfl, trivial⟩ [_] (fun k => [(32, .int .i64 (k : Nat))]) (fun k => H) (fun k => []) (fun k => k ≤ f.comps.length ∧ (f.comps.take k).all okFmC = true) (fun k => f.comps.length - k) 0 (fun _ s => s) ⟨rfl, trivial⟩ ⟨by omega, rfl⟩ fun k hC => ?_
  obtain ⟨hlek, hb⟩ := hC
  refine .sr <| .yv (.lss rfl rfl) rfl <| .nt <| .sq <| .cd rfl (fun h33 => ?_) (fun h33 => ?_)
  ·try simp only [dt] at h33
   have hk : k < f.comps.length := by omega
   have hbd := fun h => lall_bad (q := okFmC) hk h
   obtain ⟨bE, oE, cE, hpE, rE, lE, mE⟩ := k3.elem (map_at (f := dCp .i64) hk)
   cases hpE
   have okc := hok.all _ (List.getElem_mem hk)
   generalize hx : f.comps[k] = c at rE okc hbd
   obtain ⟨q1, d1, q2, d2, rfl, nc, g1, g2⟩ := cp_open rE
   have hcv := g1.cap
   have hcr := g2.cap
   refine .sk <| .tN <| .sq <| .bk <| .sr <| .yv (.indexSl Fx.sl30 rfl rfl rfl (by omega) (q := oE + k * 3) rfl) rfl <| .yv (.loadMW rfl Fx.agg91 mE rfl) rfl <| .al Fx.zero91 rfl fun b6 => .sW .head rfl rfl Fx.size91 (by simp [Value.oneCell', strV]) rfl <| .nt <| .sq <| .sr <| .yv (.fieldAddr rfl Fx.field91_1) rfl <| .yv (.load rfl Fx.agg88 (.head _) rfl) rfl <| .yv (.lenSl Fx.sl88 rfl) rfl <| .m rfl rfl <| .nt <| .bk <| .lp (X := Nat) [(6, _), (30, _), (31, _), (32, _), (37, _), (38, _)] ⟨rfl, rfl, rfl, rfl, rfl, rfl, trivial⟩ [_, _] (fun j => [(39, .int .i64 (j : Nat))]) (fun j => H) (fun j => []) (fun j => j ≤ c.vars.length ∧ (c.vars.take j).all frmV = true) (fun j => c.vars.length - j) 0 (fun _ s => s) ⟨rfl, trivial⟩ ⟨by omega, rfl⟩ fun j hC => ?_
   obtain ⟨hlej, hv⟩ := hC
   refine .sr <| .yv (.lss rfl rfl) rfl <| .nt <| .sq <| .cd rfl (fun h40 => ?_) (fun h40 => ?_)
   ·try simp only [dt] at h40
    have hj : j < c.vars.length := by omega
    obtain ⟨bF, oF, cF, hpF, rF, lF, mF⟩ := g1.elem (map_at (f := dVr .i64) hj)
    cases hpF
    have hbv := fun h => lall_bad (q := frmV) hj h
    generalize hxw : c.vars[j] = vr at rF hbv
    obtain ⟨rfl, nv⟩ := vr_open rF
    have htl := vr.ty.toNat_lt
    refine .sk <| .tN <| .sq <| .bk <| .sr <| .yv (.indexSl Fx.sl88 rfl rfl rfl (by omega) (q := oF + j * 3) rfl) rfl <| .yv (.loadMW rfl Fx.agg93 mF rfl) rfl <| .al Fx.zero93 rfl fun b8 => .sW .head rfl rfl Fx.size93 (by simp [Value.oneCell', strV]) rfl <| .nt <| .cu (X := Bool) [(6, _), (30, _), (31, _), (32, _), (37, _), (38, _), (39, _)] ⟨rfl, rfl, rfl, rfl, rfl, rfl, rfl, trivial⟩ (fun z => [(85, .bool z)]) (fun z => H) (fun z => [.box b8 [strV vr.nm, .int .i64 vr.ty.toNat, .int .i64 vr.init.toInt] 93, .box b6 [strV c.nm, .slice (some ⟨bF, oF, none⟩) c.vars.length d1, .slice q2 c.vers.length d2] 91, .box b1 [strV f.nm, .slice p1 f.flags.length c1, .slice p2 f.links.length c2, .slice (some ⟨bE, oE, none⟩) f.comps.length c3] 32]) (fun z => z = !frmV vr) ?_ fun z hC => ?_
    ·
     refine .rg <| .yv (.fieldAddr rfl Fx.field93_1) rfl <| .yv (.load rfl Fx.agg3 (.head _) rfl) rfl <| .yv (.lss rfl rfl) rfl <| .m rfl rfl <| .b2 (fun h46 => ?_) (fun h46 => ?_)
     ·try simp only [dt] at h46
      exact .gF rfl rfl rfl rfl <| .gF rfl rfl rfl rfl <| .gF rfl rfl rfl rfl <| .yv (.pickT rfl rfl) rfl <| .m rfl rfl <| .gF rfl rfl rfl rfl <| .gF rfl rfl rfl rfl <| .gF rfl rfl rfl rfl <| .gF rfl rfl rfl rfl <| .gU rfl rfl rfl <| .gU rfl rfl rfl <| .gU rfl rfl rfl <| .gF rfl rfl rfl rfl <| .yv (.pickT rfl rfl) rfl <| .m rfl rfl <| .gF rfl rfl rfl rfl <| .gF rfl rfl rfl rfl <| .gF rfl rfl rfl rfl <| .gF rfl rfl rfl rfl <| .gU rfl rfl rfl <| .gU rfl rfl rfl <| .gU rfl rfl rfl <| .gU rfl rfl rfl <| .gU rfl rfl rfl <| .gU rfl rfl rfl <| .gU rfl rfl rfl <| .gU rfl rfl rfl <| .gF rfl rfl rfl rfl <| .yv (.pickT rfl rfl) rfl <| .m rfl rfl <| .gF rfl rfl rfl rfl <| .gF rfl rfl rfl rfl <| .gF rfl rfl rfl rfl <| .gF rfl rfl rfl rfl <| .gU rfl rfl rfl <| .gU rfl rfl rfl <| .gU rfl rfl rfl <| .gF rfl rfl rfl rfl <| .yv (.pickT rfl rfl) rfl <| .nt <| .me _ ⟨rfl, trivial⟩ ⟨rfl, rfl, rfl, rfl, rfl, rfl, rfl, trivial⟩ (fun _ s => s) (by rw [frmV_eq]; first | exact dT (by omega) | exact dF (by omega) | exact dD (by omega))
     try simp only [df] at h46
     refine .gd rfl rfl <| .yv (.fieldAddr rfl Fx.field93_1) rfl <| .gd rfl rfl <| .yv (.load rfl Fx.agg3 (.head _) rfl) rfl <| .gd rfl rfl <| .yv (.gtr rfl rfl) rfl <| .yv (.pickF rfl rfl) rfl <| .m rfl rfl <| .b2 (fun h51 => ?_) (fun h51 => ?_)
     ·try simp only [dt] at h51
      exact .gF rfl rfl rfl rfl <| .gF rfl rfl rfl rfl <| .gF rfl rfl rfl rfl <| .gF rfl rfl rfl rfl <| .gU rfl rfl rfl <| .gU rfl rfl rfl <| .gU rfl rfl rfl <| .gF rfl rfl rfl rfl <| .yv (.pickT rfl rfl) rfl <| .m rfl rfl <| .gF rfl rfl rfl rfl <| .gF rfl rfl rfl rfl <| .gF rfl rfl rfl rfl <| .gF rfl rfl rfl rfl <| .gU rfl rfl rfl <| .gU rfl rfl rfl <| .gU rfl rfl rfl <| .gU rfl rfl rfl <| .gU rfl rfl rfl <| .gU rfl rfl rfl <| .gU rfl rfl rfl <| .gU rfl rfl rfl <| .gF rfl rfl rfl rfl <| .yv (.pickT rfl rfl) rfl <| .m rfl rfl <| .gF rfl rfl rfl rfl <| .gF rfl rfl rfl rfl <| .gF rfl rfl rfl rfl <| .gF rfl rfl rfl rfl <| .gU rfl rfl rfl <| .gU rfl rfl rfl <| .gU rfl rfl rfl <| .gF rfl rfl rfl rfl <| .yv (.pickT rfl rfl) rfl <| .nt <| .me _ ⟨rfl, trivial⟩ ⟨rfl, rfl, rfl, rfl, rfl, rfl, rfl, trivial⟩ (fun _ s => s) (by rw [frmV_eq]; first | exact dT (by omega) | exact dF (by omega) | exact dD (by omega))
     try simp only [df] at h51
     refine .gd rfl rfl <| .yv (.fieldAddr rfl Fx.field93_1) rfl <| .gd rfl rfl <| .yv (.load rfl Fx.agg3 (.head _) rfl) rfl <| .gd rfl rfl <| .yv (.eql rfl rfl) rfl <| .gd rfl rfl <| .yv (.move rfl) rfl <| .b2 (fun h55 => ?_) (fun h55 => ?_)
     ·try simp only [dt] at h55
      refine .gd rfl rfl <| .yv (.fieldAddr rfl Fx.field93_2) rfl <| .gd rfl rfl <| .yv (.load rfl Fx.agg2 (.head _) rfl) rfl <| .gd rfl rfl <| .yv (.eql rfl rfl) rfl <| .gd rfl rfl <| .yv (.pickT rfl rfl) rfl <| .yv (.pickF rfl rfl) rfl <| .m rfl rfl <| .b2 (fun h61 => ?_) (fun h61 => ?_)
      ·try simp only [dt] at h61
       exact .gF rfl rfl rfl rfl <| .gF rfl rfl rfl rfl <| .gF rfl rfl rfl rfl <| .gF rfl rfl rfl rfl <| .gU rfl rfl rfl <| .gU rfl rfl rfl <| .gU rfl rfl rfl <| .gU rfl rfl rfl <| .gU rfl rfl rfl <| .gU rfl rfl rfl <| .gU rfl rfl rfl <| .gU rfl rfl rfl <| .gF rfl rfl rfl rfl <| .yv (.pickT rfl rfl) rfl <| .m rfl rfl <| .gF rfl rfl rfl rfl <| .gF rfl rfl rfl rfl <| .gF rfl rfl rfl rfl <| .gF rfl rfl rfl rfl <| .gU rfl rfl rfl <| .gU rfl rfl rfl <| .gU rfl rfl rfl <| .gF rfl rfl rfl rfl <| .yv (.pickT rfl rfl) rfl <| .nt <| .me _ ⟨rfl, trivial⟩ ⟨rfl, rfl, rfl, rfl, rfl, rfl, rfl, trivial⟩ (fun _ s => s) (by rw [frmV_eq]; first | exact dT (by omega) | exact dF (by omega) | exact dD (by omega))
      try simp only [df] at h61
      refine .gd rfl rfl <| .yv (.fieldAddr rfl Fx.field93_1) rfl <| .gd rfl rfl <| .yv (.load rfl Fx.agg3 (.head _) rfl) rfl <| .gd rfl rfl <| .yv (.eql rfl rfl) rfl <| .gd rfl rfl <| .yv (.move rfl) rfl <| .b2 (fun h65 => ?_) (fun h65 => ?_)
      ·try simp only [dt] at h65
       refine .gd rfl rfl <| .yv (.fieldAddr rfl Fx.field93_2) rfl <| .gd rfl rfl <| .yv (.load rfl Fx.agg2 (.head _) rfl) rfl <| .gd rfl rfl <| .yv (.lss rfl rfl) rfl <| .gd rfl rfl <| .yv (.move rfl) rfl <| .b2 (fun h69 => ?_) (fun h69 => ?_)
       ·try simp only [dt] at h69
        exact .gF rfl rfl rfl rfl <| .gF rfl rfl rfl rfl <| .gF rfl rfl rfl rfl <| .gd rfl rfl <| .yv (.pickT rfl rfl) rfl <| .gd rfl rfl <| .yv (.pickT rfl rfl) rfl <| .yv (.pickF rfl rfl) rfl <| .m rfl rfl <| .gF rfl rfl rfl rfl <| .gF rfl rfl rfl rfl <| .gF rfl rfl rfl rfl <| .gF rfl rfl rfl rfl <| .gU rfl rfl rfl <| .gU rfl rfl rfl <| .gU rfl rfl rfl <| .gF rfl rfl rfl rfl <| .yv (.pickT rfl rfl) rfl <| .nt <| .me _ ⟨rfl, trivial⟩ ⟨rfl, rfl, rfl, rfl, rfl, rfl, rfl, trivial⟩ (fun _ s => s) (by rw [frmV_eq]; first | exact dT (by omega) | exact dF (by omega) | exact dD (by omega))
       try simp only [df] at h69
       refine .gd rfl rfl <| .yv (.fieldAddr rfl Fx.field93_2) rfl <| .gd rfl rfl <| .yv (.load rfl Fx.agg2 (.head _) rfl) rfl <| .gd rfl rfl <| .yv (.gtr rfl rfl) rfl <| .gd rfl rfl <| .yv (.pickF rfl rfl) rfl <| .gd rfl rfl <| .yv (.pickT rfl rfl) rfl <| .yv (.pickF rfl rfl) rfl <| .m rfl rfl <| .b2 (fun h76 => ?_) (fun h76 => ?_)
       ·try simp only [dt] at h76
        exact .gF rfl rfl rfl rfl <| .gF rfl rfl rfl rfl <| .gF rfl rfl rfl rfl <| .gF rfl rfl rfl rfl <| .gU rfl rfl rfl <| .gU rfl rfl rfl <| .gU rfl rfl rfl <| .gF rfl rfl rfl rfl <| .yv (.pickT rfl rfl) rfl <| .nt <| .me _ ⟨rfl, trivial⟩ ⟨rfl, rfl, rfl, rfl, rfl, rfl, rfl, trivial⟩ (fun _ s => s) (by rw [frmV_eq]; first | exact dT (by omega) | exact dF (by omega) | exact dD (by omega))
       try simp only [df] at h76
       refine .gd rfl rfl <| .yv (.fieldAddr rfl Fx.field93_1) rfl <| .gd rfl rfl <| .yv (.load rfl Fx.agg3 (.head _) rfl) rfl <| .gd rfl rfl <| .yv (.eql rfl rfl) rfl <| .gd rfl rfl <| .yv (.move rfl) rfl <| .b2 (fun h80 => ?_) (fun h80 => ?_)
       ·try simp only [dt] at h80
        exact .gd rfl rfl <| .yv (.fieldAddr rfl Fx.field93_2) rfl <| .gd rfl rfl <| .yv (.load rfl Fx.agg2 (.head _) rfl) rfl <| .gd rfl rfl <| .yv (.neq rfl rfl) rfl <| .gd rfl rfl <| .yv (.pickT rfl rfl) rfl <| .yv (.pickF rfl rfl) rfl <| .nt <| .me _ ⟨rfl, trivial⟩ ⟨rfl, rfl, rfl, rfl, rfl, rfl, rfl, trivial⟩ (fun _ s => s) (by rw [frmV_eq]; first | exact dT (by omega) | exact dF (by omega) | exact dD (by omega))
       try simp only [df] at h80
       exact .gF rfl rfl rfl rfl <| .gF rfl rfl rfl rfl <| .gF rfl rfl rfl rfl <| .gd rfl rfl <| .yv (.pickF rfl rfl) rfl <| .yv (.pickF rfl rfl) rfl <| .nt <| .me _ ⟨rfl, trivial⟩ ⟨rfl, rfl, rfl, rfl, rfl, rfl, rfl, trivial⟩ (fun _ s => s) (by rw [frmV_eq]; first | exact dT (by omega) | exact dF (by omega) | exact dD (by omega))
      try simp only [df] at h65
      refine .gF rfl rfl rfl rfl <| .gF rfl rfl rfl rfl <| .gF rfl rfl rfl rfl <| .gF rfl rfl rfl rfl <| .gU rfl rfl rfl <| .gU rfl rfl rfl <| .gU rfl rfl rfl <| .gF rfl rfl rfl rfl <| .gd rfl rfl <| .yv (.pickF rfl rfl) rfl <| .yv (.pickF rfl rfl) rfl <| .m rfl rfl <| .gd rfl rfl <| .yv (.fieldAddr rfl Fx.field93_1) rfl <| .gd rfl rfl <| .yv (.load rfl Fx.agg3 (.head _) rfl) rfl <| .gd rfl rfl <| .yv (.eql rfl rfl) rfl <| .gd rfl rfl <| .yv (.move rfl) rfl <| .b2 (fun h80 => ?_) (fun h80 => ?_)
      ·try simp only [dt] at h80
       exact .gd rfl rfl <| .yv (.fieldAddr rfl Fx.field93_2) rfl <| .gd rfl rfl <| .yv (.load rfl Fx.agg2 (.head _) rfl) rfl <| .gd rfl rfl <| .yv (.neq rfl rfl) rfl <| .gd rfl rfl <| .yv (.pickT rfl rfl) rfl <| .yv (.pickF rfl rfl) rfl <| .nt <| .me _ ⟨rfl, trivial⟩ ⟨rfl, rfl, rfl, rfl, rfl, rfl, rfl, trivial⟩ (fun _ s => s) (by rw [frmV_eq]; first | exact dT (by omega) | exact dF (by omega) | exact dD (by omega))
      try simp only [df] at h80
      exact .gF rfl rfl rfl rfl <| .gF rfl rfl rfl rfl <| .gF rfl rfl rfl rfl <| .gd rfl rfl <| .yv (.pickF rfl rfl) rfl <| .yv (.pickF rfl rfl) rfl <| .nt <| .me _ ⟨rfl, trivial⟩ ⟨rfl, rfl, rfl, rfl, rfl, rfl, rfl, trivial⟩ (fun _ s => s) (by rw [frmV_eq]; first | exact dT (by omega) | exact dF (by omega) | exact dD (by omega))
     try simp only [df] at h55
     refine .gF rfl rfl rfl rfl <| .gF rfl rfl rfl rfl <| .gF rfl rfl rfl rfl <| .gd rfl rfl <| .yv (.pickF rfl rfl) rfl <| .yv (.pickF rfl rfl) rfl <| .m rfl rfl <| .gd rfl rfl <| .yv (.fieldAddr rfl Fx.field93_1) rfl <| .gd rfl rfl <| .yv (.load rfl Fx.agg3 (.head _) rfl) rfl <| .gd rfl rfl <| .yv (.eql rfl rfl) rfl <| .gd rfl rfl <| .yv (.move rfl) rfl <| .b2 (fun h65 => ?_) (fun h65 => ?_)
     ·try simp only [dt] at h65
      refine .gd rfl rfl <| .yv (.fieldAddr rfl Fx.field93_2) rfl <| .gd rfl rfl <| .yv (.load rfl Fx.agg2 (.head _) rfl) rfl <| .gd rfl rfl <| .yv (.lss rfl rfl) rfl <| .gd rfl rfl <| .yv (.move rfl) rfl <| .b2 (fun h69 => ?_) (fun h69 => ?_)
      ·try simp only [dt] at h69
       exact .gF rfl rfl rfl rfl <| .gF rfl rfl rfl rfl <| .gF rfl rfl rfl rfl <| .gd rfl rfl <| .yv (.pickT rfl rfl) rfl <| .gd rfl rfl <| .yv (.pickT rfl rfl) rfl <| .yv (.pickF rfl rfl) rfl <| .m rfl rfl <| .gF rfl rfl rfl rfl <| .gF rfl rfl rfl rfl <| .gF rfl rfl rfl rfl <| .gF rfl rfl rfl rfl <| .gU rfl rfl rfl <| .gU rfl rfl rfl <| .gU rfl rfl rfl <| .gF rfl rfl rfl rfl <| .yv (.pickT rfl rfl) rfl <| .nt <| .me _ ⟨rfl, trivial⟩ ⟨rfl, rfl, rfl, rfl, rfl, rfl, rfl, trivial⟩ (fun _ s => s) (by rw [frmV_eq]; first | exact dT (by omega) | exact dF (by omega) | exact dD (by omega))
      try simp only [df] at h69
      refine .gd rfl rfl <| .yv (.fieldAddr rfl Fx.field93_2) rfl <| .gd rfl rfl <| .yv (.load rfl Fx.agg2 (.head _) rfl) rfl <| .gd rfl rfl <| .yv (.gtr rfl rfl) rfl <| .gd rfl rfl <| .yv (.pickF rfl rfl) rfl <| .gd rfl rfl <| .yv (.pickT rfl rfl) rfl <| .yv (.pickF rfl rfl) rfl <| .m rfl rfl <| .b2 (fun h76 => ?_) (fun h76 => ?_)
      ·try simp only [dt] at h76
       exact .gF rfl rfl rfl rfl <| .gF rfl rfl rfl rfl <| .gF rfl rfl rfl rfl <| .gF rfl rfl rfl rfl <| .gU rfl rfl rfl <| .gU rfl rfl rfl <| .gU rfl rfl rfl <| .gF rfl rfl rfl rfl <| .yv (.pickT rfl rfl) rfl <| .nt <| .me _ ⟨rfl, trivial⟩ ⟨rfl, rfl, rfl, rfl, rfl, rfl, rfl, trivial⟩ (fun _ s => s) (by rw [frmV_eq]; first | exact dT (by omega) | exact dF (by omega) | exact dD (by omega))
      try simp only [df] at h76
      refine .gd rfl rfl <| .yv (.fieldAddr rfl Fx.field93_1) rfl <| .gd rfl rfl <| .yv (.load rfl Fx.agg3 (.head _) rfl) rfl <| .gd rfl rfl <| .yv (.eql rfl rfl) rfl <| .gd rfl rfl <| .yv (.move rfl) rfl <| .b2 (fun h80 => ?_) (fun h80 => ?_)
      ·try simp only [dt] at h80
       exact .gd rfl rfl <| .yv (.fieldAddr rfl Fx.field93_2) rfl <| .gd rfl rfl <| .yv (.load rfl Fx.agg2 (.head _) rfl) rfl <| .gd rfl rfl <| .yv (.neq rfl rfl) rfl <| .gd rfl rfl <| .yv (.pickT rfl rfl) rfl <| .yv (.pickF rfl rfl) rfl <| .nt <| .me _ ⟨rfl, trivial⟩ ⟨rfl, rfl, rfl, rfl, rfl, rfl, rfl, trivial⟩ (fun _ s => s) (by rw [frmV_eq]; first | exact dT (by omega) | exact dF (by omega) | exact dD (by omega))
      try simp only [df] at h80
      exact .gF rfl rfl rfl rfl <| .gF rfl rfl rfl rfl <| .gF rfl rfl rfl rfl <| .gd rfl rfl <| .yv (.pickF rfl rfl) rfl <| .yv (.pickF rfl rfl) rfl <| .nt <| .me _ ⟨rfl, trivial⟩ ⟨rfl, rfl, rfl, rfl, rfl, rfl, rfl, trivial⟩ (fun _ s => s) (by rw [frmV_eq]; first | exact dT (by omega) | exact dF (by omega) | exact dD (by omega))
     try simp only [df] at h65
     refine .gF rfl rfl rfl rfl <| .gF rfl rfl rfl rfl <| .gF rfl rfl rfl rfl <| .gF rfl rfl rfl rfl <| .gU rfl rfl rfl <| .gU rfl rfl rfl <| .gU rfl rfl rfl <| .gF rfl rfl rfl rfl <| .gd rfl rfl <| .yv (.pickF rfl rfl) rfl <| .yv (.pickF rfl rfl) rfl <| .m rfl rfl <| .gd rfl rfl <| .yv (.fieldAddr rfl Fx.field93_1) rfl <| .gd rfl rfl <| .yv (.load rfl Fx.agg3 (.head _) rfl) rfl <| .gd rfl rfl <| .yv (.eql rfl rfl) rfl <| .gd rfl rfl <| .yv (.move rfl) rfl <| .b2 (fun h80 => ?_) (fun h80 => ?_)
     ·try simp only [dt] at h80
      exact .gd rfl rfl <| .yv (.fieldAddr rfl Fx.field93_2) rfl <| .gd rfl rfl <| .yv (.load rfl Fx.agg2 (.head _) rfl) rfl <| .gd rfl rfl <| .yv (.neq rfl rfl) rfl <| .gd rfl rfl <| .yv (.pickT rfl rfl) rfl <| .yv (.pickF rfl rfl) rfl <| .nt <| .me _ ⟨rfl, trivial⟩ ⟨rfl, rfl, rfl, rfl, rfl, rfl, rfl, trivial⟩ (fun _ s => s) (by rw [frmV_eq]; first | exact dT (by omega) | exact dF (by omega) | exact dD (by omega))
     try simp only [df] at h80
     exact .gF rfl rfl rfl rfl <| .gF rfl rfl rfl rfl <| .gF rfl rfl rfl rfl <| .gd rfl rfl <| .yv (.pickF rfl rfl) rfl <| .yv (.pickF rfl rfl) rfl <| .nt <| .me _ ⟨rfl, trivial⟩ ⟨rfl, rfl, rfl, rfl, rfl, rfl, rfl, trivial⟩ (fun _ s => s) (by rw [frmV_eq]; first | exact dT (by omega) | exact dF (by omega) | exact dD (by omega))
    have e85 := hC
    refine .cd rfl (fun h85 => ?_) (fun h85 => ?_)
    ·try simp only [dt] at h85
     rw [h85] at e85
     have hz : frmF f = false := by rw [frmF_eq, hbd (by rw [okFmC, hbv (by simpa using e85.symm)]; rfl), Bool.and_false]
     refine .sr <| .a rfl rfl <| .nt <| .rt <| .bR <| .tR <| .tR <| .bR <| .tR <| .bR <| .tR <| .tR <| .bR <| .tR <| ?_
     refine Sx.ret1 (.inl rfl) rfl (.tmp rfl) fun W s => ⟨retB ?_, s.ext⟩
     first
       | (rw [hz])
       | (rw [frmF_eq, ha, hb]; simp)
    try simp only [df] at h85
    rw [h85] at e85
    have hgv : frmV vr = true := by simpa using e85.symm
    exact .sk <| .bN <| .tN <| .rg <| .yv (.add rfl rfl (w6 (by omega))) rfl <| .m rfl rfl <| .nt <| .ag (j + 1) ⟨rfl, trivial⟩ ⟨rfl, rfl, rfl, rfl, rfl, rfl, trivial⟩ (fun _ s => (s.pick [1, 2] _ rfl rfl)) ⟨by omega, by rw [lall_succ hj, hxw, hv, hgv]; rfl⟩ (by omega)
   try simp only [df] at h40
   obtain rfl : j = c.vars.length := by omega
   rw [List.take_length] at hv
   refine .ex <| .tE <| .tE <| .bE <| .tN <| .sr <| .yv (.fieldAddr rfl Fx.field91_2) rfl <| .yv (.load rfl Fx.agg89 (.head _) rfl) rfl <| .yv (.lenSl Fx.sl89 rfl) rfl <| .m rfl rfl <| .nt <| .bk <| .lp (X := Nat) [(30, _), (31, _), (32, _), (88, _), (89, _)] ⟨rfl, rfl, rfl, rfl, rfl, trivial⟩ [_, _] (fun i => [(90, .int .i64 (i : Nat))]) (fun i => H) (fun i => []) (fun i => i ≤ c.vers.length ∧ (c.vers.take i).all (fun v => v.all frmH) = true) (fun i => c.vers.length - i) 0 (fun _ s => s) ⟨rfl, trivial⟩ ⟨by omega, rfl⟩ fun i hC => ?_
   obtain ⟨hlei, hh⟩ := hC
   refine .sr <| .yv (.lss rfl rfl) rfl <| .nt <| .sq <| .cd rfl (fun h91 => ?_) (fun h91 => ?_)
   ·try simp only [dt] at h91
    have hi : i < c.vers.length := by omega
    have hbw := fun h => lall_bad (q := fun v : List Hd => v.all frmH) hi h
    obtain ⟨bG, oG, cG, hpG, rG, lG, mG⟩ := g2.elem (map_at (f := dVs .i64) hi)
    cases hpG
    have okv := okc.all _ (List.getElem_mem hi)
    generalize hxv : c.vers[i] = v at rG okv hbw
    obtain ⟨pv, cv, rfl, gv⟩ := vs_open rG
    have hcw := gv.cap
    refine .sk <| .tN <| .sq <| .bk <| .sr <| .yv (.indexSl Fx.sl89 rfl rfl (i := i) rfl hi (q := oG + i * 1) rfl) rfl <| .yv (.loadM rfl Fx.agg97 mG (k := 0) rfl rfl) rfl <| .a rfl rfl <| .ns <| .m rfl rfl <| .yv (.lenSl Fx.sl97 rfl) rfl <| .m rfl rfl <| .nt <| .bk <| .lp (X := Nat) [(30, _), (31, _), (32, _), (88, _), (89, _), (90, _), (94, _), (95, _)] ⟨rfl, rfl, rfl, rfl, rfl, rfl, rfl, rfl, trivial⟩ [_, _] (fun j => [(96, .int .i64 (j : Nat))]) (fun j => H) (fun j => []) (fun j => j ≤ v.length ∧ (v.take j).all frmH = true) (fun j => v.length - j) 0 (fun _ s => s) ⟨rfl, trivial⟩ ⟨by omega, rfl⟩ fun j hC => ?_
    obtain ⟨hlej, hr⟩ := hC
    refine .sr <| .yv (.lss rfl rfl) rfl <| .nt <| .sq <| .cd rfl (fun h97 => ?_) (fun h97 => ?_)
    ·try simp only [dt] at h97
     have hj : j < v.length := by omega
     have hby := fun h => lall_bad (q := frmH) hj h
     obtain ⟨bI, oI, cI, hpI, rI, lI, mI⟩ := gv.elem (map_at (f := dHd .i64) hj)
     cases hpI
     have okh := okv.all _ (List.getElem_mem hj)
     generalize hxh : v[j] = y at rI okh hby
     obtain ⟨t1, w1, t2, w2, rfl, ny, m1, m2⟩ := hd_open rI
     refine .sk <| .tN <| .sq <| .bk <| .sr <| .yv (.indexSl Fx.sl97 rfl rfl rfl (by omega) (q := oI + j * 3) rfl) rfl <| .yv (.loadMW rfl Fx.agg100 mI rfl) rfl <| .al Fx.zero100 rfl fun b12 => .sW .head rfl rfl Fx.size100 (by simp [Value.oneCell', strV]) rfl <| .ns <| .yv (.fieldAddr rfl Fx.field100_2) rfl <| .yv (.load rfl Fx.agg98 (.head _) rfl) rfl <| .yv (.call Fx.call70 rfl (fun W s => stmtForm_any N hN H y.body okh.body _ W m2 s.agr)) rfl <| .yv (.not rfl) rfl <| .nt <| .cd rfl (fun h103 => ?_) (fun h103 => ?_)
     ·try simp only [dt] at h103
      have hfy : frmH y = false := by simpa [frmH] using h103
      have hz : frmF f = false := by rw [frmF_eq, hbd (by rw [okFmC, hv, hbw (hby hfy)]; rfl), Bool.and_false]
      refine .sr <| .a rfl rfl <| .nt <| .rt <| .bR <| .tR <| .tR <| .bR <| .bR <| .tR <| .tR <| .bR <| .bR <| .tR <| .tR <| .bR <| .tR <| ?_
      refine Sx.ret1 (.inl rfl) rfl (.tmp rfl) fun W s => ⟨retB ?_, s.ext⟩
      first
        | (rw [hz])
        | (rw [frmF_eq, ha, hb]; simp)
     try simp only [df] at h103
     have hgh : frmH y = true := by simpa [frmH] using h103
     exact .sk <| .bN <| .tN <| .rg <| .yv (.add rfl rfl (w6 (by omega))) rfl <| .m rfl rfl <| .nt <| .ag (j + 1) ⟨rfl, trivial⟩ ⟨rfl, rfl, rfl, rfl, rfl, rfl, rfl, rfl, trivial⟩ (fun _ s => (s.pick [1, 2] _ rfl rfl)) ⟨by omega, by rw [lall_succ hj, hxh, hr, hgh]; rfl⟩ (by omega)
    try simp only [df] at h97
    obtain rfl : j = v.length := by omega
    rw [List.take_length] at hr
    exact .ex <| .tE <| .tE <| .bE <| .bN <| .tN <| .rg <| .yv (.add rfl rfl (w6 (by omega))) rfl <| .m rfl rfl <| .nt <| .ag (i + 1) ⟨rfl, trivial⟩ ⟨rfl, rfl, rfl, rfl, rfl, trivial⟩ (fun _ s => (s.pick [0, 1] _ rfl rfl)) ⟨by omega, by rw [lall_succ hi, hxv, hh, hr]; rfl⟩ (by omega)
   try simp only [df] at h91
   obtain rfl : i = c.vers.length := by omega
   rw [List.take_length] at hh
   exact .ex <| .tE <| .tE <| .bE <| .bN <| .tN <| .rg <| .yv (.add rfl rfl (w6 (by omega))) rfl <| .m rfl rfl <| .nt <| .ag (k + 1) ⟨rfl, trivial⟩ ⟨rfl, rfl, trivial⟩ (fun _ s => (s.pick [1] _ rfl rfl)) ⟨by omega, by rw [lall_succ hk, hx, hb, okFmC, hv, hh]; rfl⟩ (by omega)
  try simp only [df] at h33
  obtain rfl : k = f.comps.length := by omega
  rw [List.take_length] at hb
  refine .ex <| .tE <| .tE <| .bE <| .tN <| .sr <| .a rfl rfl <| .nt <| .rt <| ?_
  refine Sx.ret1 (.inl rfl) rfl (.tmp rfl) fun W s => ⟨retB ?_, s.ext⟩
  first
    | (rw [hz])
    | (rw [frmF_eq, ha, hb]; simp)
theorem limF_eq (f : Ft) : (!limF f) = decide (f.comps.length < 1 ∨ 8 < f.comps.length ∨ 8 < f.flags.length ∨ 64 < f.links.length) := by
  rw [Bool.eq_iff_iff]; simp only [limF, Bool.not_eq_true', Bool.and_eq_false_iff, decide_eq_false_iff_not, decide_eq_true_eq]; omega
theorem smlC_eq (c : Cp) : (!smlC c) = decide (8 < c.vars.length ∨ c.vers.length < 1 ∨ 3 < c.vers.length ∨ 8 < (namesOf c).length) := by
  rw [Bool.eq_iff_iff]; simp only [smlC, Bool.not_eq_true', Bool.and_eq_false_iff, decide_eq_false_iff_not, decide_eq_true_eq]; omega
theorem smaH_bad {y : Hd} (h : 4 < y.ps.length ∨ 40 < Sm.counts y.body ∨ 8 < Sm.deeps y.body) : true = !smaH y := by
  rw [smaH]
  have e : (decide (4 < y.ps.length) || decide (40 < Sm.counts y.body) || decide (8 < Sm.deeps y.body)) = true := by
    simp only [Bool.or_eq_true, decide_eq_true_eq]; omega
  rw [e]; rfl
theorem smaH_good {y : Hd} (h : ¬ 4 < y.ps.length ∧ ¬ 40 < Sm.counts y.body ∧ ¬ 8 < Sm.deeps y.body) : (!Sm.alls smaS y.body) = !smaH y := by
  rw [smaH]
  have e : (decide (4 < y.ps.length) || decide (40 < Sm.counts y.body) || decide (8 < Sm.deeps y.body)) = false := by
    simp only [Bool.or_eq_false_iff, decide_eq_false_iff_not]; omega
  rw [e]; simp
def okSmC (c : Cp) : Bool := smlC c && c.vers.all fun v => v.all smaH
theorem smlF_eq (f : Ft) : smlF f = (limF f && f.comps.all okSmC) := by
  have e : f.comps.all okSmC = (f.comps.all smlC && evH smaH f) := by
    rw [evH, ← all_and]; rfl
  rw [e, smlF]
set_option maxHeartbeats 2000000 in
set_option maxRecDepth 100000 in
theorem limits_f (N : Nat) (hN : N ≤ 100000) (H : Hp) (f : Ft) (hok : okFt N f) (cs : List Value) (w : World) (h : Rep H (dFt .i64 f) cs) (hA : Agr H w) :
    Calls Tryz.prog 28 #[.agg cs.toArray] w fun r w' => r = .returned (.bool (!smlF f)) ∧ Ext w w' := by
  obtain ⟨p1, c1, p2, c2, p3, c3, rfl, n00, k1, k2, k3⟩ := ft_open h
  have hcap1 := k1.cap
  have hcap2 := k2.cap
  have hcap3 := k3.cap
  refine Sx.enter (H := H) Tryz.func28 rfl Tryz.ntmps28 rfl hA ?_
  refine .sr <| .bx rfl rfl rfl fun b1 => .a rfl rfl <| .nt <| .sq <| .cu (X := Bool) [(1, _)] ⟨rfl, trivial⟩ (fun z => [(30, .bool z)]) (fun z => H) (fun z => [.box b1 [strV f.nm, .slice p1 f.flags.length c1, .slice p2 f.links.length c2, .slice p3 f.comps.length c3] 32]) (fun z => z = !limF f) ?_ fun z hC => ?_
  ·
   refine .rg <| .yv (.fieldAddr rfl Fx.field32_3) rfl <| .yv (.load rfl Fx.agg30 (.head _) rfl) rfl <| .yv (.lenSl Fx.sl30 rfl) rfl <| .yv (.lss rfl rfl) rfl <| .m rfl rfl <| .b2 (fun h13 => ?_) (fun h13 => ?_)
   ·try simp only [dt] at h13
    exact .gF rfl rfl rfl rfl <| .gF rfl rfl rfl rfl <| .gF rfl rfl rfl rfl <| .gF rfl rfl rfl rfl <| .yv (.pickT rfl rfl) rfl <| .m rfl rfl <| .gF rfl rfl rfl rfl <| .gF rfl rfl rfl rfl <| .gF rfl rfl rfl rfl <| .gF rfl rfl rfl rfl <| .yv (.pickT rfl rfl) rfl <| .m rfl rfl <| .gF rfl rfl rfl rfl <| .gF rfl rfl rfl rfl <| .gF rfl rfl rfl rfl <| .gF rfl rfl rfl rfl <| .yv (.pickT rfl rfl) rfl <| .nt <| .me _ ⟨rfl, trivial⟩ ⟨rfl, trivial⟩ (fun _ s => s) (by rw [limF_eq]; first | exact dT (by omega) | exact dF (by omega) | exact dD (by omega))
   try simp only [df] at h13
   refine .gd rfl rfl <| .yv (.fieldAddr rfl Fx.field32_3) rfl <| .gd rfl rfl <| .yv (.load rfl Fx.agg30 (.head _) rfl) rfl <| .gd rfl rfl <| .yv (.lenSl Fx.sl30 rfl) rfl <| .gd rfl rfl <| .yv (.gtr rfl rfl) rfl <| .yv (.pickF rfl rfl) rfl <| .m rfl rfl <| .b2 (fun h19 => ?_) (fun h19 => ?_)
   ·try simp only [dt] at h19
    exact .gF rfl rfl rfl rfl <| .gF rfl rfl rfl rfl <| .gF rfl rfl rfl rfl <| .gF rfl rfl rfl rfl <| .yv (.pickT rfl rfl) rfl <| .m rfl rfl <| .gF rfl rfl rfl rfl <| .gF rfl rfl rfl rfl <| .gF rfl rfl rfl rfl <| .gF rfl rfl rfl rfl <| .yv (.pickT rfl rfl) rfl <| .nt <| .me _ ⟨rfl, trivial⟩ ⟨rfl, trivial⟩ (fun _ s => s) (by rw [limF_eq]; first | exact dT (by omega) | exact dF (by omega) | exact dD (by omega))
   try simp only [df] at h19
   refine .gd rfl rfl <| .yv (.fieldAddr rfl Fx.field32_1) rfl <| .gd rfl rfl <| .yv (.load rfl Fx.agg28 (.head _) rfl) rfl <| .gd rfl rfl <| .yv (.lenSl Fx.sl28 rfl) rfl <| .gd rfl rfl <| .yv (.gtr rfl rfl) rfl <| .yv (.pickF rfl rfl) rfl <| .m rfl rfl <| .b2 (fun h25 => ?_) (fun h25 => ?_)
   ·try simp only [dt] at h25
    exact .gF rfl rfl rfl rfl <| .gF rfl rfl rfl rfl <| .gF rfl rfl rfl rfl <| .gF rfl rfl rfl rfl <| .yv (.pickT rfl rfl) rfl <| .nt <| .me _ ⟨rfl, trivial⟩ ⟨rfl, trivial⟩ (fun _ s => s) (by rw [limF_eq]; first | exact dT (by omega) | exact dF (by omega) | exact dD (by omega))
   try simp only [df] at h25
   exact .gd rfl rfl <| .yv (.fieldAddr rfl Fx.field32_2) rfl <| .gd rfl rfl <| .yv (.load rfl Fx.agg29 (.head _) rfl) rfl <| .gd rfl rfl <| .yv (.lenSl Fx.sl29 rfl) rfl <| .gd rfl rfl <| .yv (.gtr rfl rfl) rfl <| .yv (.pickF rfl rfl) rfl <| .nt <| .me _ ⟨rfl, trivial⟩ ⟨rfl, trivial⟩ (fun _ s => s) (by rw [limF_eq]; first | exact dT (by omega) | exact dF (by omega) | exact dD (by omega))
  have e30 := hC
  refine .cd rfl (fun h30 => ?_) (fun h30 => ?_)
  ·try simp only [dt] at h30
   rw [h30] at e30
   have hz : smlF f = false := by rw [smlF, show limF f = false by simpa using e30.symm]; rfl
   refine .sr <| .a rfl rfl <| .nt <| .rt <| .tR <| ?_
   refine Sx.ret1 (.inl rfl) rfl (.tmp rfl) fun W s => ⟨retB ?_, s.ext⟩
   first
     | (rw [hz]; rfl)
     | (rw [smlF_eq, ha, hb]; simp)
  try simp only [df] at h30
  rw [h30] at e30
  have ha : limF f = true := by simpa using e30.symm
  refine .sk <| .tN <| .sq <| .sr <| .yv (.fieldAddr rfl Fx.field32_3) rfl <| .yv (.load rfl Fx.agg30 (.head _) rfl) rfl <| .yv (.lenSl Fx.sl30 rfl) rfl <| .m rfl rfl <| .nt <| .bk <| .lp (X := Nat) [(32, _), (33, _)] ⟨rfl, rfl, trivial⟩ [_] (fun k => [(34, .int .i64 (k : Nat))]) (fun k => H) (fun k => []) (fun k => k ≤ f.comps.length ∧ (f.comps.take k).all okSmC = true) (fun k => f.comps.length - k) 0 (fun _ s => s) ⟨rfl, trivial⟩ ⟨by omega, rfl⟩ fun k hC => ?_
  obtain ⟨hlek, hb⟩ := hC
  refine .sr <| .yv (.lss rfl rfl) rfl <| .nt <| .sq <| .cd rfl (fun h35 => ?_) (fun h35 => ?_)
  ·try simp only [dt] at h35
   have hk : k < f.comps.length := by omega
   have hbd := fun h => lall_bad (q := okSmC) hk h
   obtain ⟨bE, oE, cE, hpE, rE, lE, mE⟩ := k3.elem (map_at (f := dCp .i64) hk)
   cases hpE
   have okc := hok.all _ (List.getElem_mem hk)
   generalize hx : f.comps[k] = c at rE okc hbd
   obtain ⟨q1, d1, q2, d2, rfl, nc, g1, g2⟩ := cp_open rE
   have hcv := g1.cap
   have hcr := g2.cap
   refine .sk <| .tN <| .sq <| .bk <| .sr <| .yv (.indexSl Fx.sl30 rfl rfl rfl (by omega) (q := oE + k * 3) rfl) rfl <| .yv (.loadMW rfl Fx.agg91 mE rfl) rfl <| .al Fx.zero91 rfl fun b4 => .sW .head rfl rfl Fx.size91 (by simp [Value.oneCell', strV]) rfl <| .nt <| .sq <| .cu (X := Bool) [(4, _), (32, _), (33, _), (34, _)] ⟨rfl, rfl, rfl, rfl, trivial⟩ (fun z => [(59, .bool z)]) (fun z => H) (fun z => [.box b4 [strV c.nm, .slice q1 c.vars.length d1, .slice q2 c.vers.length d2] 91, .box b1 [strV f.nm, .slice p1 f.flags.length c1, .slice p2 f.links.length c2, .slice (some ⟨bE, oE, none⟩) f.comps.length c3] 32]) (fun z => z = !smlC c) ?_ fun z hC => ?_
   ·
    refine .rg <| .yv (.fieldAddr rfl Fx.field91_1) rfl <| .yv (.load rfl Fx.agg88 (.head _) rfl) rfl <| .yv (.lenSl Fx.sl88 rfl) rfl <| .yv (.gtr rfl rfl) rfl <| .m rfl rfl <| .b2 (fun h42 => ?_) (fun h42 => ?_)
    ·try simp only [dt] at h42
     exact .gF rfl rfl rfl rfl <| .gF rfl rfl rfl rfl <| .gF rfl rfl rfl rfl <| .gF rfl rfl rfl rfl <| .yv (.pickT rfl rfl) rfl <| .m rfl rfl <| .gF rfl rfl rfl rfl <| .gF rfl rfl rfl rfl <| .gF rfl rfl rfl rfl <| .gF rfl rfl rfl rfl <| .yv (.pickT rfl rfl) rfl <| .m rfl rfl <| .gF rfl rfl rfl rfl <| .gF rfl rfl rfl rfl <| .gF rfl rfl rfl rfl <| .gF rfl rfl rfl rfl <| .yv (.pickT rfl rfl) rfl <| .nt <| .me _ ⟨rfl, trivial⟩ ⟨rfl, rfl, rfl, rfl, trivial⟩ (fun _ s => s) (by rw [smlC_eq]; first | exact dT (by omega) | exact dF (by omega) | exact dD (by omega))
    try simp only [df] at h42
    refine .gd rfl rfl <| .yv (.fieldAddr rfl Fx.field91_2) rfl <| .gd rfl rfl <| .yv (.load rfl Fx.agg89 (.head _) rfl) rfl <| .gd rfl rfl <| .yv (.lenSl Fx.sl89 rfl) rfl <| .gd rfl rfl <| .yv (.lss rfl rfl) rfl <| .yv (.pickF rfl rfl) rfl <| .m rfl rfl <| .b2 (fun h48 => ?_) (fun h48 => ?_)
    ·try simp only [dt] at h48
     exact .gF rfl rfl rfl rfl <| .gF rfl rfl rfl rfl <| .gF rfl rfl rfl rfl <| .gF rfl rfl rfl rfl <| .yv (.pickT rfl rfl) rfl <| .m rfl rfl <| .gF rfl rfl rfl rfl <| .gF rfl rfl rfl rfl <| .gF rfl rfl rfl rfl <| .gF rfl rfl rfl rfl <| .yv (.pickT rfl rfl) rfl <| .nt <| .me _ ⟨rfl, trivial⟩ ⟨rfl, rfl, rfl, rfl, trivial⟩ (fun _ s => s) (by rw [smlC_eq]; first | exact dT (by omega) | exact dF (by omega) | exact dD (by omega))
    try simp only [df] at h48
    refine .gd rfl rfl <| .yv (.fieldAddr rfl Fx.field91_2) rfl <| .gd rfl rfl <| .yv (.load rfl Fx.agg89 (.head _) rfl) rfl <| .gd rfl rfl <| .yv (.lenSl Fx.sl89 rfl) rfl <| .gd rfl rfl <| .yv (.gtr rfl rfl) rfl <| .yv (.pickF rfl rfl) rfl <| .m rfl rfl <| .b2 (fun h54 => ?_) (fun h54 => ?_)
    ·try simp only [dt] at h54
     exact .gF rfl rfl rfl rfl <| .gF rfl rfl rfl rfl <| .gF rfl rfl rfl rfl <| .gF rfl rfl rfl rfl <| .yv (.pickT rfl rfl) rfl <| .nt <| .me _ ⟨rfl, trivial⟩ ⟨rfl, rfl, rfl, rfl, trivial⟩ (fun _ s => s) (by rw [smlC_eq]; first | exact dT (by omega) | exact dF (by omega) | exact dD (by omega))
    try simp only [df] at h54
    refine .gd rfl rfl <| .yv (.loadW rfl Fx.agg91 (.head _) rfl) rfl <| .gd rfl rfl <| .ct (X := Option Addr × Nat) Fx.call64 rfl (fun W s => handlersR_any N hN H c okc _ W rE s.agr) rfl fun x56 H56 hc56 u56 => ?_
    subst hc56
    exact .gd rfl rfl <| .yv (.lenSl Fx.sl66 rfl) rfl <| .gd rfl rfl <| .yv (.gtr rfl rfl) rfl <| .yv (.pickF rfl rfl) rfl <| .nt <| .me _ ⟨rfl, trivial⟩ ⟨rfl, rfl, rfl, rfl, trivial⟩ (fun _ s => s) (by rw [smlC_eq]; first | exact dT (by omega) | exact dF (by omega) | exact dD (by omega))
   have e59 := hC
   refine .cd rfl (fun h59 => ?_) (fun h59 => ?_)
   ·try simp only [dt] at h59
    rw [h59] at e59
    have hz : smlF f = false := by rw [smlF_eq, hbd (by rw [okSmC, show smlC c = false by simpa using e59.symm]; rfl), Bool.and_false]
    refine .sr <| .a rfl rfl <| .nt <| .rt <| .tR <| .bR <| .tR <| .tR <| .bR <| .tR <| ?_
    refine Sx.ret1 (.inl rfl) rfl (.tmp rfl) fun W s => ⟨retB ?_, s.ext⟩
    first
      | (rw [hz]; rfl)
      | (rw [smlF_eq, ha, hb]; simp)
   try simp only [df] at h59
   rw [h59] at e59
   have hgc : smlC c = true := by simpa using e59.symm
   refine .sk <| .tN <| .sr <| .yv (.fieldAddr rfl Fx.field91_2) rfl <| .yv (.load rfl Fx.agg89 (.head _) rfl) rfl <| .yv (.lenSl Fx.sl89 rfl) rfl <| .m rfl rfl <| .nt <| .bk <| .lp (X := Nat) [(32, _), (33, _), (34, _), (61, _), (62, _)] ⟨rfl, rfl, rfl, rfl, rfl, trivial⟩ [_, _] (fun i => [(63, .int .i64 (i : Nat))]) (fun i => H) (fun i => []) (fun i => i ≤ c.vers.length ∧ (c.vers.take i).all (fun v => v.all smaH) = true) (fun i => c.vers.length - i) 0 (fun _ s => s) ⟨rfl, trivial⟩ ⟨by omega, rfl⟩ fun i hC => ?_
   obtain ⟨hlei, hh⟩ := hC
   refine .sr <| .yv (.lss rfl rfl) rfl <| .nt <| .sq <| .cd rfl (fun h64 => ?_) (fun h64 => ?_)
   ·try simp only [dt] at h64
    have hi : i < c.vers.length := by omega
    have hbw := fun h => lall_bad (q := fun v : List Hd => v.all smaH) hi h
    obtain ⟨bG, oG, cG, hpG, rG, lG, mG⟩ := g2.elem (map_at (f := dVs .i64) hi)
    cases hpG
    have okv := okc.all _ (List.getElem_mem hi)
    generalize hxv : c.vers[i] = v at rG okv hbw
    obtain ⟨pv, cv, rfl, gv⟩ := vs_open rG
    have hcw := gv.cap
    refine .sk <| .tN <| .sq <| .bk <| .sr <| .yv (.indexSl Fx.sl89 rfl rfl (i := i) rfl hi (q := oG + i * 1) rfl) rfl <| .yv (.loadM rfl Fx.agg97 mG (k := 0) rfl rfl) rfl <| .a rfl rfl <| .ns <| .m rfl rfl <| .yv (.lenSl Fx.sl97 rfl) rfl <| .m rfl rfl <| .nt <| .bk <| .lp (X := Nat) [(32, _), (33, _), (34, _), (61, _), (62, _), (63, _), (67, _), (68, _)] ⟨rfl, rfl, rfl, rfl, rfl, rfl, rfl, rfl, trivial⟩ [_, _] (fun j => [(69, .int .i64 (j : Nat))]) (fun j => H) (fun j => []) (fun j => j ≤ v.length ∧ (v.take j).all smaH = true) (fun j => v.length - j) 0 (fun _ s => s) ⟨rfl, trivial⟩ ⟨by omega, rfl⟩ fun j hC => ?_
    obtain ⟨hlej, hr⟩ := hC
    refine .sr <| .yv (.lss rfl rfl) rfl <| .nt <| .sq <| .cd rfl (fun h70 => ?_) (fun h70 => ?_)
    ·try simp only [dt] at h70
     have hj : j < v.length := by omega
     have hby := fun h => lall_bad (q := smaH) hj h
     obtain ⟨bI, oI, cI, hpI, rI, lI, mI⟩ := gv.elem (map_at (f := dHd .i64) hj)
     cases hpI
     have okh := okv.all _ (List.getElem_mem hj)
     generalize hxh : v[j] = y at rI okh hby
     obtain ⟨t1, w1, t2, w2, rfl, ny, m1, m2⟩ := hd_open rI
     have hcnt := okh.body.cnt
     have hdep := okh.body.dep
     obtain ⟨pb, cb, eb, _⟩ := m2.sl
     refine .sk <| .tN <| .sq <| .bk <| .sr <| .yv (.indexSl Fx.sl97 rfl rfl rfl (by omega) (q := oI + j * 3) rfl) rfl <| .yv (.loadMW rfl Fx.agg100 mI rfl) rfl <| .al Fx.zero100 rfl fun b8 => .sW .head rfl rfl Fx.size100 (by simp [Value.oneCell', strV]) rfl <| .nt <| .cu (X := Bool) [(32, _), (33, _), (34, _), (61, _), (62, _), (63, _), (67, _), (68, _), (69, _)] ⟨rfl, rfl, rfl, rfl, rfl, rfl, rfl, rfl, rfl, trivial⟩ (fun z => [(93, .bool z)]) (fun z => H) (fun z => [.box b8 [strV y.nm, .slice t1 y.ps.length w1, .slice t2 y.body.length w2] 100, .box b4 [strV c.nm, .slice q1 c.vars.length d1, .slice (some ⟨bG, oG, none⟩) c.vers.length d2] 91, .box b1 [strV f.nm, .slice p1 f.flags.length c1, .slice p2 f.links.length c2, .slice (some ⟨bE, oE, none⟩) f.comps.length c3] 32]) (fun z => z = !smaH y) ?_ fun z hC => ?_
     ·
      refine .rg <| .yv (.fieldAddr rfl Fx.field100_1) rfl <| .yv (.load rfl Fx.agg66 (.head _) rfl) rfl <| .yv (.lenSl Fx.sl66 rfl) rfl <| .yv (.gtr rfl rfl) rfl <| .m rfl rfl <| .b2 (fun h77 => ?_) (fun h77 => ?_)
      ·try simp only [dt] at h77
       exact .gF rfl rfl rfl rfl <| .gF rfl rfl rfl rfl <| .gF rfl rfl rfl rfl <| .gF rfl rfl rfl rfl <| .yv (.pickT rfl rfl) rfl <| .m rfl rfl <| .gF rfl rfl rfl rfl <| .gF rfl rfl rfl rfl <| .gF rfl rfl rfl rfl <| .gF rfl rfl rfl rfl <| .yv (.pickT rfl rfl) rfl <| .m rfl rfl <| .gF rfl rfl rfl rfl <| .gF rfl rfl rfl rfl <| .gF rfl rfl rfl rfl <| .yv (.pickT rfl rfl) rfl <| .nt <| .me _ ⟨rfl, trivial⟩ ⟨rfl, rfl, rfl, rfl, rfl, rfl, rfl, rfl, rfl, trivial⟩ (fun _ s => s) (by first | exact smaH_bad (by omega) | exact smaH_good (by omega))
      try simp only [df] at h77
      refine .gd rfl rfl <| .yv (.fieldAddr rfl Fx.field100_2) rfl <| .gd rfl rfl <| .yv (.load rfl Fx.agg98 (.head _) rfl) rfl <| .gd rfl rfl <| .yv (.call Fx.call65 rfl (fun W s => rstatements_any H y.body _ _ _ W m2 (by omega) s.agr)) rfl <| .gd rfl rfl <| .yv (.gtr rfl rfl) rfl <| .yv (.pickF rfl rfl) rfl <| .m rfl rfl <| .b2 (fun h83 => ?_) (fun h83 => ?_)
      ·try simp only [dt] at h83
       exact .gF rfl rfl rfl rfl <| .gF rfl rfl rfl rfl <| .gF rfl rfl rfl rfl <| .gF rfl rfl rfl rfl <| .yv (.pickT rfl rfl) rfl <| .m rfl rfl <| .gF rfl rfl rfl rfl <| .gF rfl rfl rfl rfl <| .gF rfl rfl rfl rfl <| .yv (.pickT rfl rfl) rfl <| .nt <| .me _ ⟨rfl, trivial⟩ ⟨rfl, rfl, rfl, rfl, rfl, rfl, rfl, rfl, rfl, trivial⟩ (fun _ s => s) (by first | exact smaH_bad (by omega) | exact smaH_good (by omega))
      try simp only [df] at h83
      refine .gd rfl rfl <| .yv (.fieldAddr rfl Fx.field100_2) rfl <| .gd rfl rfl <| .yv (.load rfl Fx.agg98 (.head _) rfl) rfl <| .gd rfl rfl <| .yv (.call Fx.call66 rfl (fun W s => rsdepth_any H y.body _ _ _ W m2 (by omega) s.agr)) rfl <| .gd rfl rfl <| .yv (.gtr rfl rfl) rfl <| .yv (.pickF rfl rfl) rfl <| .m rfl rfl <| .b2 (fun h89 => ?_) (fun h89 => ?_)
      ·try simp only [dt] at h89
       exact .gF rfl rfl rfl rfl <| .gF rfl rfl rfl rfl <| .gF rfl rfl rfl rfl <| .yv (.pickT rfl rfl) rfl <| .nt <| .me _ ⟨rfl, trivial⟩ ⟨rfl, rfl, rfl, rfl, rfl, rfl, rfl, rfl, rfl, trivial⟩ (fun _ s => s) (by first | exact smaH_bad (by omega) | exact smaH_good (by omega))
      try simp only [df] at h89
      exact .gd rfl rfl <| .yv (.fieldAddr rfl Fx.field100_2) rfl <| .gd rfl rfl <| .yv (.load rfl Fx.agg98 (.head _) rfl) rfl <| .gd rfl rfl <| .yv (.call Fx.call67 rfl (fun W s => deep_any N (by omega) H y.body okh.body _ W m2 s.agr)) rfl <| .yv (.pickF rfl rfl) rfl <| .nt <| .me _ ⟨rfl, trivial⟩ ⟨rfl, rfl, rfl, rfl, rfl, rfl, rfl, rfl, rfl, trivial⟩ (fun _ s => s) (by first | exact smaH_bad (by omega) | exact smaH_good (by omega))
     have e93 := hC
     refine .cd rfl (fun h93 => ?_) (fun h93 => ?_)
     ·try simp only [dt] at h93
      rw [h93] at e93
      have hz : smlF f = false := by rw [smlF_eq, hbd (by rw [okSmC, hbw (hby (by simpa using e93.symm)), Bool.and_false]), Bool.and_false]
      refine .sr <| .a rfl rfl <| .nt <| .rt <| .bR <| .tR <| .tR <| .bR <| .bR <| .tR <| .tR <| .bR <| .bR <| .tR <| .tR <| .bR <| .tR <| ?_
      refine Sx.ret1 (.inl rfl) rfl (.tmp rfl) fun W s => ⟨retB ?_, s.ext⟩
      first
        | (rw [hz]; rfl)
        | (rw [smlF_eq, ha, hb]; simp)
     try simp only [df] at h93
     rw [h93] at e93
     have hgh : smaH y = true := by simpa using e93.symm
     exact .sk <| .bN <| .tN <| .rg <| .yv (.add rfl rfl (w6 (by omega))) rfl <| .m rfl rfl <| .nt <| .ag (j + 1) ⟨rfl, trivial⟩ ⟨rfl, rfl, rfl, rfl, rfl, rfl, rfl, rfl, trivial⟩ (fun _ s => (s.pick [1, 2] _ rfl rfl)) ⟨by omega, by rw [lall_succ hj, hxh, hr, hgh]; rfl⟩ (by omega)
    try simp only [df] at h70
    obtain rfl : j = v.length := by omega
    rw [List.take_length] at hr
    exact .ex <| .tE <| .tE <| .bE <| .bN <| .tN <| .rg <| .yv (.add rfl rfl (w6 (by omega))) rfl <| .m rfl rfl <| .nt <| .ag (i + 1) ⟨rfl, trivial⟩ ⟨rfl, rfl, rfl, rfl, rfl, trivial⟩ (fun _ s => (s.pick [0, 1] _ rfl rfl)) ⟨by omega, by rw [lall_succ hi, hxv, hh, hr]; rfl⟩ (by omega)
   try simp only [df] at h64
   obtain rfl : i = c.vers.length := by omega
   rw [List.take_length] at hh
   exact .ex <| .tE <| .tE <| .bE <| .bN <| .tN <| .rg <| .yv (.add rfl rfl (w6 (by omega))) rfl <| .m rfl rfl <| .nt <| .ag (k + 1) ⟨rfl, trivial⟩ ⟨rfl, rfl, trivial⟩ (fun _ s => (s.pick [1] _ rfl rfl)) ⟨by omega, by rw [lall_succ hk, hx, hb, okSmC, hgc, hh]; rfl⟩ (by omega)
  try simp only [df] at h35
  obtain rfl : k = f.comps.length := by omega
  rw [List.take_length] at hb
  refine .ex <| .tE <| .tE <| .bE <| .tN <| .sr <| .a rfl rfl <| .nt <| .rt <| ?_
  refine Sx.ret1 (.inl rfl) rfl (.tmp rfl) fun W s => ⟨retB ?_, s.ext⟩
  first
    | (rw [hz]; rfl)
    | (rw [smlF_eq, ha, hb]; simp)
set_option maxRecDepth 100000 in
theorem checkR_f (N : Nat) (hN : N ≤ 100000) (H : Hp) (f : Ft) (hok : okFt N f) (cs : List Value) (w : World) (h : Rep H (dFt .i64 f) cs) (hA : Agr H w) :
    Calls Tryz.prog 11 #[.agg cs.toArray] w fun r w' => r = .returned (.int .i64 (checkF f : Nat)) ∧ Ext w w' := by
  refine Sx.enter (H := H) Tryz.func11 rfl Tryz.ntmps11 rfl hA ?_
  refine .sr <| .bx rfl rfl rfl fun b1 => .a rfl rfl <| .nt <| .sq <| .bk <| .sr <| .yv (.loadW rfl Fx.agg32 (.head _) (ft_len h)) rfl <| .yv (.call Fx.call28 rfl (fun W s => limits_f N hN H f hok cs W h s.agr)) rfl <| .a rfl rfl <| .nt <| .cd rfl (fun h3 => ?_) (fun h3 => ?_)
  ·skip
   refine .sr <| .a rfl rfl <| .nt <| .rt <| .bR <| .tR <| ?_
   refine Sx.ret1 (.inl rfl) rfl (.tmp rfl) fun W s => ⟨?_, s.ext⟩
   first
     | (rw [checkF, if_pos (by simpa using h3)]; rfl)
     | (rw [checkF, if_neg (by simpa using h3), if_pos (by simpa using h6)]; rfl)
     | (rw [checkF, if_neg (by simpa using h3), if_neg (by simpa using h6), if_pos (by simpa using h10)]; rfl)
     | (rw [checkF, if_neg (by simpa using h3), if_neg (by simpa using h6), if_neg (by simpa using h10)]; rfl)
  skip
  refine .sr <| .yv (.loadW rfl Fx.agg32 (.head _) (ft_len h)) rfl <| .yv (.call Fx.call29 rfl (fun W s => names_f N (by omega) H f hok cs W h s.agr)) rfl <| .yv (.not rfl) rfl <| .a rfl rfl <| .nt <| .cd rfl (fun h6 => ?_) (fun h6 => ?_)
  ·skip
   refine .sr <| .a rfl rfl <| .nt <| .rt <| .bR <| .tR <| ?_
   refine Sx.ret1 (.inl rfl) rfl (.tmp rfl) fun W s => ⟨?_, s.ext⟩
   first
     | (rw [checkF, if_pos (by simpa using h3)]; rfl)
     | (rw [checkF, if_neg (by simpa using h3), if_pos (by simpa using h6)]; rfl)
     | (rw [checkF, if_neg (by simpa using h3), if_neg (by simpa using h6), if_pos (by simpa using h10)]; rfl)
     | (rw [checkF, if_neg (by simpa using h3), if_neg (by simpa using h6), if_neg (by simpa using h10)]; rfl)
  skip
  refine .sr <| .yv (.loadW rfl Fx.agg32 (.head _) (ft_len h)) rfl <| .yv (.call Fx.call30 rfl (fun W s => form_f N (by omega) H f hok cs W h s.agr)) rfl <| .yv (.not rfl) rfl <| .a rfl rfl <| .nt <| .cd rfl (fun h10 => ?_) (fun h10 => ?_)
  ·skip
   refine .sr <| .a rfl rfl <| .nt <| .rt <| .bR <| .tR <| ?_
   refine Sx.ret1 (.inl rfl) rfl (.tmp rfl) fun W s => ⟨?_, s.ext⟩
   first
     | (rw [checkF, if_pos (by simpa using h3)]; rfl)
     | (rw [checkF, if_neg (by simpa using h3), if_pos (by simpa using h6)]; rfl)
     | (rw [checkF, if_neg (by simpa using h3), if_neg (by simpa using h6), if_pos (by simpa using h10)]; rfl)
     | (rw [checkF, if_neg (by simpa using h3), if_neg (by simpa using h6), if_neg (by simpa using h10)]; rfl)
  skip
  refine .sk <| .bN <| .tN <| .sr <| .a rfl rfl <| .nt <| .rt <| ?_
  refine Sx.ret1 (.inl rfl) rfl (.tmp rfl) fun W s => ⟨?_, s.ext⟩
  first
    | (rw [checkF, if_pos (by simpa using h3)]; rfl)
    | (rw [checkF, if_neg (by simpa using h3), if_pos (by simpa using h6)]; rfl)
    | (rw [checkF, if_neg (by simpa using h3), if_neg (by simpa using h6), if_pos (by simpa using h10)]; rfl)
    | (rw [checkF, if_neg (by simpa using h3), if_neg (by simpa using h6), if_neg (by simpa using h10)]; rfl)
set_option maxHeartbeats 2000000 in
set_option maxRecDepth 100000 in
theorem bodyL_any (N : Nat) (hN : N ≤ 1000000) : ∀ (l : List Sm), okL N l → ∀ (H : Hp) (v : Value) (w : World), Rep H (.seq 6 (l.map (dSm .i64))) [v] → Agr H w →
    Calls Tryz.prog 27 #[v] w fun r w' => ∃ (y : Value) (H' : Hp), Rep H' (.seq 6 (l.map (dSm .u8))) [y] ∧ r = .returned y ∧ Grow H w H' w' := by
  refine Sm.lists fun l ih => ?_
  intro hok H v w hs hA
  obtain ⟨p, c, e, _⟩ := hs.sl
  simp only [List.cons.injEq, and_true, List.length_map] at e
  subst e
  have hcap := hs.cap
  have hll := hok.len
  refine Sx.enter (H := H) Tryz.func27 rfl Tryz.ntmps27 rfl hA ?_
  refine .sr <| .a rfl rfl <| .ns <| .a rfl rfl <| ?_
  refine Sx.row0 71 6 ?_
  refine .nt <| .sq <| .sr <| .m rfl rfl <| .yv (.lenSl Fx.sl98 rfl) rfl <| .m rfl rfl <| .nt <| .bk <| .lp (X := Nat × Hp × Value × List Value) [(9, _), (10, _)] ⟨rfl, rfl, trivial⟩ [] (fun z => [(3, z.2.2.1), (11, .int .i64 (z.1 : Nat))]) (fun z => z.2.1) (fun z => [.row 71 6 z.2.2.1 z.1 z.2.2.2]) (fun z => z.1 ≤ l.length ∧ HUp w H z.2.1 ∧ RepZ z.2.1 6 ((l.take z.1).map (dSm .u8)) z.2.2.2) (fun z => l.length - z.1) (0, H, .slice none 0 0, []) (fun _ s => s) ⟨rfl, rfl, trivial⟩ ⟨by simp, .refl, RepZ.nil⟩ fun z hC => ?_
  obtain ⟨k, H1, r, xs⟩ := z
  dsimp only at hC ⊢
  obtain ⟨hk0, u1, hz⟩ := hC
  refine .sr <| .yv (.lss rfl rfl) rfl <| .nt <| .sq <| .cd rfl (fun h12 => ?_) (fun h12 => ?_)
  ·try simp only [dt] at h12
   have hk : k < l.length := by omega
   obtain ⟨bE, oE, cE, hpE, rE, lE, mE⟩ := (hs.up u1.up).elem (map_at (f := dSm .i64) hk)
   cases hpE
   have hi := ih _ (List.getElem_mem hk)
   have hka := hok.at hk
   generalize hx : l[k] = x at rE hi hka
   obtain ⟨kd, nm, hd, ex, th, el⟩ := x
   obtain ⟨p1, c1, p2, c2, p3, c3, rfl, hs1, hs2, hs3, hn1, hn2⟩ := sm_open rE
   simp only [Sm.th, Sm.el] at hi
   obtain ⟨k1, k2, k3, k4, k5, k6, k7⟩ := okL_one.1 hka
   have hit := hi.1 ⟨by omega, by omega, k6⟩
   have hie := hi.2 ⟨by omega, by omega, k7⟩
   have hcap1 := hs1.cap
   refine .sk <| .tN <| .sq <| .bk <| .sr <| .yv (.indexSl Fx.sl98 rfl rfl rfl (by omega) (q := oE + k * 6) rfl) rfl <| .yv (.loadMW rfl Fx.agg150 mE rfl) rfl <| .al Fx.zero150 rfl fun b5 => .sW .head rfl rfl Fx.size150 (by simp [Value.oneCell', strV]) rfl <| .nt <| .sq <| .ft (p := .light _ _ (.light _ _ (.light _ _ (.light _ _ (.light _ _ (.light _ _ (.light _ _ (.light _ _ (.light _ _ (.light _ _ (.light _ _ (.alt _ _ _ (.alt _ _ _ (.light _ _ (.alt _ _ _ (.done) (.no))) (.alt _ _ _ (.alt _ _ _ (.light _ _ (.done)) (.no)) (.no))) (.alt _ _ _ (.alt _ _ _ (.alt _ _ _ (.light _ _ (.done)) (.no)) (.no)) (.no)))))))))))))) 15 (.light 0 (.light 1 (.light 2 (.light 3 (.light 4 (.light 5 (.light 6 (.light 7 (.light 8 (.light 10 (.light 11 (.alt 9 0 (.alt 12 0 (.light 13 (.alt 14 0 (.done) (.no))) (.alt 14 0 (.alt 12 0 (.light 13 (.done)) (.no)) (.no))) (.alt 14 0 (.alt 9 0 (.alt 12 0 (.light 13 (.done)) (.no)) (.no)) (.no)))))))))))))) (by kernel_rfl) (by kernel_rfl) rfl <| .yv (.fieldAddr rfl Fx.field150_0) rfl <| .yv (.load rfl Fx.agg3 (.head _) rfl) rfl <| .yv (.conv rfl Fx.int3 Fx.int67 (c := (kd.toNat : Nat)) (by have := kd.toNat_lt; simp only [IntKind.wrap, IntKind.signed, IntKind.bits]; simp; omega)) rfl <| .yv (.fieldAddr rfl Fx.field150_1) rfl <| .yv (.load rfl Fx.agg9 (.head _) rfl) rfl <| .yv (.fieldAddr rfl Fx.field150_2) rfl <| .yv (.load rfl Fx.agg9 (.head _) rfl) rfl <| .yv (.fieldAddr rfl Fx.field150_4) rfl <| .yv (.load rfl Fx.agg98 (.head _) rfl) rfl <| .yv (.fieldAddr rfl Fx.field150_5) rfl <| .yv (.load rfl Fx.agg98 (.head _) rfl) rfl <| .h ?_ (.h ?_ .nn)
   ·
    refine .ct (X := Value) Fx.call27 rfl (fun W s => hit H1 _ W hs2 s.agr) rfl fun y24 H24 hy24 u24 => ?_
    obtain ⟨q24, d24, e24, _⟩ := hy24.sl
    simp only [List.cons.injEq, and_true, List.length_map] at e24
    subst e24
    refine .h ?_ (.h ?_ .nn)
    ·
     refine .ct (X := Value) Fx.call27 rfl (fun W s => hie H24 _ W (hs3.up u24.up) s.agr) rfl fun y27 H27 hy27 u27 => ?_
     obtain ⟨q27, d27, e27, _⟩ := hy27.sl
     simp only [List.cons.injEq, and_true, List.length_map] at e27
     subst e27
     have u5 := u24.trans u27
     have hs1b := hs1.up u5.up
     have hy24b := hy24.up u27.up
     refine .yv (.build rfl (Fx.bld71_0_1_2_4_5 _ _ _ _ _ _ _ _ _)) rfl <| .h1 <| .al Fx.zero71 rfl fun b6 => .fn (tl := [_]) rfl <| .sW .head rfl rfl Fx.size71 (by simp [Value.oneCell', strV]) rfl <| .nt <| .sq <| .sr <| .yv (.fieldAddr rfl Fx.field150_3) rfl <| .yv (.load rfl Fx.agg49 (.tail _ <| .head _) rfl) rfl <| .yv (.lenSl Fx.sl49 rfl) rfl <| .m rfl rfl <| ?_
     refine Sx.row0 60 4 ?_
     refine .nt <| .bk <| .lp (X := Nat × Hp × Value × List Value) [(3, _), (6, _), (9, _), (10, _), (11, _), (30, _), (31, _)] ⟨rfl, rfl, rfl, rfl, rfl, rfl, rfl, trivial⟩ [_, _] (fun z => [(32, .int .i64 (z.1 : Nat))]) (fun z => z.2.1) (fun z => [.row 60 4 z.2.2.1 z.1 z.2.2.2, .box b6 [.int .u8 kd.toNat, strV nm, strV hd, z.2.2.1, .slice q24 th.length d24, .slice q27 el.length d27] 71]) (fun z => z.1 ≤ ex.length ∧ HUp w H27 z.2.1 ∧ RepZ z.2.1 4 ((ex.take z.1).map (dEx .u8)) z.2.2.2) (fun z => ex.length - z.1) (0, H27, .slice none 0 0, []) (fun _ s => s) ⟨rfl, trivial⟩ ⟨by simp, .refl, RepZ.nil⟩ fun z hC => ?_
     obtain ⟨j, H3, re, ys⟩ := z
     dsimp only at hC ⊢
     obtain ⟨hj0, u3, hze⟩ := hC
     refine .sr <| .yv (.lss rfl rfl) rfl <| .nt <| .sq <| .cd rfl (fun h33 => ?_) (fun h33 => ?_)
     ·try simp only [dt] at h33
      have hj : j < ex.length := by omega
      obtain ⟨bF, oF, cF, hpF, rF, lF, mF⟩ := (hs1b.up u3.up).elem (map_at (f := dEx .i64) hj)
      cases hpF
      have hnj : Ex.all narrow ex[j] = true := by
        have := List.all_eq_true.1 k5 _ (List.getElem_mem hj)
        simp only [okE, Bool.and_eq_true] at this
        exact this.2
      refine .sk <| .tN <| .sq <| .bk <| .sr <| .yv (.indexSl Fx.sl49 rfl rfl rfl (by omega) (q := oF + j * 4) rfl) rfl <| .yv (.loadMW rfl Fx.agg51 mF lF) rfl <| .al Fx.zero51 rfl fun b8 => .sV .head rfl rfl Fx.size51 lF rF.one rfl <| .nt <| .fl (trip := [(_, _, _), (_, _, _), (_, _, _), (_, _, _), (_, _, _)]) 5 [(0, 0), (1, 0), (2, 0), (3, 1), (4, 1)] (by kernel_rfl) (by kernel_rfl) rfl <| .yv (.fieldAddr rfl Fx.field71_3) rfl <| .yv (.load rfl Fx.agg58 (.tail _ <| .tail _ <| .head _) rfl) rfl <| .yv (.loadW rfl Fx.agg51 (.head _) lF) rfl <| .ct (X := List Value) Fx.call19 rfl (fun W s => expr_any _ hnj H3 cF W rF s.agr) rfl fun x39 H39 hx39 u39 => ?_
      generalize hxj : ex[j] = xj at hx39
      obtain ⟨op2, nm2, n2, args2⟩ := xj
      obtain ⟨pz, cz, rfl, hz2, hnm2⟩ := ex_open hx39
      exact .bl rfl (Fx.bsl58_1 _ _ _ _) rfl fun b40 => .fn (tl := [_, _, _]) rfl <| .ap (news := [.int .u8 op2.toNat, strV nm2, .int .i64 n2.toInt, .slice pz args2.length cz]) Fx.row58 rfl (fun _ => (.tail <| .tail <| .head)) rfl (.box (.head _) z0) rfl (by simp [Value.oneCell', strV]) (by simp [maxLen]; omega) (by omega) rfl fun r41 _ => .ra (.tail _ <| .tail _ <| .head _) fun p41 c41 e41 => .yv (.fieldAddr rfl Fx.field71_3) rfl <| .st (.tail <| .tail <| .tail <| .head) rfl rfl Fx.size58 (by rw [e41]; rfl) (nb rfl) rfl <| .nl <| .bN <| .tN <| .rg <| .yv (.add rfl rfl (w6 (by omega))) rfl <| .m rfl rfl <| .nt <| .ag (x := (j, H3, re, ys)) (j + 1, H39, r41, ys ++ [.int .u8 op2.toNat, strV nm2, .int .i64 n2.toInt, .slice pz args2.length cz]) ⟨rfl, trivial⟩ ⟨rfl, rfl, rfl, rfl, rfl, rfl, rfl, trivial⟩ (fun _ s => (s.pick [2, 3, 4, 5] _ rfl rfl)) ⟨by dsimp only; omega, u3.trans u39, by dsimp only; rw [take_snoc hj, hxj, List.map_append]; exact (hze.up u39.up).snoc hx39 rfl⟩ (by dsimp only; omega)
     try simp only [df] at h33
     obtain rfl : j = ex.length := by omega
     rw [List.take_length] at hze
     refine Sx.freezeSeq (ds := ex.map (dEx .u8)) (by simp) hze fun H3 pX cX u6 eX hX => ?_
     subst eX
     have uX := u5.trans (u3.trans u6)
     have hy24X := hy24b.up (u3.trans u6).up
     have hy27X := hy27.up (u3.trans u6).up
     exact .ex <| .tE <| .tE <| .bE <| .tN <| .rg <| .m rfl rfl <| .yv (.loadW rfl Fx.agg71 (.head _) rfl) rfl <| .bl rfl (Fx.bsl69_1 _ _ _ _ _ _) rfl fun b46 => .ap (news := [.int .u8 kd.toNat, strV nm, strV hd, .slice pX ex.length cX, .slice q24 th.length d24, .slice q27 el.length d27]) Fx.row69 rfl (fun _ => (.tail <| .tail <| .tail <| .head)) rfl (.box (.head _) z0) rfl (by simp [Value.oneCell', strV]) (by simp [maxLen]; omega) (by omega) rfl fun r47 _ => .a rfl rfl <| .nl <| .bN <| .tN <| .rg <| .yv (.add rfl rfl (w6 (by omega))) rfl <| .m rfl rfl <| .nt <| .ag (x := (k, H1, r, xs)) (k + 1, H3, r47, xs ++ [.int .u8 kd.toNat, strV nm, strV hd, .slice pX ex.length cX, .slice q24 th.length d24, .slice q27 el.length d27]) ⟨rfl, rfl, trivial⟩ ⟨rfl, rfl, trivial⟩ (fun _ s => (s.pick [3] _ rfl rfl)) ⟨by dsimp only; omega, u1.trans uX, by dsimp only; rw [take_snoc hk, hx, List.map_append]; exact (hz.up uX.up).snoc (sm_shut (by omega) (by omega) hX hy24X hy27X) rfl⟩ (by dsimp only; omega)
    refine .al Fx.zero71 rfl fun b6 => .h1 <| .ct (X := Value) Fx.call27 rfl (fun W s => hie H24 _ W (hs3.up u24.up) s.agr) rfl fun y27 H27 hy27 u27 => ?_
    obtain ⟨q27, d27, e27, _⟩ := hy27.sl
    simp only [List.cons.injEq, and_true, List.length_map] at e27
    subst e27
    have u5 := u24.trans u27
    have hs1b := hs1.up u5.up
    have hy24b := hy24.up u27.up
    refine .yv (.build rfl (Fx.bld71_0_1_2_4_5 _ _ _ _ _ _ _ _ _)) rfl <| .fn (tl := [_]) rfl <| .sW .head rfl rfl Fx.size71 (by simp [Value.oneCell', strV]) rfl <| .nt <| .sq <| .sr <| .yv (.fieldAddr rfl Fx.field150_3) rfl <| .yv (.load rfl Fx.agg49 (.tail _ <| .head _) rfl) rfl <| .yv (.lenSl Fx.sl49 rfl) rfl <| .m rfl rfl <| ?_
    refine Sx.row0 60 4 ?_
    refine .nt <| .bk <| .lp (X := Nat × Hp × Value × List Value) [(3, _), (6, _), (9, _), (10, _), (11, _), (30, _), (31, _)] ⟨rfl, rfl, rfl, rfl, rfl, rfl, rfl, trivial⟩ [_, _] (fun z => [(32, .int .i64 (z.1 : Nat))]) (fun z => z.2.1) (fun z => [.row 60 4 z.2.2.1 z.1 z.2.2.2, .box b6 [.int .u8 kd.toNat, strV nm, strV hd, z.2.2.1, .slice q24 th.length d24, .slice q27 el.length d27] 71]) (fun z => z.1 ≤ ex.length ∧ HUp w H27 z.2.1 ∧ RepZ z.2.1 4 ((ex.take z.1).map (dEx .u8)) z.2.2.2) (fun z => ex.length - z.1) (0, H27, .slice none 0 0, []) (fun _ s => s) ⟨rfl, trivial⟩ ⟨by simp, .refl, RepZ.nil⟩ fun z hC => ?_
    obtain ⟨j, H3, re, ys⟩ := z
    dsimp only at hC ⊢
    obtain ⟨hj0, u3, hze⟩ := hC
    refine .sr <| .yv (.lss rfl rfl) rfl <| .nt <| .sq <| .cd rfl (fun h33 => ?_) (fun h33 => ?_)
    ·try simp only [dt] at h33
     have hj : j < ex.length := by omega
     obtain ⟨bF, oF, cF, hpF, rF, lF, mF⟩ := (hs1b.up u3.up).elem (map_at (f := dEx .i64) hj)
     cases hpF
     have hnj : Ex.all narrow ex[j] = true := by
       have := List.all_eq_true.1 k5 _ (List.getElem_mem hj)
       simp only [okE, Bool.and_eq_true] at this
       exact this.2
     refine .sk <| .tN <| .sq <| .bk <| .sr <| .yv (.indexSl Fx.sl49 rfl rfl rfl (by omega) (q := oF + j * 4) rfl) rfl <| .yv (.loadMW rfl Fx.agg51 mF lF) rfl <| .al Fx.zero51 rfl fun b8 => .sV .head rfl rfl Fx.size51 lF rF.one rfl <| .nt <| .fl (trip := [(_, _, _), (_, _, _), (_, _, _), (_, _, _), (_, _, _)]) 5 [(0, 0), (1, 0), (2, 0), (3, 1), (4, 1)] (by kernel_rfl) (by kernel_rfl) rfl <| .yv (.fieldAddr rfl Fx.field71_3) rfl <| .yv (.load rfl Fx.agg58 (.tail _ <| .tail _ <| .head _) rfl) rfl <| .yv (.loadW rfl Fx.agg51 (.head _) lF) rfl <| .ct (X := List Value) Fx.call19 rfl (fun W s => expr_any _ hnj H3 cF W rF s.agr) rfl fun x39 H39 hx39 u39 => ?_
     generalize hxj : ex[j] = xj at hx39
     obtain ⟨op2, nm2, n2, args2⟩ := xj
     obtain ⟨pz, cz, rfl, hz2, hnm2⟩ := ex_open hx39
     exact .bl rfl (Fx.bsl58_1 _ _ _ _) rfl fun b40 => .fn (tl := [_, _, _]) rfl <| .ap (news := [.int .u8 op2.toNat, strV nm2, .int .i64 n2.toInt, .slice pz args2.length cz]) Fx.row58 rfl (fun _ => (.tail <| .tail <| .head)) rfl (.box (.head _) z0) rfl (by simp [Value.oneCell', strV]) (by simp [maxLen]; omega) (by omega) rfl fun r41 _ => .ra (.tail _ <| .tail _ <| .head _) fun p41 c41 e41 => .yv (.fieldAddr rfl Fx.field71_3) rfl <| .st (.tail <| .tail <| .tail <| .head) rfl rfl Fx.size58 (by rw [e41]; rfl) (nb rfl) rfl <| .nl <| .bN <| .tN <| .rg <| .yv (.add rfl rfl (w6 (by omega))) rfl <| .m rfl rfl <| .nt <| .ag (x := (j, H3, re, ys)) (j + 1, H39, r41, ys ++ [.int .u8 op2.toNat, strV nm2, .int .i64 n2.toInt, .slice pz args2.length cz]) ⟨rfl, trivial⟩ ⟨rfl, rfl, rfl, rfl, rfl, rfl, rfl, trivial⟩ (fun _ s => (s.pick [2, 3, 4, 5] _ rfl rfl)) ⟨by dsimp only; omega, u3.trans u39, by dsimp only; rw [take_snoc hj, hxj, List.map_append]; exact (hze.up u39.up).snoc hx39 rfl⟩ (by dsimp only; omega)
    try simp only [df] at h33
    obtain rfl : j = ex.length := by omega
    rw [List.take_length] at hze
    refine Sx.freezeSeq (ds := ex.map (dEx .u8)) (by simp) hze fun H3 pX cX u6 eX hX => ?_
    subst eX
    have uX := u5.trans (u3.trans u6)
    have hy24X := hy24b.up (u3.trans u6).up
    have hy27X := hy27.up (u3.trans u6).up
    exact .ex <| .tE <| .tE <| .bE <| .tN <| .rg <| .m rfl rfl <| .yv (.loadW rfl Fx.agg71 (.head _) rfl) rfl <| .bl rfl (Fx.bsl69_1 _ _ _ _ _ _) rfl fun b46 => .ap (news := [.int .u8 kd.toNat, strV nm, strV hd, .slice pX ex.length cX, .slice q24 th.length d24, .slice q27 el.length d27]) Fx.row69 rfl (fun _ => (.tail <| .tail <| .tail <| .head)) rfl (.box (.head _) z0) rfl (by simp [Value.oneCell', strV]) (by simp [maxLen]; omega) (by omega) rfl fun r47 _ => .a rfl rfl <| .nl <| .bN <| .tN <| .rg <| .yv (.add rfl rfl (w6 (by omega))) rfl <| .m rfl rfl <| .nt <| .ag (x := (k, H1, r, xs)) (k + 1, H3, r47, xs ++ [.int .u8 kd.toNat, strV nm, strV hd, .slice pX ex.length cX, .slice q24 th.length d24, .slice q27 el.length d27]) ⟨rfl, rfl, trivial⟩ ⟨rfl, rfl, trivial⟩ (fun _ s => (s.pick [3] _ rfl rfl)) ⟨by dsimp only; omega, u1.trans uX, by dsimp only; rw [take_snoc hk, hx, List.map_append]; exact (hz.up uX.up).snoc (sm_shut (by omega) (by omega) hX hy24X hy27X) rfl⟩ (by dsimp only; omega)
   refine .al Fx.zero71 rfl fun b6 => .h1 <| .ct (X := Value) Fx.call27 rfl (fun W s => hit H1 _ W hs2 s.agr) rfl fun y24 H24 hy24 u24 => ?_
   obtain ⟨q24, d24, e24, _⟩ := hy24.sl
   simp only [List.cons.injEq, and_true, List.length_map] at e24
   subst e24
   refine .h1 <| .ct (X := Value) Fx.call27 rfl (fun W s => hie H24 _ W (hs3.up u24.up) s.agr) rfl fun y27 H27 hy27 u27 => ?_
   obtain ⟨q27, d27, e27, _⟩ := hy27.sl
   simp only [List.cons.injEq, and_true, List.length_map] at e27
   subst e27
   have u5 := u24.trans u27
   have hs1b := hs1.up u5.up
   have hy24b := hy24.up u27.up
   refine .yv (.build rfl (Fx.bld71_0_1_2_4_5 _ _ _ _ _ _ _ _ _)) rfl <| .fn (tl := [_]) rfl <| .sW .head rfl rfl Fx.size71 (by simp [Value.oneCell', strV]) rfl <| .nt <| .sq <| .sr <| .yv (.fieldAddr rfl Fx.field150_3) rfl <| .yv (.load rfl Fx.agg49 (.tail _ <| .head _) rfl) rfl <| .yv (.lenSl Fx.sl49 rfl) rfl <| .m rfl rfl <| ?_
   refine Sx.row0 60 4 ?_
   refine .nt <| .bk <| .lp (X := Nat × Hp × Value × List Value) [(3, _), (6, _), (9, _), (10, _), (11, _), (30, _), (31, _)] ⟨rfl, rfl, rfl, rfl, rfl, rfl, rfl, trivial⟩ [_, _] (fun z => [(32, .int .i64 (z.1 : Nat))]) (fun z => z.2.1) (fun z => [.row 60 4 z.2.2.1 z.1 z.2.2.2, .box b6 [.int .u8 kd.toNat, strV nm, strV hd, z.2.2.1, .slice q24 th.length d24, .slice q27 el.length d27] 71]) (fun z => z.1 ≤ ex.length ∧ HUp w H27 z.2.1 ∧ RepZ z.2.1 4 ((ex.take z.1).map (dEx .u8)) z.2.2.2) (fun z => ex.length - z.1) (0, H27, .slice none 0 0, []) (fun _ s => s) ⟨rfl, trivial⟩ ⟨by simp, .refl, RepZ.nil⟩ fun z hC => ?_
   obtain ⟨j, H3, re, ys⟩ := z
   dsimp only at hC ⊢
   obtain ⟨hj0, u3, hze⟩ := hC
   refine .sr <| .yv (.lss rfl rfl) rfl <| .nt <| .sq <| .cd rfl (fun h33 => ?_) (fun h33 => ?_)
   ·try simp only [dt] at h33
    have hj : j < ex.length := by omega
    obtain ⟨bF, oF, cF, hpF, rF, lF, mF⟩ := (hs1b.up u3.up).elem (map_at (f := dEx .i64) hj)
    cases hpF
    have hnj : Ex.all narrow ex[j] = true := by
      have := List.all_eq_true.1 k5 _ (List.getElem_mem hj)
      simp only [okE, Bool.and_eq_true] at this
      exact this.2
    refine .sk <| .tN <| .sq <| .bk <| .sr <| .yv (.indexSl Fx.sl49 rfl rfl rfl (by omega) (q := oF + j * 4) rfl) rfl <| .yv (.loadMW rfl Fx.agg51 mF lF) rfl <| .al Fx.zero51 rfl fun b8 => .sV .head rfl rfl Fx.size51 lF rF.one rfl <| .nt <| .fl (trip := [(_, _, _), (_, _, _), (_, _, _), (_, _, _), (_, _, _)]) 5 [(0, 0), (1, 0), (2, 0), (3, 1), (4, 1)] (by kernel_rfl) (by kernel_rfl) rfl <| .yv (.fieldAddr rfl Fx.field71_3) rfl <| .yv (.load rfl Fx.agg58 (.tail _ <| .tail _ <| .head _) rfl) rfl <| .yv (.loadW rfl Fx.agg51 (.head _) lF) rfl <| .ct (X := List Value) Fx.call19 rfl (fun W s => expr_any _ hnj H3 cF W rF s.agr) rfl fun x39 H39 hx39 u39 => ?_
    generalize hxj : ex[j] = xj at hx39
    obtain ⟨op2, nm2, n2, args2⟩ := xj
    obtain ⟨pz, cz, rfl, hz2, hnm2⟩ := ex_open hx39
    exact .bl rfl (Fx.bsl58_1 _ _ _ _) rfl fun b40 => .fn (tl := [_, _, _]) rfl <| .ap (news := [.int .u8 op2.toNat, strV nm2, .int .i64 n2.toInt, .slice pz args2.length cz]) Fx.row58 rfl (fun _ => (.tail <| .tail <| .head)) rfl (.box (.head _) z0) rfl (by simp [Value.oneCell', strV]) (by simp [maxLen]; omega) (by omega) rfl fun r41 _ => .ra (.tail _ <| .tail _ <| .head _) fun p41 c41 e41 => .yv (.fieldAddr rfl Fx.field71_3) rfl <| .st (.tail <| .tail <| .tail <| .head) rfl rfl Fx.size58 (by rw [e41]; rfl) (nb rfl) rfl <| .nl <| .bN <| .tN <| .rg <| .yv (.add rfl rfl (w6 (by omega))) rfl <| .m rfl rfl <| .nt <| .ag (x := (j, H3, re, ys)) (j + 1, H39, r41, ys ++ [.int .u8 op2.toNat, strV nm2, .int .i64 n2.toInt, .slice pz args2.length cz]) ⟨rfl, trivial⟩ ⟨rfl, rfl, rfl, rfl, rfl, rfl, rfl, trivial⟩ (fun _ s => (s.pick [2, 3, 4, 5] _ rfl rfl)) ⟨by dsimp only; omega, u3.trans u39, by dsimp only; rw [take_snoc hj, hxj, List.map_append]; exact (hze.up u39.up).snoc hx39 rfl⟩ (by dsimp only; omega)
   try simp only [df] at h33
   obtain rfl : j = ex.length := by omega
   rw [List.take_length] at hze
   refine Sx.freezeSeq (ds := ex.map (dEx .u8)) (by simp) hze fun H3 pX cX u6 eX hX => ?_
   subst eX
   have uX := u5.trans (u3.trans u6)
   have hy24X := hy24b.up (u3.trans u6).up
   have hy27X := hy27.up (u3.trans u6).up
   exact .ex <| .tE <| .tE <| .bE <| .tN <| .rg <| .m rfl rfl <| .yv (.loadW rfl Fx.agg71 (.head _) rfl) rfl <| .bl rfl (Fx.bsl69_1 _ _ _ _ _ _) rfl fun b46 => .ap (news := [.int .u8 kd.toNat, strV nm, strV hd, .slice pX ex.length cX, .slice q24 th.length d24, .slice q27 el.length d27]) Fx.row69 rfl (fun _ => (.tail <| .tail <| .tail <| .head)) rfl (.box (.head _) z0) rfl (by simp [Value.oneCell', strV]) (by simp [maxLen]; omega) (by omega) rfl fun r47 _ => .a rfl rfl <| .nl <| .bN <| .tN <| .rg <| .yv (.add rfl rfl (w6 (by omega))) rfl <| .m rfl rfl <| .nt <| .ag (x := (k, H1, r, xs)) (k + 1, H3, r47, xs ++ [.int .u8 kd.toNat, strV nm, strV hd, .slice pX ex.length cX, .slice q24 th.length d24, .slice q27 el.length d27]) ⟨rfl, rfl, trivial⟩ ⟨rfl, rfl, trivial⟩ (fun _ s => (s.pick [3] _ rfl rfl)) ⟨by dsimp only; omega, u1.trans uX, by dsimp only; rw [take_snoc hk, hx, List.map_append]; exact (hz.up uX.up).snoc (sm_shut (by omega) (by omega) hX hy24X hy27X) rfl⟩ (by dsimp only; omega)
  try simp only [df] at h12
  obtain rfl : k = l.length := by omega
  rw [List.take_length] at hz
  refine .ex <| .tE <| .tE <| .bE <| .tN <| .sr <| .m rfl rfl <| .a rfl rfl <| .nt <| .rt <| ?_
  refine Sx.freezeSeq (ds := l.map (dSm .u8)) (by simp) hz fun HZ pZ cZ uZ eZ hZ => ?_
  exact Sx.ret1 (.inl rfl) rfl (.tmp rfl) fun W t => ⟨r, HZ, hZ, rfl, (u1.trans uZ).grow t⟩
set_option maxHeartbeats 2000000 in
set_option maxRecDepth 100000 in
theorem syntax_any (N : Nat) (hN : N ≤ 1000000) (H : Hp) (f : Ft) (hok : okFt N f) (cs : List Value) (w : World) (h : Rep H (dFt .i64 f) cs) (hA : Agr H w) :
    Calls Tryz.prog 10 #[.agg cs.toArray] w fun r w' => ∃ (y : List Value) (H' : Hp), Rep H' (dFt .u8 f) y ∧ r = .returned (.agg y.toArray) ∧ Grow H w H' w' := by
  obtain ⟨p1, c1, p2, c2, p3, c3, rfl, nf, k1, k2, k3⟩ := ft_open h
  have hcap1 := k1.cap
  have hcap2 := k2.cap
  have hcap3 := k3.cap
  have hfl := hok.flags
  have hll := hok.links
  have hcl := hok.comps
  refine Sx.enter (H := H) Tryz.func10 rfl Tryz.ntmps10 rfl hA ?_
  refine .sr <| .bx rfl rfl rfl fun b1 => .al Fx.zero40 rfl fun b2 => .ns <| .yv (.fieldAddr rfl Fx.field32_0) rfl <| .yv (.load rfl Fx.agg9 (.tail _ <| .head _) rfl) rfl <| .yv (.build rfl (Fx.bld40_0 _)) rfl <| .al Fx.zero40 rfl fun b3 => .sW .head rfl rfl Fx.size40 (by simp [Value.oneCell', strV]) rfl <| .nt <| .sq <| .sr <| .yv (.fieldAddr rfl Fx.field32_1) rfl <| .yv (.load rfl Fx.agg28 (.tail _ <| .tail _ <| .head _) rfl) rfl <| .yv (.lenSl Fx.sl28 rfl) rfl <| .m rfl rfl <| ?_
  refine Sx.row0 65 2 ?_
  refine .nt <| .bk <| .lp (X := Nat × Value × List Value) [(1, _), (2, _), (3, _), (22, _), (23, _)] ⟨rfl, rfl, rfl, rfl, rfl, trivial⟩ [_, _] (fun z => [(24, .int .i64 (z.1 : Nat))]) (fun z => H) (fun z => [.row 65 2 z.2.1 z.1 z.2.2, .box b3 [strV f.nm, z.2.1, .slice none 0 0, .slice none 0 0] 40]) (fun z => z.1 ≤ f.flags.length ∧ RepZ H 2 ((f.flags.take z.1).map dFg) z.2.2) (fun z => f.flags.length - z.1) (0, .slice none 0 0, []) (fun _ s => s) ⟨rfl, trivial⟩ ⟨by simp, RepZ.nil⟩ fun z hC => ?_
  obtain ⟨k, r, xs⟩ := z
  dsimp only at hC ⊢
  obtain ⟨hk0, hz⟩ := hC
  refine .sr <| .yv (.lss rfl rfl) rfl <| .nt <| .sq <| .cd rfl (fun h25 => ?_) (fun h25 => ?_)
  ·try simp only [dt] at h25
   have hk : k < f.flags.length := by omega
   obtain ⟨bE, oE, cE, hpE, rE, lE, mE⟩ := k1.elem (map_at (f := dFg) hk)
   cases hpE
   generalize hx : f.flags[k] = x at rE
   obtain ⟨rfl, nx⟩ := fg_open rE
   exact .sk <| .tN <| .sq <| .bk <| .sr <| .yv (.indexSl Fx.sl28 rfl rfl rfl (by omega) (q := oE + k * 2) rfl) rfl <| .yv (.loadMW rfl Fx.agg84 mE rfl) rfl <| .al Fx.zero84 rfl fun b5 => .sW .head rfl rfl Fx.size84 (by simp [Value.oneCell', strV]) rfl <| .nt <| .rg <| .yv (.fieldAddr rfl Fx.field40_1) rfl <| .yv (.load rfl Fx.agg36 (.tail _ <| .tail _ <| .head _) rfl) rfl <| .yv (.fieldAddr rfl Fx.field84_0) rfl <| .yv (.load rfl Fx.agg9 (.head _) rfl) rfl <| .yv (.fieldAddr rfl Fx.field84_1) rfl <| .yv (.load rfl Fx.agg4 (.head _) rfl) rfl <| .yv (.build rfl (Fx.bld65_0_1 _ _)) rfl <| .bl rfl (Fx.bsl36_1 _ _) rfl fun b35 => .ap (news := [strV x.nm, .bool x.init]) Fx.row36 rfl (fun _ => (.tail <| .tail <| .head)) rfl (.box (.head _) z0) rfl (by simp [Value.oneCell', strV]) (by simp [maxLen]; omega) (by omega) rfl fun r36 _ => .ra (.tail _ <| .tail _ <| .head _) fun p36 c36 e36 => .yv (.fieldAddr rfl Fx.field40_1) rfl <| .st (.tail <| .tail <| .tail <| .head) rfl rfl Fx.size36 (by rw [e36]; rfl) (nb rfl) rfl <| .nl <| .bN <| .tN <| .rg <| .yv (.add rfl rfl (w6 (by omega))) rfl <| .m rfl rfl <| .nt <| .ag (x := (k, r, xs)) (k + 1, r36, xs ++ [strV x.nm, .bool x.init]) ⟨rfl, trivial⟩ ⟨rfl, rfl, rfl, rfl, rfl, trivial⟩ (fun _ s => (s.pick [2, 3, 4, 5] _ rfl rfl)) ⟨by dsimp only; omega, by dsimp only; rw [take_snoc hk, hx, List.map_append]; exact hz.snoc (fg_shut (x := x) nx) rfl⟩ (by dsimp only; omega)
  try simp only [df] at h25
  obtain rfl : k = f.flags.length := by omega
  rw [List.take_length] at hz
  refine Sx.freezeSeq (ds := f.flags.map dFg) (by simp) hz fun H4 p4 c4 u4 e4 h4 => ?_
  subst e4
  refine .ex <| .tE <| .tE <| .bE <| .tN <| .sq <| .sr <| .yv (.fieldAddr rfl Fx.field32_2) rfl <| .yv (.load rfl Fx.agg29 (.tail _ <| .tail _ <| .head _) rfl) rfl <| .yv (.lenSl Fx.sl29 rfl) rfl <| .m rfl rfl <| ?_
  refine Sx.row0 87 3 ?_
  have k24 := k2.up u4.up
  refine .nt <| .bk <| .lp (X := Nat × Value × List Value) [(1, _), (2, _), (3, _), (40, _), (41, _)] ⟨rfl, rfl, rfl, rfl, rfl, trivial⟩ [_, _] (fun z => [(42, .int .i64 (z.1 : Nat))]) (fun z => H4) (fun z => [.row 87 3 z.2.1 z.1 z.2.2, .box b3 [strV f.nm, .slice p4 f.flags.length c4, z.2.1, .slice none 0 0] 40]) (fun z => z.1 ≤ f.links.length ∧ RepZ H4 3 ((f.links.take z.1).map dLk) z.2.2) (fun z => f.links.length - z.1) (0, .slice none 0 0, []) (fun _ s => s) ⟨rfl, trivial⟩ ⟨by simp, RepZ.nil⟩ fun z hC => ?_
  obtain ⟨k, r, xs⟩ := z
  dsimp only at hC ⊢
  obtain ⟨hk0, hz⟩ := hC
  refine .sr <| .yv (.lss rfl rfl) rfl <| .nt <| .sq <| .cd rfl (fun h43 => ?_) (fun h43 => ?_)
  ·try simp only [dt] at h43
   have hk : k < f.links.length := by omega
   obtain ⟨bE, oE, cE, hpE, rE, lE, mE⟩ := k24.elem (map_at (f := dLk) hk)
   cases hpE
   generalize hx : f.links[k] = x at rE
   obtain ⟨rfl, nx, nx2⟩ := lk_open rE
   exact .sk <| .tN <| .sq <| .bk <| .sr <| .yv (.indexSl Fx.sl29 rfl rfl rfl (by omega) (q := oE + k * 3) rfl) rfl <| .yv (.loadMW rfl Fx.agg86 mE rfl) rfl <| .al Fx.zero86 rfl fun b7 => .sW .head rfl rfl Fx.size86 (by simp [Value.oneCell', strV]) rfl <| .nt <| .rg <| .yv (.fieldAddr rfl Fx.field40_2) rfl <| .yv (.load rfl Fx.agg37 (.tail _ <| .tail _ <| .head _) rfl) rfl <| .yv (.fieldAddr rfl Fx.field86_0) rfl <| .yv (.load rfl Fx.agg9 (.head _) rfl) rfl <| .yv (.fieldAddr rfl Fx.field86_1) rfl <| .yv (.load rfl Fx.agg9 (.head _) rfl) rfl <| .yv (.fieldAddr rfl Fx.field86_2) rfl <| .yv (.load rfl Fx.agg3 (.head _) rfl) rfl <| .yv (.build rfl (Fx.bld87_0_1_2 _ _ _)) rfl <| .bl rfl (Fx.bsl37_1 _ _ _) rfl fun b55 => .ap (news := [strV x.fr, strV x.to, .int .i64 x.lat.toInt]) Fx.row37 rfl (fun _ => (.tail <| .tail <| .head)) rfl (.box (.head _) z0) rfl (by simp [Value.oneCell', strV]) (by simp [maxLen]; omega) (by omega) rfl fun r56 _ => .ra (.tail _ <| .tail _ <| .head _) fun p56 c56 e56 => .yv (.fieldAddr rfl Fx.field40_2) rfl <| .st (.tail <| .tail <| .tail <| .head) rfl rfl Fx.size37 (by rw [e56]; rfl) (nb rfl) rfl <| .nl <| .bN <| .tN <| .rg <| .yv (.add rfl rfl (w6 (by omega))) rfl <| .m rfl rfl <| .nt <| .ag (x := (k, r, xs)) (k + 1, r56, xs ++ [strV x.fr, strV x.to, .int .i64 x.lat.toInt]) ⟨rfl, trivial⟩ ⟨rfl, rfl, rfl, rfl, rfl, trivial⟩ (fun _ s => (s.pick [2, 3, 4, 5] _ rfl rfl)) ⟨by dsimp only; omega, by dsimp only; rw [take_snoc hk, hx, List.map_append]; exact hz.snoc (lk_shut (x := x) nx nx2) rfl⟩ (by dsimp only; omega)
  try simp only [df] at h43
  obtain rfl : k = f.links.length := by omega
  rw [List.take_length] at hz
  refine Sx.freezeSeq (ds := f.links.map dLk) (by simp) hz fun H5 p5 c5 u5 e5 h5 => ?_
  subst e5
  refine .ex <| .tE <| .tE <| .bE <| .tN <| .sq <| .sr <| .yv (.fieldAddr rfl Fx.field32_3) rfl <| .yv (.load rfl Fx.agg30 (.tail _ <| .tail _ <| .head _) rfl) rfl <| .yv (.lenSl Fx.sl30 rfl) rfl <| .m rfl rfl <| ?_
  refine Sx.row0 80 3 ?_
  have k35 := k3.up (u4.trans u5).up
  have h45 := h4.up u5.up
  refine .nt <| .bk <| .lp (X := Nat × Hp × Value × List Value) [(2, _), (3, _), (60, _), (61, _)] ⟨rfl, rfl, rfl, rfl, trivial⟩ [_, _] (fun z => [(62, .int .i64 (z.1 : Nat))]) (fun z => z.2.1) (fun z => [.row 80 3 z.2.2.1 z.1 z.2.2.2, .box b3 [strV f.nm, .slice p4 f.flags.length c4, .slice p5 f.links.length c5, z.2.2.1] 40]) (fun z => z.1 ≤ f.comps.length ∧ HUp w H5 z.2.1 ∧ RepZ z.2.1 3 ((f.comps.take z.1).map (dCp .u8)) z.2.2.2) (fun z => f.comps.length - z.1) (0, H5, .slice none 0 0, []) (fun _ s => s) ⟨rfl, trivial⟩ ⟨by simp, .refl, RepZ.nil⟩ fun z hC => ?_
  obtain ⟨k, Ha, rc, xs⟩ := z
  dsimp only at hC ⊢
  obtain ⟨hk0, ua, hz⟩ := hC
  refine .sr <| .yv (.lss rfl rfl) rfl <| .nt <| .sq <| .cd rfl (fun h63 => ?_) (fun h63 => ?_)
  ·try simp only [dt] at h63
   have hk : k < f.comps.length := by omega
   obtain ⟨bE, oE, cE, hpE, rE, lE, mE⟩ := (k35.up ua.up).elem (map_at (f := dCp .i64) hk)
   cases hpE
   have okc := hok.all _ (List.getElem_mem hk)
   generalize hx : f.comps[k] = x at rE okc
   obtain ⟨q1, d1, q2, d2, rfl, nx, g1, g2⟩ := cp_open rE
   have hcv := g1.cap
   have hcr := g2.cap
   have hvl := okc.vars
   have hrl := okc.vers
   refine .sk <| .tN <| .sq <| .bk <| .sr <| .yv (.indexSl Fx.sl30 rfl rfl rfl (by omega) (q := oE + k * 3) rfl) rfl <| .yv (.loadMW rfl Fx.agg91 mE rfl) rfl <| .al Fx.zero91 rfl fun b9 => .sW .head rfl rfl Fx.size91 (by simp [Value.oneCell', strV]) rfl <| .ns <| .yv (.fieldAddr rfl Fx.field91_0) rfl <| .yv (.load rfl Fx.agg9 (.head _) rfl) rfl <| .yv (.build rfl (Fx.bld80_0 _)) rfl <| .al Fx.zero80 rfl fun b10 => .sW .head rfl rfl Fx.size80 (by simp [Value.oneCell', strV]) rfl <| .nt <| .sq <| .sr <| .yv (.fieldAddr rfl Fx.field91_1) rfl <| .yv (.load rfl Fx.agg88 (.tail _ <| .head _) rfl) rfl <| .yv (.lenSl Fx.sl88 rfl) rfl <| .m rfl rfl <| ?_
   refine Sx.row0 96 3 ?_
   refine .nt <| .bk <| .lp (X := Nat × Value × List Value) [(2, _), (3, _), (9, _), (10, _), (60, _), (61, _), (62, _), (70, _), (71, _)] ⟨rfl, rfl, rfl, rfl, rfl, rfl, rfl, rfl, rfl, trivial⟩ [_, _, _, _, _] (fun z => [(72, .int .i64 (z.1 : Nat))]) (fun z => Ha) (fun z => [.row 96 3 z.2.1 z.1 z.2.2, .box b10 [strV x.nm, z.2.1, .slice none 0 0] 80]) (fun z => z.1 ≤ x.vars.length ∧ RepZ Ha 3 ((x.vars.take z.1).map (dVr .u8)) z.2.2) (fun z => x.vars.length - z.1) (0, .slice none 0 0, []) (fun _ s => s) ⟨rfl, trivial⟩ ⟨by simp, RepZ.nil⟩ fun z hC => ?_
   obtain ⟨j, rv, ys⟩ := z
   dsimp only at hC ⊢
   obtain ⟨hj0, hzv⟩ := hC
   refine .sr <| .yv (.lss rfl rfl) rfl <| .nt <| .sq <| .cd rfl (fun h73 => ?_) (fun h73 => ?_)
   ·try simp only [dt] at h73
    have hj : j < x.vars.length := by omega
    obtain ⟨bF, oF, cF, hpF, rF, lF, mF⟩ := g1.elem (map_at (f := dVr .i64) hj)
    cases hpF
    generalize hv : x.vars[j] = v at rF
    obtain ⟨rfl, nv⟩ := vr_open rF
    exact .sk <| .tN <| .sq <| .bk <| .sr <| .yv (.indexSl Fx.sl88 rfl rfl rfl (by omega) (q := oF + j * 3) rfl) rfl <| .yv (.loadMW rfl Fx.agg93 mF rfl) rfl <| .al Fx.zero93 rfl fun b12 => .sW .head rfl rfl Fx.size93 (by simp [Value.oneCell', strV]) rfl <| .nt <| .rg <| .yv (.fieldAddr rfl Fx.field80_1) rfl <| .yv (.load rfl Fx.agg78 (.tail _ <| .tail _ <| .head _) rfl) rfl <| .yv (.fieldAddr rfl Fx.field93_0) rfl <| .yv (.load rfl Fx.agg9 (.head _) rfl) rfl <| .yv (.fieldAddr rfl Fx.field93_1) rfl <| .yv (.load rfl Fx.agg3 (.head _) rfl) rfl <| .yv (.conv rfl Fx.int3 Fx.int94 (c := (v.ty.toNat : Nat)) (by have := v.ty.toNat_lt; simp only [IntKind.wrap, IntKind.signed, IntKind.bits]; simp; omega)) rfl <| .yv (.fieldAddr rfl Fx.field93_2) rfl <| .yv (.load rfl Fx.agg2 (.head _) rfl) rfl <| .yv (.build rfl (Fx.bld96_0_1_2 _ _ _)) rfl <| .bl rfl (Fx.bsl78_1 _ _ _) rfl fun b86 => .ap (news := [strV v.nm, .int .u8 v.ty.toNat, .int .i64 v.init.toInt]) Fx.row78 rfl (fun _ => (.tail <| .tail <| .head)) rfl (.box (.head _) z0) rfl (by simp [Value.oneCell', strV]) (by simp [maxLen]; omega) (by omega) rfl fun r87 _ => .ra (.tail _ <| .tail _ <| .head _) fun p87 c87 e87 => .yv (.fieldAddr rfl Fx.field80_1) rfl <| .st (.tail <| .tail <| .tail <| .head) rfl rfl Fx.size78 (by rw [e87]; rfl) (nb rfl) rfl <| .nl <| .bN <| .tN <| .rg <| .yv (.add rfl rfl (w6 (by omega))) rfl <| .m rfl rfl <| .nt <| .ag (x := (j, rv, ys)) (j + 1, r87, ys ++ [strV v.nm, .int .u8 v.ty.toNat, .int .i64 v.init.toInt]) ⟨rfl, trivial⟩ ⟨rfl, rfl, rfl, rfl, rfl, rfl, rfl, rfl, rfl, trivial⟩ (fun _ s => (s.pick [2, 3, 4, 5, 6, 7, 8] _ rfl rfl)) ⟨by dsimp only; omega, by dsimp only; rw [take_snoc hj, hv, List.map_append]; exact hzv.snoc (vr_shut (x := v) nv) rfl⟩ (by dsimp only; omega)
   try simp only [df] at h73
   obtain rfl : j = x.vars.length := by omega
   rw [List.take_length] at hzv
   refine Sx.freezeSeq (ds := x.vars.map (dVr .u8)) (by simp) hzv fun HV pV cV uV eV hV => ?_
   subst eV
   refine .ex <| .tE <| .tE <| .bE <| .tN <| .sq <| .sr <| .yv (.fieldAddr rfl Fx.field91_2) rfl <| .yv (.load rfl Fx.agg89 (.tail _ <| .head _) rfl) rfl <| .yv (.lenSl Fx.sl89 rfl) rfl <| .m rfl rfl <| ?_
   refine Sx.row0 76 1 ?_
   refine .nt <| .bk <| .lp (X := Nat × Hp × Value × List Value) [(2, _), (3, _), (10, _), (60, _), (61, _), (62, _), (91, _), (92, _)] ⟨rfl, rfl, rfl, rfl, rfl, rfl, rfl, rfl, trivial⟩ [_, _, _, _, _] (fun z => [(93, .int .i64 (z.1 : Nat))]) (fun z => z.2.1) (fun z => [.row 76 1 z.2.2.1 z.1 z.2.2.2, .box b10 [strV x.nm, .slice pV x.vars.length cV, z.2.2.1] 80]) (fun z => z.1 ≤ x.vers.length ∧ HUp w HV z.2.1 ∧ RepZ z.2.1 1 ((x.vers.take z.1).map (dVs .u8)) z.2.2.2) (fun z => x.vers.length - z.1) (0, HV, .slice none 0 0, []) (fun _ s => s) ⟨rfl, trivial⟩ ⟨by simp, .refl, RepZ.nil⟩ fun z hC => ?_
   obtain ⟨i, Hb, rs, ws⟩ := z
   dsimp only at hC ⊢
   obtain ⟨hi0, ub, hzs⟩ := hC
   refine .sr <| .yv (.lss rfl rfl) rfl <| .nt <| .sq <| .cd rfl (fun h94 => ?_) (fun h94 => ?_)
   ·try simp only [dt] at h94
    have hi : i < x.vers.length := by omega
    obtain ⟨bG, oG, cG, hpG, rG, lG, mG⟩ := (g2.up (uV.trans ub).up).elem (map_at (f := dVs .i64) hi)
    cases hpG
    have okv := okc.all _ (List.getElem_mem hi)
    generalize hxv : x.vers[i] = v at rG okv
    obtain ⟨pv, cv, rfl, gv⟩ := vs_open rG
    have hcw := gv.cap
    have hwl := okv.len
    refine .sk <| .tN <| .sq <| .bk <| .sr <| .yv (.indexSl Fx.sl89 rfl rfl (i := i) rfl hi (q := oG + i * 1) rfl) rfl <| .yv (.loadM rfl Fx.agg97 mG (k := 0) rfl rfl) rfl <| .a rfl rfl <| .ns <| .al Fx.zero76 rfl fun b15 => .nt <| .sq <| .sr <| .m rfl rfl <| .yv (.lenSl Fx.sl97 rfl) rfl <| .m rfl rfl <| ?_
    refine Sx.row0 73 3 ?_
    refine .nt <| .bk <| .lp (X := Nat × Hp × Value × List Value) [(2, _), (3, _), (10, _), (15, _), (60, _), (61, _), (62, _), (91, _), (92, _), (93, _), (97, _), (98, _)] ⟨rfl, rfl, rfl, rfl, rfl, rfl, rfl, rfl, rfl, rfl, rfl, rfl, trivial⟩ [_, _, _, _, _, _, _] (fun z => [(99, .int .i64 (z.1 : Nat))]) (fun z => z.2.1) (fun z => [.row 73 3 z.2.2.1 z.1 z.2.2.2, .box b15 [z.2.2.1] 76]) (fun z => z.1 ≤ v.length ∧ HUp w Hb z.2.1 ∧ RepZ z.2.1 3 ((v.take z.1).map (dHd .u8)) z.2.2.2) (fun z => v.length - z.1) (0, Hb, .slice none 0 0, []) (fun _ s => s) ⟨rfl, trivial⟩ ⟨by simp, .refl, RepZ.nil⟩ fun z hC => ?_
    obtain ⟨j, Hc, rh, zs⟩ := z
    dsimp only at hC ⊢
    obtain ⟨hj0, uc, hzh⟩ := hC
    refine .sr <| .yv (.lss rfl rfl) rfl <| .nt <| .sq <| .cd rfl (fun h100 => ?_) (fun h100 => ?_)
    ·try simp only [dt] at h100
     have hj : j < v.length := by omega
     obtain ⟨bI, oI, cI, hpI, rI, lI, mI⟩ := (gv.up uc.up).elem (map_at (f := dHd .i64) hj)
     cases hpI
     have okh := okv.all _ (List.getElem_mem hj)
     generalize hxh : v[j] = y at rI okh
     obtain ⟨t1, w1, t2, w2, rfl, ny, m1, m2⟩ := hd_open rI
     have hyl := okh.ps
     refine .sk <| .tN <| .sq <| .bk <| .sr <| .yv (.indexSl Fx.sl97 rfl rfl rfl (by omega) (q := oI + j * 3) rfl) rfl <| .yv (.loadMW rfl Fx.agg100 mI rfl) rfl <| .al Fx.zero100 rfl fun b17 => .sW .head rfl rfl Fx.size100 (by simp [Value.oneCell', strV]) rfl <| .nt <| ?_
     refine Sx.row0 9 1 ?_
     refine .fl (trip := [(_, _, _), (_, _, _), (_, _, _), (_, _, _), (_, _, _), (_, _, _), (_, _, _), (_, _, _), (_, _, _), (_, _, _), (_, _, _), (_, _, _)]) 12 [(0, 0), (1, 0), (2, 0), (3, 0), (4, 0), (5, 0), (7, 0), (8, 0), (6, 3), (9, 1), (10, 0), (11, 1)] (by kernel_rfl) (by kernel_rfl) rfl <| .yv (.fieldAddr rfl Fx.field76_0) rfl <| .yv (.load rfl Fx.agg74 (.tail _ <| .tail _ <| .tail _ <| .head _) rfl) rfl <| .yv (.fieldAddr rfl Fx.field100_0) rfl <| .yv (.load rfl Fx.agg9 (.tail _ <| .head _) rfl) rfl <| .yv (.fieldAddr rfl Fx.field100_1) rfl <| .yv (.load rfl Fx.agg66 (.tail _ <| .head _) rfl) rfl <| .yv (.fieldAddr rfl Fx.field100_2) rfl <| .yv (.load rfl Fx.agg98 (.tail _ <| .head _) rfl) rfl <| .apD0 Fx.row66 rfl (fun _ _ => .head) rfl m1 (by simp [maxLen]; omega) (by omega) rfl (fun _ _ => (.yv (.load rfl Fx.agg98 (.tail _ <| .head _) rfl) <| .yv (.fieldAddr rfl Fx.field100_2) <| .done (by kernel_rfl) <| .done (by kernel_rfl) <| .yv (.load rfl Fx.agg9 (.tail _ <| .head _) rfl) <| .yv (.fieldAddr rfl Fx.field100_0) <| .yv (.load rfl Fx.agg74 (.tail _ <| .tail _ <| .tail _ <| .head _) rfl) <| .yv (.fieldAddr rfl Fx.field76_0) <| .nl)) fun xs109 p109 c109 hz109 => .ct (X := Value) Fx.call27 rfl (fun W t => bodyL_any N hN y.body okh.body Hc _ W m2 t.agr) rfl fun y112 H112 hy112 u112 => ?_
     obtain ⟨pB, cB, eB, _⟩ := hy112.sl
     simp only [List.cons.injEq, and_true, List.length_map] at eB
     subst eB
     refine .yv (.build rfl (Fx.bld73_0_1_2 _ _ _ _ _ _ _)) rfl <| .bl rfl (Fx.bsl74_1 _ _ _) rfl fun b114 => .fn (tl := [_, _, _]) rfl <| .ap (news := [strV y.nm, .slice p109 y.ps.length c109, .slice pB y.body.length cB]) Fx.row74 rfl (fun _ => (.tail <| .tail <| .tail <| .head)) rfl (.box (.head _) z0) rfl (by simp [Value.oneCell', strV]) (by simp [maxLen]; omega) (by omega) rfl fun r115 _ => .ra (.tail _ <| .tail _ <| .tail _ <| .head _) fun p115 c115 e115 => .yv (.fieldAddr rfl Fx.field76_0) rfl <| .st (.tail <| .tail <| .tail <| .tail <| .head) rfl rfl Fx.size74 (by rw [e115]; rfl) (nb rfl) rfl <| ?_
     refine At.pm [1, 0, 2, 3, 4, 5, 6, 7, 8, 9, 10, 11] [_, _, _, _, _, _, _, _, _, _, _, _] rfl rfl ?_
     refine Sx.freezeSeq (ds := y.ps.map dStr) (by simp) (RepZ.up u112.up hz109) fun HP pP cP uP eP hP => ?_
     obtain ⟨rfl, rfl⟩ := sl_inj eP
     exact .nl <| .bN <| .tN <| .rg <| .yv (.add rfl rfl (w6 (by omega))) rfl <| .m rfl rfl <| .nt <| .ag (x := (j, Hc, rh, zs)) (j + 1, HP, r115, zs ++ [strV y.nm, .slice p109 y.ps.length c109, .slice pB y.body.length cB]) ⟨rfl, trivial⟩ ⟨rfl, rfl, rfl, rfl, rfl, rfl, rfl, rfl, rfl, rfl, rfl, rfl, trivial⟩ (fun _ s => (s.pick [2, 3, 4, 5, 6, 7, 8, 9, 10] _ rfl rfl)) ⟨by dsimp only; omega, uc.trans (u112.trans uP), by dsimp only; rw [take_snoc hj, hxh, List.map_append]; exact (hzh.up (u112.trans uP).up).snoc (hd_shut (x := y) ny hP (hy112.up uP.up)) rfl⟩ (by dsimp only; omega)
    try simp only [df] at h100
    obtain rfl : j = v.length := by omega
    rw [List.take_length] at hzh
    refine Sx.freezeSeq (ds := v.map (dHd .u8)) (by simp) hzh fun HH pH cH uH eH hH => ?_
    subst eH
    have uh := uc.trans uH
    exact .ex <| .tE <| .tE <| .bE <| .tN <| .rg <| .yv (.fieldAddr rfl Fx.field80_2) rfl <| .yv (.load rfl Fx.agg77 (.tail _ <| .tail _ <| .head _) rfl) rfl <| .yv (.loadW rfl Fx.agg76 (.head _) rfl) rfl <| .bl rfl (Fx.bsl77_1 _) rfl fun b121 => .ap (news := [.slice pH v.length cH]) Fx.row77 rfl (fun _ => (.tail <| .tail <| .head)) rfl (.box (.head _) z0) rfl (by simp [Value.oneCell', strV]) (by simp [maxLen]; omega) (by omega) rfl fun r122 _ => .ra (.tail _ <| .tail _ <| .head _) fun p122 c122 e122 => .yv (.fieldAddr rfl Fx.field80_2) rfl <| .st (.tail <| .tail <| .tail <| .head) rfl rfl Fx.size77 (by rw [e122]; rfl) (nb rfl) rfl <| .nl <| .bN <| .tN <| .rg <| .yv (.add rfl rfl (w6 (by omega))) rfl <| .m rfl rfl <| .nt <| .ag (x := (i, Hb, rs, ws)) (i + 1, HH, r122, ws ++ [.slice pH v.length cH]) ⟨rfl, trivial⟩ ⟨rfl, rfl, rfl, rfl, rfl, rfl, rfl, rfl, trivial⟩ (fun _ s => (s.pick [2, 3, 4, 5, 6, 7, 8] _ rfl rfl)) ⟨by dsimp only; omega, ub.trans uh, by dsimp only; rw [take_snoc hi, hxv, List.map_append]; exact (hzs.up uh.up).snoc hH rfl⟩ (by dsimp only; omega)
   try simp only [df] at h94
   obtain rfl : i = x.vers.length := by omega
   rw [List.take_length] at hzs
   refine Sx.freezeSeq (ds := x.vers.map (dVs .u8)) (by simp) hzs fun HS pS cS uS eS hS => ?_
   subst eS
   have uX := uV.trans (ub.trans uS)
   have hVX := hV.up (ub.trans uS).up
   exact .ex <| .tE <| .tE <| .bE <| .tN <| .rg <| .yv (.fieldAddr rfl Fx.field40_3) rfl <| .yv (.load rfl Fx.agg38 (.tail _ <| .tail _ <| .tail _ <| .head _) rfl) rfl <| .yv (.loadW rfl Fx.agg80 (.head _) rfl) rfl <| .bl rfl (Fx.bsl38_1 _ _ _) rfl fun b128 => .ap (news := [strV x.nm, .slice pV x.vars.length cV, .slice pS x.vers.length cS]) Fx.row38 rfl (fun _ => (.tail <| .tail <| .tail <| .head)) rfl (.box (.head _) z0) rfl (by simp [Value.oneCell', strV]) (by simp [maxLen]; omega) (by omega) rfl fun r129 _ => .ra (.tail _ <| .tail _ <| .tail _ <| .head _) fun p129 c129 e129 => .yv (.fieldAddr rfl Fx.field40_3) rfl <| .st (.tail <| .tail <| .tail <| .tail <| .head) rfl rfl Fx.size38 (by rw [e129]; rfl) (nb rfl) rfl <| .nl <| .bN <| .tN <| .rg <| .yv (.add rfl rfl (w6 (by omega))) rfl <| .m rfl rfl <| .nt <| .ag (x := (k, Ha, rc, xs)) (k + 1, HS, r129, xs ++ [strV x.nm, .slice pV x.vars.length cV, .slice pS x.vers.length cS]) ⟨rfl, trivial⟩ ⟨rfl, rfl, rfl, rfl, trivial⟩ (fun _ s => (s.pick [3, 4, 5, 6] _ rfl rfl)) ⟨by dsimp only; omega, ua.trans uX, by dsimp only; rw [take_snoc hk, hx, List.map_append]; exact (hz.up uX.up).snoc (cp_shut (x := x) nx hVX hS) rfl⟩ (by dsimp only; omega)
  try simp only [df] at h63
  obtain rfl : k = f.comps.length := by omega
  rw [List.take_length] at hz
  refine Sx.freezeSeq (ds := f.comps.map (dCp .u8)) (by simp) hz fun HZ pZ cZ uZ eZ hZ => ?_
  subst eZ
  refine .ex <| .tE <| .tE <| .bE <| .tN <| .sr <| .yv (.loadW rfl Fx.agg40 (.head _) rfl) rfl <| .sW (.tail <| .head) rfl rfl Fx.size40 (by simp [Value.oneCell', strV]) rfl <| .nt <| .rt <| ?_
  exact Sx.ret1 (.inl rfl) rfl (.cell rfl Fx.agg40 (.tail _ <| .head _) rfl) fun W t => ⟨_, HZ, ft_shut (x := f) nf (h45.up (ua.trans uZ).up) (h5.up (ua.trans uZ).up) hZ, rfl, (u4.trans (u5.trans (ua.trans uZ))).grow t⟩
theorem Fx.call7 : callN Tryz.prog 7 = Bool.true := by kernel_rfl
theorem Fx.call8 : callN Tryz.prog 8 = Bool.true := by kernel_rfl
theorem Fx.call10 : callN Tryz.prog 10 = Bool.true := by kernel_rfl
theorem Fx.call11 : callN Tryz.prog 11 = Bool.true := by kernel_rfl
theorem okS1_of {N : Nat} : ∀ s, okS2 N s = true → okS1 s = true
  | .mk _ _ _ ex _ _, h => by
    simp only [okS2, Bool.and_eq_true, List.all_eq_true] at h
    simp only [okS1, List.all_eq_true, decide_eq_true_eq]
    intro e he
    have := h.2 e he
    simp only [okE, Bool.and_eq_true, decide_eq_true_eq] at this
    omega
theorem evH_ok {N : Nat} (hN : N ≤ 1000000) {f : Ft} (h : okFt N f) : evH okH f = true := by
  simp only [evH, List.all_eq_true]
  intro c hc v hv x hx
  have k := ((h.all c hc).all v hv).all x hx
  have k1 := k.body.cnt
  have k2 := k.body.dep
  simp only [okH, Bool.and_eq_true, decide_eq_true_eq]
  exact ⟨⟨by omega, by omega⟩, salls_imp okS1_of _ k.body.all⟩
set_option maxRecDepth 100000 in
theorem syntaxChecks_any (H : Hp) (G : Gl H) (g : Gt H) (p : Pln) (l : List Sp) (cs : List Value) (v0 : Value) (h : Rep H (dPln p) cs) (hl : Rep H (.seq 5 (l.map dSp)) [v0]) (w : World) (hA : Agr H w) :
    Calls Tryz.prog 3 #[.agg cs.toArray, v0] w fun r w' => r = .returned (.bool true) ∧ Ext w w' := by
  obtain ⟨p1, c1, p2, c2, rfl, _, _⟩ := pln_open h
  refine Sx.enter (H := H) Tryz.func3 rfl Tryz.ntmps3 rfl hA ?_
  refine .sr <| .bx rfl rfl rfl fun b2 => .a rfl rfl <| .nt <| .sq <| .sr <| .yv (.call Fx.call7 rfl (fun W t => awake_any H G g W t.agr)) rfl <| .yv (.not rfl) rfl <| .nt <| .cF rfl <| .sk <| .tN <| .sr <| .yv (.loadW rfl Fx.agg25 (.head _) rfl) rfl <| .m rfl rfl <| .ct (X := List Value) Fx.call8 rfl (fun W t => spoilt_any H p l _ v0 W h hl t.agr) rfl fun x1 H1 hc1 u1 => ?_
  obtain ⟨f, hf, hok⟩ := hc1
  refine .al Fx.zero32 rfl fun b5 => .sV .head rfl rfl Fx.size32 (ft_len hf) hf.one rfl <| .nt <| .sq <| .fl (trip := [(_, _, _), (_, _, _), (_, _, _), (_, _, _), (_, _, _), (_, _, _)]) 6 [(0, 0), (3, 0), (1, 1), (2, 0), (4, 0), (5, 0)] (by kernel_rfl) (by kernel_rfl) rfl <| .yv (.loadW rfl Fx.agg32 (.head _) (ft_len hf)) rfl <| .yv (.loadW rfl Fx.agg32 (.head _) (ft_len hf)) rfl <| .ct (X := List Value) Fx.call10 rfl (fun W t => syntax_any 50000 (by decide) H1 f hok x1 W hf t.agr) rfl fun y1 H2 hy1 u2 => ?_
  have hf2 := hf.up u2.up
  have v2 := u1.up.trans u2.up
  refine .yv (.call Fx.call9 rfl (fun W t => check_any H2 (G.up v2) f y1 hy1 (evH_ok (by decide) hok) W t.agr)) rfl <| .yv (.call Fx.call11 rfl (fun W t => checkR_f 50000 (by decide) H2 f hok x1 W hf2 t.agr)) rfl <| .yv (eqIt rfl rfl) rfl <| .fn (tl := [_]) rfl <| .a rfl rfl <| .nt <| .rt <| ?_
  exact Sx.ret1 (.inl rfl) rfl (.tmp rfl) fun W t => ⟨rfl, ((u1.trans u2).grow t).ext⟩
variable {H : Type} {enc : TypeId × Value → H}
theorem wrap {a : Assume} {C : Checked} {os : Os} {f : FuncId} {fn : Func} {s : ChangeSpec} {conds : List PathCond} {apart fresh handsOn again : Bool} {X : World → Array Value → Prop}
    (hX : ∀ (w w' : World) (args : Array Value), w.heap = w'.heap → X w args → X w' args)
    (own : ownKnob C.prog.godebug = none) (started : os.Started) (noInit : C.prog.inits.idxOf? f = none) (hfn : C.prog.funcs[f]? = some fn)
    (witness : ∃ (w : World) (tape : Tape) (i : Input), w.os = os ∧ (w.forCall tape i).Shaped C.prog ∧ i.vars = [] ∧ Input.okWide C.prog (w.forCall tape i) .any w.heap.size f i ∧
      ((s.pre enc C.prog fn conds apart (w.forCall tape i).memory i.args ∧ X (w.forCall tape i).memory i.args) ∧ sizedMet enc C.prog fn (OpenSpec.ofChange s) apart (w.forCall tape i).memory i.args) ∧ a.holds C.prog (lone (Frame.enter C.prog f i.args .normal) [] (w.forCall tape i)))
    (contract : ∀ (W : World) (base : Nat) (args : Array Value) (ds gs : List (DataW H)) (before : List MemPlace),
      (∀ (j : Nat) t v, fn.params[j]? = some t → args[j]? = some v → Value.okWide C.prog W .any base t v) →
      DataW.Whole enc C.prog fn.params.toList s.vars apart W args.toList ds gs before →
      X W args → W.ShapedOpen C.prog →
      Calls C.prog f args W fun e W' => ∃ v, e = .returned v ∧ s.post enc C.prog fn apart fresh handsOn again W args v W') :
    ReturnsInHanded a C os f .any (fun w args => (s.pre enc C.prog fn conds apart w args ∧ X w args) ∧ sizedMet enc C.prog fn (OpenSpec.ofChange s) apart w args) (s.post enc C.prog fn apart fresh handsOn again) := by
  refine returnsInHanded_of_calls own started noInit witness ?_
  intro w tape i _ hsh _ hok hpre _
  obtain ⟨_, _, _, fn', hfn', _, _, _, _, hval⟩ := hok
  have e : fn' = fn := Option.some.inj (hfn'.symm.trans hfn)
  subst e
  obtain ⟨⟨⟨ds, gs, before, hw, _⟩, hx⟩, _⟩ := hpre
  have hw' := DataW.Whole.of_heap (w' := w.forCall tape i) (by rfl) hw
  refine (contract (w.forCall tape i) w.heap.size i.args ds gs before hval hw' (hX _ _ _ (by rfl) hx) hsh).mono fun e W' ⟨v, he, hp⟩ => ?_
  subst he
  exact ChangeSpec.post_blind hp

theorem own : ownKnob Tryz.prog.godebug = none := by kernel_rfl
def laids : List (String × DataW Unit) := [("math/bits.deBruijn32tab", Rows.laid_math_bits_deBruijn32tab), ("math/bits.deBruijn64tab", Rows.laid_math_bits_deBruijn64tab), ("internal/strconv.uint64pow10", Rows.laid_internal_strconv_uint64pow10), ("rootcause/lexer.words", Rows.laid_rootcause_lexer_words), ("rootcause/lexer.symbols", Rows.laid_rootcause_lexer_symbols), ("rootcause/syntax.shapes", Rows.laid_rootcause_syntax_shapes), ("rootcause/syntax.forms", Rows.laid_rootcause_syntax_forms)]
theorem gTab : Tryz.prog.globalNamed "internal/strconv.uint64pow10" = some 4 := by kernel_rfl
theorem gTabT : (Tryz.prog.globals[4]?).map (·.type) = some 237 := by kernel_rfl
theorem cellsTab : Tryz.prog.cellsOf 237 = 20 := by kernel_rfl
theorem cellsTabE : Tryz.prog.cellsOf 139 = 1 := by kernel_rfl
theorem tabEq : (Rows.laid_internal_strconv_uint64pow10 : DataW Unit) = Lib.tabData .u64 Lib.pow10Tab := by kernel_rfl
theorem gt_of {W : World} (h : laidMet Tryz.prog laids W) : Gt (allH W) := by
  intro W' hA
  have h1 : Lib.TabIs Tryz.prog W "internal/strconv.uint64pow10" .u64 Lib.pow10Tab := Lib.tabIs_of_head gTab gTabT Tryz.underlying237 Tryz.underlying139 cellsTabE cellsTab (tabEq ▸ h.tail.tail)
  unfold Lib.TabIs World.var? at *
  rw [gTab] at *
  simp only [Option.bind_some] at *
  split at h1
  · rename_i cs T m hb
    rw [hA 4 _ hb]
    exact h1
  · cases h1
theorem gl_of {W : World} (h : laidMet Tryz.prog laids W) : Gl (allH W) :=
  ⟨laid_mem (t := 213) (.arr 24 (.str [.int .i64, .bool, .int .i64, .strg])) _ (by kernel_rfl) (by kernel_rfl) (by kernel_rfl) (by kernel_rfl) (by kernel_rfl) h.tail.tail.tail.tail.tail,
   laid_mem (t := 218) (.arr 11 (.str [.bool, .bool, .int .i64, .int .i64, .bool, .bool])) _ (by kernel_rfl) (by kernel_rfl) (by kernel_rfl) (by kernel_rfl) (by kernel_rfl) h.tail.tail.tail.tail.tail.tail,
   laid_mem (t := 233) (.arr 39 .strg) _ (by kernel_rfl) (by kernel_rfl) (by kernel_rfl) (by kernel_rfl) (by kernel_rfl) h.tail.tail.tail,
   laid_mem (t := 216) (.arr 25 .strg) _ (by kernel_rfl) (by kernel_rfl) (by kernel_rfl) (by kernel_rfl) (by kernel_rfl) h.tail.tail.tail.tail⟩
theorem laid_met (os : Os) (args : Array Value) : laidMet Tryz.prog laids ((World.laidAll Tryz.prog os laids).forCall (fun _ _ => 0) ⟨#[], args, []⟩).memory :=
  laidMet_laidAll _ (by kernel_rfl) (by kernel_rfl)
theorem laid_shaped (os : Os) (args : Array Value) : ((World.laidAll Tryz.prog os laids).forCall (fun _ _ => 0) ⟨#[], args, []⟩).Shaped Tryz.prog :=
  World.shaped_of_ZipB (by kernel_rfl) (by kernel_rfl)
theorem ext_kept {W W' : World} (h : Ext W W') : ∀ may, W.keptBut W' may := fun may => (Ext.below h).frame may
theorem laidOut : laidOutB Tryz.prog = true := by kernel_rfl
end Go.Proofs.YtmbiojpcidccjaaGreatDoor
