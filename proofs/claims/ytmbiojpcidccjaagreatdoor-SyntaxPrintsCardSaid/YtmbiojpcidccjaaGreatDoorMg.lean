/- Texts of the proof, one behind the other. -/
import Derived.Test.YtmbiojpcidccjaaGreatDoorMf
set_option linter.all false
namespace Go.Proofs.YtmbiojpcidccjaaGreatDoor
open Go.RowKit Go.Par Go.Sx
set_option maxHeartbeats 2000000 in
set_option maxRecDepth 100000 in
theorem stmtNames_any (N : Nat) (hN : N ≤ 1000000) (H : Hp) : ∀ (l : List Sm),okL N l → ∀ (v : Value) (w : World),Rep H (.seq 6 (l.map (dSm .i64))) [v] → Agr H w →
 Calls Tryz.prog 69 #[v] w fun r w' => r = .returned (.bool (Sm.alls namS l)) ∧ Ext w w' := by
 refine Sm.lists fun l ih => ?_
 intro hok v w hs hA
 obtain ⟨p,c,e,_⟩ := hs.sl
 simp only [List.cons.injEq,and_true,List.length_map] at e
 subst e
 have hcap := hs.cap
 have hll := hok.len
 refine Sx.enter (H := H) Tryz.func69 rfl Tryz.ntmps69 rfl hA ?_
 refine .sr<|.a Z Z<|.nt<|.sq<|.sr<|.m Z Z<|.yv (.lenSl Fx.sl98 Z) Z<|.m Z Z<|.nt<|.bk<|.lp (X := Nat) [(9,_),(10,_)] ⟨rfl,rfl,trivial⟩ [] (fun k => [(11,.int .i64 (k : Nat))]) (fun k => H) (fun k => []) (fun k => k ≤ l.length ∧ Sm.alls namS (l.take k) = true) (fun k => l.length - k) 0 (fun _ s => s) ⟨rfl,trivial⟩ ⟨by omega,rfl⟩ fun k hC => ?_
 obtain ⟨hk0,hal⟩ := hC
 refine .sr<|.yv (.lss Z Z) Z<|.nt<|.sq<|.cd Z (fun h12 => ?_) (fun h12 => ?_)
 ·try simp only [dt] at h12
  have hk : k < l.length := by omega
  obtain ⟨bE,oE,cE,hpE,rE,lE,mE⟩ := hs.elem (map_at (f := dSm .i64) hk)
  cases hpE
  have hi := ih _ (List.getElem_mem hk)
  have hka := hok.at hk
  have hsucc := salls_succ (q := namS) hk
  have hbad := fun h => salls_bad (q := namS) hk h
  generalize hx : l[k] = x at rE hi hka hsucc hbad
  obtain ⟨kd,nm,hd,ex,th,el⟩ := x
  obtain ⟨p1,c1,p2,c2,p3,c3,rfl,hs1,hs2,hs3,hn1,hn2⟩ := sm_open rE
  simp only [Sm.th,Sm.el] at hi
  obtain ⟨a1,a2,a3,a4,a5,a6,a7⟩ := okL_one.1 hka
  have hit := hi.1 ⟨by omega,by omega,a6⟩
  have hie := hi.2 ⟨by omega,by omega,a7⟩
  have hcap1 := hs1.cap
  rw [sall_mk] at hsucc hbad
  refine .sk<|.tN<|.sq<|.bk<|.sr<|.yv (.indexSl Fx.sl98 Z Z Z (by omega) (q := oE + k * 6) Z) Z<|.yv (.loadMW Z Fx.agg150 mE Z) Z<|.al Fx.zero150 Z fun b4 => .sW .head Z Z Fx.size150 (by simp [Value.oneCell',strV]) Z<|.ns<|.yv (.fieldAddr Z Fx.field150_0) Z<|.yv (.load Z Fx.agg3 (.head _) Z) Z<|.yv (.call Fx.call103 Z (fun W s => namedK_any H kd W s.agr)) Z<|.m Z Z<|.yv (.extract Z Z) Z<|.yv (.extract Z Z) Z<|.a Z Z<|.a Z Z<|.nt<|.sq<|.cu (X := Bool) [(4,_),(9,_),(10,_),(11,_)] ⟨rfl,rfl,rfl,rfl,trivial⟩ (fun z => [(36,.bool z)]) (fun z => H) (fun z => [.box b4 [.int .i64 kd.toNat,strV nm,strV hd,.slice p1 ex.length c1,.slice p2 th.length c2,.slice p3 el.length c3] 150]) (fun z => z = (((formOf kd).nm && !nameB nm) || ((formOf kd).hd && !nameB hd))) ?_ fun z hC => ?_
  ·
   refine .rg<|.m Z Z<|.m Z Z<|.b2 (fun h22 => ?_) (fun h22 => ?_)
   ·try simp only [dt] at h22
    refine .gd Z Z<|.yv (.fieldAddr Z Fx.field150_1) Z<|.gd Z Z<|.yv (.load Z Fx.agg9 (.head _) Z) Z<|.gd Z Z<|.yv (.call Fx.call68 Z (fun W s => isNameR_any H nm hn1 W s.agr)) Z<|.gd Z Z<|.yv (.not Z) Z<|.yv (.pickT Z Z) Z<|.m Z Z<|.b2 (fun h28 => ?_) (fun h28 => ?_)
    ·try simp only [dt] at h28
     exact .gF Z Z Z Z<|.gF Z Z Z Z<|.gU Z Z Z<|.gU Z Z Z<|.gU Z Z Z<|.gU Z Z Z<|.gF Z Z Z Z<|.yv (.pickT Z Z) Z<|.nt<|.me _ ⟨rfl,trivial⟩ ⟨rfl,rfl,rfl,rfl,trivial⟩ (fun _ s => s) (by simp_all)
    try simp only [df] at h28
    refine .gd Z Z<|.yv (.move Z) Z<|.gd Z Z<|.yv (.move Z) Z<|.b2 (fun h30 => ?_) (fun h30 => ?_)
    ·try simp only [dt] at h30
     exact .gd Z Z<|.yv (.fieldAddr Z Fx.field150_2) Z<|.gd Z Z<|.yv (.load Z Fx.agg9 (.head _) Z) Z<|.gd Z Z<|.yv (.call Fx.call68 Z (fun W s => isNameR_any H hd hn2 W s.agr)) Z<|.gd Z Z<|.yv (.not Z) Z<|.gd Z Z<|.yv (.pickT Z Z) Z<|.yv (.pickF Z Z) Z<|.nt<|.me _ ⟨rfl,trivial⟩ ⟨rfl,rfl,rfl,rfl,trivial⟩ (fun _ s => s) (by simp_all)
    try simp only [df] at h30
    exact .gF Z Z Z Z<|.gF Z Z Z Z<|.gF Z Z Z Z<|.gF Z Z Z Z<|.gd Z Z<|.yv (.pickF Z Z) Z<|.yv (.pickF Z Z) Z<|.nt<|.me _ ⟨rfl,trivial⟩ ⟨rfl,rfl,rfl,rfl,trivial⟩ (fun _ s => s) (by simp_all)
   try simp only [df] at h22
   refine .gF Z Z Z Z<|.gF Z Z Z Z<|.gF Z Z Z Z<|.gF Z Z Z Z<|.yv (.pickF Z Z) Z<|.m Z Z<|.gd Z Z<|.yv (.move Z) Z<|.gd Z Z<|.yv (.move Z) Z<|.b2 (fun h30 => ?_) (fun h30 => ?_)
   ·try simp only [dt] at h30
    exact .gd Z Z<|.yv (.fieldAddr Z Fx.field150_2) Z<|.gd Z Z<|.yv (.load Z Fx.agg9 (.head _) Z) Z<|.gd Z Z<|.yv (.call Fx.call68 Z (fun W s => isNameR_any H hd hn2 W s.agr)) Z<|.gd Z Z<|.yv (.not Z) Z<|.gd Z Z<|.yv (.pickT Z Z) Z<|.yv (.pickF Z Z) Z<|.nt<|.me _ ⟨rfl,trivial⟩ ⟨rfl,rfl,rfl,rfl,trivial⟩ (fun _ s => s) (by simp_all)
   try simp only [df] at h30
   exact .gF Z Z Z Z<|.gF Z Z Z Z<|.gF Z Z Z Z<|.gF Z Z Z Z<|.gd Z Z<|.yv (.pickF Z Z) Z<|.yv (.pickF Z Z) Z<|.nt<|.me _ ⟨rfl,trivial⟩ ⟨rfl,rfl,rfl,rfl,trivial⟩ (fun _ s => s) (by simp_all)
  have e36 := hC
  refine .cd Z (fun h36 => ?_) (fun h36 => ?_)
  ·try simp only [dt] at h36
   rw [h36] at e36
   have hb : namS (.mk kd nm hd ex th el) = false := by
    rw [namS];revert e36;cases (formOf kd).nm <;> cases (formOf kd).hd <;> cases nameB nm <;> cases nameB hd <;> simp
   have hz := hbad (by rw [hb];rfl)
   refine .sr<|.a Z Z<|.nt<|.rt<|.tR<|.bR<|.tR<|.tR<|.bR<|.tR<|?_
   refine Sx.ret1 (.inl rfl) rfl (.tmp rfl) fun W s => ⟨retB ?_,s.ext⟩
   first
    | (rw [hz])
    | (rw [hal])
  try simp only [df] at h36
  rw [h36] at e36
  have hg : ((!(formOf kd).nm || nameB nm) && (!(formOf kd).hd || nameB hd)) = true := by
   revert e36;cases (formOf kd).nm <;> cases (formOf kd).hd <;> cases nameB nm <;> cases nameB hd <;> simp
  refine .sk<|.tN<|.sq<|.sr<|.yv (.fieldAddr Z Fx.field150_3) Z<|.yv (.load Z Fx.agg49 (.head _) Z) Z<|.yv (.lenSl Fx.sl49 Z) Z<|.m Z Z<|.nt<|.bk<|.lp (X := Nat) [(4,_),(9,_),(10,_),(11,_),(38,_),(39,_)] ⟨rfl,rfl,rfl,rfl,rfl,rfl,trivial⟩ [_] (fun j => [(40,.int .i64 (j : Nat))]) (fun j => H) (fun j => []) (fun j => j ≤ ex.length ∧ Ex.alls namE (ex.take j) = true) (fun j => ex.length - j) 0 (fun _ s => s) ⟨rfl,trivial⟩ ⟨by omega,rfl⟩ fun j hC => ?_
  obtain ⟨hj0,hae⟩ := hC
  refine .sr<|.yv (.lss Z Z) Z<|.nt<|.sq<|.cd Z (fun h41 => ?_) (fun h41 => ?_)
  ·try simp only [dt] at h41
   have hj : j < ex.length := by omega
   obtain ⟨bF,oF,cF,hpF,rF,lF,mF⟩ := hs1.elem (map_at (f := dEx .i64) hj)
   cases hpF
   have hje := List.all_eq_true.1 a5 _ (List.getElem_mem hj)
   simp only [okE,Bool.and_eq_true,decide_eq_true_eq] at hje
   refine .sk<|.tN<|.sq<|.bk<|.sr<|.yv (.indexSl Fx.sl49 Z Z Z (by omega) (q := oF + j * 4) Z) Z<|.yv (.loadMW Z Fx.agg51 mF lF) Z<|.al Fx.zero51 Z fun b8 => .sV .head Z Z Fx.size51 lF rF.one Z<|.ns<|.yv (.loadW Z Fx.agg51 (.head _) lF) Z<|.yv (.call Fx.call104 Z (fun W s => exprNames_any H _ cF W rF s.agr)) Z<|.yv (.not Z) Z<|.nt<|.cd Z (fun h46 => ?_) (fun h46 => ?_)
   ·try simp only [dt] at h46
    have hb : Ex.alls namE ex = false := alls_bad hj (by simpa using h46)
    have hz := hbad (by rw [show namS (.mk kd nm hd ex th el) = false from by rw [namS,hb,Bool.and_false]];rfl)
    refine .sr<|.a Z Z<|.nt<|.rt<|.bR<|.tR<|.tR<|.bR<|.tR<|.bR<|.tR<|.tR<|.bR<|.tR<|?_
    refine Sx.ret1 (.inl rfl) rfl (.tmp rfl) fun W s => ⟨retB ?_,s.ext⟩
    first
     | (rw [hz])
     | (rw [hal])
   skip
   exact .sk<|.bN<|.tN<|.rg<|.yv (.add Z Z (w6 (by omega))) Z<|.m Z Z<|.nt<|.ag (j + 1) ⟨rfl,trivial⟩ ⟨rfl,rfl,rfl,rfl,rfl,rfl,trivial⟩ (fun _ s => s.pick [1] [_] Z Z) ⟨by omega,by rw [alls_succ hj,hae];simpa using h46⟩ (by omega)
  try simp only [df] at h41
  obtain rfl : j = ex.length := by omega
  rw [List.take_length] at hae
  refine .ex<|.tE<|.tE<|.bE<|.tN<|.cu (X := Bool) [(9,_),(10,_),(11,_)] ⟨rfl,rfl,rfl,trivial⟩ (fun z => [(57,.bool z)]) (fun z => H) (fun z => [.box b4 [.int .i64 kd.toNat,strV nm,strV hd,.slice p1 ex.length c1,.slice p2 th.length c2,.slice p3 el.length c3] 150]) (fun z => z = (!(Sm.alls namS th && Sm.alls namS el))) ?_ fun z hC => ?_
  ·
   refine .rg<|.yv (.fieldAddr Z Fx.field150_4) Z<|.yv (.load Z Fx.agg98 (.head _) Z) Z<|.yv (.call Fx.call69 Z (fun W s => hit _ W hs2 s.agr)) Z<|.yv (.not Z) Z<|.m Z Z<|.b2 (fun h52 => ?_) (fun h52 => ?_)
   ·try simp only [dt] at h52
    exact .gF Z Z Z Z<|.gF Z Z Z Z<|.gF Z Z Z Z<|.gF Z Z Z Z<|.yv (.pickT Z Z) Z<|.nt<|.me _ ⟨rfl,trivial⟩ ⟨rfl,rfl,rfl,trivial⟩ (fun _ s => s) (by simp_all)
   try simp only [df] at h52
   exact .gd Z Z<|.yv (.fieldAddr Z Fx.field150_5) Z<|.gd Z Z<|.yv (.load Z Fx.agg98 (.head _) Z) Z<|.gd Z Z<|.yv (.call Fx.call69 Z (fun W s => hie _ W hs3 s.agr)) Z<|.gd Z Z<|.yv (.not Z) Z<|.yv (.pickF Z Z) Z<|.nt<|.me _ ⟨rfl,trivial⟩ ⟨rfl,rfl,rfl,trivial⟩ (fun _ s => s) (by simp_all)
  have e57 := hC
  refine .cd Z (fun h57 => ?_) (fun h57 => ?_)
  ·try simp only [dt] at h57
   rw [h57] at e57
   have hz := hbad (by rw [show namS (.mk kd nm hd ex th el) = true from by rw [namS,hg,hae];rfl,Bool.true_and];have := e57.symm;rwa [Bool.not_eq_true'] at this)
   refine .sr<|.a Z Z<|.nt<|.rt<|.bR<|.tR<|.tR<|.bR<|.tR<|?_
   refine Sx.ret1 (.inl rfl) rfl (.tmp rfl) fun W s => ⟨retB ?_,s.ext⟩
   first
    | (rw [hz])
    | (rw [hal])
  try simp only [df] at h57
  rw [h57] at e57
  have q57 : (Sm.alls namS th && Sm.alls namS el) = true := by simpa using e57.symm
  exact .sk<|.bN<|.tN<|.rg<|.yv (.add Z Z (w6 (by omega))) Z<|.m Z Z<|.nt<|.ag (k + 1) ⟨rfl,trivial⟩ ⟨rfl,rfl,trivial⟩ (fun _ s => s.pick [] [] Z Z) ⟨by omega,by rw [hsucc,hal,Bool.true_and];rw [show namS (.mk kd nm hd ex th el) = true from by rw [namS,hg,hae];rfl];simp only [Bool.true_and];simpa using q57⟩ (by omega)
 try simp only [df] at h12
 obtain rfl : k = l.length := by omega
 rw [List.take_length] at hal
 refine .ex<|.tE<|.tE<|.bE<|.tN<|.sr<|.a Z Z<|.nt<|.rt<|?_
 refine Sx.ret1 (.inl rfl) rfl (.tmp rfl) fun W s => ⟨retB ?_,s.ext⟩
 first
  | (rw [hz])
  | (rw [hal])
def cntK (kd : UInt8) (n : Nat) : Bool := okKd kd && decide ((formOf kd).lo ≤ n) && decide (n ≤ (formOf kd).hi)
theorem cnt_eq (kd : UInt8) (n : Nat) : cntK kd n = decide (((kd.toNat = 1 ∨ kd.toNat = 3 ∨ kd.toNat = 4 ∨ kd.toNat = 5 ∨ kd.toNat = 9) ∧ n = 1) ∨ ((kd.toNat = 2 ∨ kd.toNat = 8) ∧ n = 2) ∨ (kd.toNat = 6 ∧ n ≤ 4) ∨ (kd.toNat = 7 ∧ 1 ≤ n ∧ n ≤ 5) ∨ (kd.toNat = 10 ∧ n = 0)) := by
 have key := byte_k (Q := fun kd => okKd kd = decide (1 ≤ kd.toNat ∧ kd.toNat ≤ 10) ∧ (kd.toNat = 1 ∨ kd.toNat = 3 ∨ kd.toNat = 4 ∨ kd.toNat = 5 ∨ kd.toNat = 9 → (formOf kd).lo = 1 ∧ (formOf kd).hi = 1) ∧ (kd.toNat = 2 ∨ kd.toNat = 8 → (formOf kd).lo = 2 ∧ (formOf kd).hi = 2) ∧ (kd.toNat = 6 → (formOf kd).lo = 0 ∧ (formOf kd).hi = 4) ∧ (kd.toNat = 7 → (formOf kd).lo = 1 ∧ (formOf kd).hi = 5) ∧ (kd.toNat = 10 → (formOf kd).lo = 0 ∧ (formOf kd).hi = 0)) (by decide +kernel) kd
 obtain ⟨k0,k1,k2,k3,k4,k5⟩ := key
 rw [cntK,k0,Bool.eq_iff_iff]
 simp only [Bool.and_eq_true,decide_eq_true_eq]
 generalize (formOf kd).lo = lo at *
 generalize (formOf kd).hi = hi at *
 generalize kd.toNat = d at *
 omega
set_option maxRecDepth 100000 in
theorem counts_any (H : Hp) (kd : UInt8) (n : Nat) (w : World) (hA : Agr H w) : Calls Tryz.prog 105 #[.int .i64 kd.toNat,.int .i64 (n : Nat)] w fun r w' => r = .returned (.bool (cntK kd n)) ∧ Ext w w' := by
 refine Sx.enter (H := H) Tryz.func105 rfl Tryz.ntmps105 rfl hA ?_
 refine .sr<|.a Z Z<|.nt<|.sq<|.sr<|.m Z Z<|.nt<|.bk<|.sq<|.sr<|.yv (.eql Z Z) Z<|.a Z Z<|.nt<|.cd Z (fun h6 => ?_) (fun h6 => ?_)
 ·try simp only [dt] at h6
  refine .sk<|.tN<|.cd Z (fun h6 => ?_) (fun h6 => ?_)
  ·try simp only [dt] at h6
   refine .sr<|.m Z Z<|.yv (.eql Z Z) Z<|.a Z Z<|.nt<|.rt<|.bR<|.tR<|?_
   refine Sx.ret1 (.inl rfl) rfl (.tmp rfl) fun W s => ⟨?_,s.ext⟩
   first
    | (rw [cnt_eq];exact retE (dT (by omega)))
    | (rw [cnt_eq];exact retE (dF (by omega)))
    | (rw [cnt_eq];exact retE (dD (by omega)))
  try simp only [df] at h6
  refine .sq<|.sr<|.yv (.eql Z Z) Z<|.a Z Z<|.nt<|.cd Z (fun h14 => ?_) (fun h14 => ?_)
  ·try simp only [dt] at h14
   refine .sk<|.tN<|.cd Z (fun h14 => ?_) (fun h14 => ?_)
   ·try simp only [dt] at h14
    refine .sr<|.m Z Z<|.yv (.eql Z Z) Z<|.a Z Z<|.nt<|.rt<|.bR<|.tR<|?_
    refine Sx.ret1 (.inl rfl) rfl (.tmp rfl) fun W s => ⟨?_,s.ext⟩
    first
     | (rw [cnt_eq];exact retE (dT (by omega)))
     | (rw [cnt_eq];exact retE (dF (by omega)))
     | (rw [cnt_eq];exact retE (dD (by omega)))
   try simp only [df] at h14
   refine .sr<|.yv (.eql Z Z) Z<|.a Z Z<|.nt<|.cd Z (fun h19 => ?_) (fun h19 => ?_)
   ·try simp only [dt] at h19
    refine .sr<|.m Z Z<|.yv (.leq Z Z) Z<|.a Z Z<|.nt<|.rt<|.bR<|.tR<|?_
    refine Sx.ret1 (.inl rfl) rfl (.tmp rfl) fun W s => ⟨?_,s.ext⟩
    first
     | (rw [cnt_eq];exact retE (dT (by omega)))
     | (rw [cnt_eq];exact retE (dF (by omega)))
     | (rw [cnt_eq];exact retE (dD (by omega)))
   try simp only [df] at h19
   refine .sr<|.yv (.eql Z Z) Z<|.a Z Z<|.nt<|.cd Z (fun h23 => ?_) (fun h23 => ?_)
   ·try simp only [dt] at h23
    refine .sr<|.m Z Z<|.yv (.geq Z Z) Z<|.m Z Z<|.b2 (fun h27 => ?_) (fun h27 => ?_)
    ·try simp only [dt] at h27
     refine .gd Z Z<|.yv (.move Z) Z<|.gd Z Z<|.yv (.leq Z Z) Z<|.yv (.pickT Z Z) Z<|.a Z Z<|.nt<|.rt<|.bR<|.tR<|?_
     refine Sx.ret1 (.inl rfl) rfl (.tmp rfl) fun W s => ⟨?_,s.ext⟩
     first
      | (rw [cnt_eq];exact retE (dT (by omega)))
      | (rw [cnt_eq];exact retE (dF (by omega)))
      | (rw [cnt_eq];exact retE (dD (by omega)))
    try simp only [df] at h27
    refine .gF Z Z Z Z<|.gF Z Z Z Z<|.yv (.pickF Z Z) Z<|.a Z Z<|.nt<|.rt<|.bR<|.tR<|?_
    refine Sx.ret1 (.inl rfl) rfl (.tmp rfl) fun W s => ⟨?_,s.ext⟩
    first
     | (rw [cnt_eq];exact retE (dT (by omega)))
     | (rw [cnt_eq];exact retE (dF (by omega)))
     | (rw [cnt_eq];exact retE (dD (by omega)))
   try simp only [df] at h23
   refine .sr<|.yv (.eql Z Z) Z<|.a Z Z<|.nt<|.cd Z (fun h31 => ?_) (fun h31 => ?_)
   ·try simp only [dt] at h31
    refine .sr<|.m Z Z<|.yv (.eql Z Z) Z<|.a Z Z<|.nt<|.rt<|.bR<|.tR<|?_
    refine Sx.ret1 (.inl rfl) rfl (.tmp rfl) fun W s => ⟨?_,s.ext⟩
    first
     | (rw [cnt_eq];exact retE (dT (by omega)))
     | (rw [cnt_eq];exact retE (dF (by omega)))
     | (rw [cnt_eq];exact retE (dD (by omega)))
   try simp only [df] at h31
   refine .sk<|.bN<|.tN<|.sr<|.a Z Z<|.nt<|.rt<|?_
   refine Sx.ret1 (.inl rfl) rfl (.tmp rfl) fun W s => ⟨?_,s.ext⟩
   first
    | (rw [cnt_eq];exact retE (dT (by omega)))
    | (rw [cnt_eq];exact retE (dF (by omega)))
    | (rw [cnt_eq];exact retE (dD (by omega)))
  try simp only [df] at h14
  refine .rg<|.yv (.eql Z Z) Z<|.a Z Z<|.nt<|.cd Z (fun h14 => ?_) (fun h14 => ?_)
  ·try simp only [dt] at h14
   refine .sr<|.m Z Z<|.yv (.eql Z Z) Z<|.a Z Z<|.nt<|.rt<|.bR<|.tR<|?_
   refine Sx.ret1 (.inl rfl) rfl (.tmp rfl) fun W s => ⟨?_,s.ext⟩
   first
    | (rw [cnt_eq];exact retE (dT (by omega)))
    | (rw [cnt_eq];exact retE (dF (by omega)))
    | (rw [cnt_eq];exact retE (dD (by omega)))
  try simp only [df] at h14
  refine .sr<|.yv (.eql Z Z) Z<|.a Z Z<|.nt<|.cd Z (fun h19 => ?_) (fun h19 => ?_)
  ·try simp only [dt] at h19
   refine .sr<|.m Z Z<|.yv (.leq Z Z) Z<|.a Z Z<|.nt<|.rt<|.bR<|.tR<|?_
   refine Sx.ret1 (.inl rfl) rfl (.tmp rfl) fun W s => ⟨?_,s.ext⟩
   first
    | (rw [cnt_eq];exact retE (dT (by omega)))
    | (rw [cnt_eq];exact retE (dF (by omega)))
    | (rw [cnt_eq];exact retE (dD (by omega)))
  try simp only [df] at h19
  refine .sr<|.yv (.eql Z Z) Z<|.a Z Z<|.nt<|.cd Z (fun h23 => ?_) (fun h23 => ?_)
  ·try simp only [dt] at h23
   refine .sr<|.m Z Z<|.yv (.geq Z Z) Z<|.m Z Z<|.b2 (fun h27 => ?_) (fun h27 => ?_)
   ·try simp only [dt] at h27
    refine .gd Z Z<|.yv (.move Z) Z<|.gd Z Z<|.yv (.leq Z Z) Z<|.yv (.pickT Z Z) Z<|.a Z Z<|.nt<|.rt<|.bR<|.tR<|?_
    refine Sx.ret1 (.inl rfl) rfl (.tmp rfl) fun W s => ⟨?_,s.ext⟩
    first
     | (rw [cnt_eq];exact retE (dT (by omega)))
     | (rw [cnt_eq];exact retE (dF (by omega)))
     | (rw [cnt_eq];exact retE (dD (by omega)))
   try simp only [df] at h27
   refine .gF Z Z Z Z<|.gF Z Z Z Z<|.yv (.pickF Z Z) Z<|.a Z Z<|.nt<|.rt<|.bR<|.tR<|?_
   refine Sx.ret1 (.inl rfl) rfl (.tmp rfl) fun W s => ⟨?_,s.ext⟩
   first
    | (rw [cnt_eq];exact retE (dT (by omega)))
    | (rw [cnt_eq];exact retE (dF (by omega)))
    | (rw [cnt_eq];exact retE (dD (by omega)))
  try simp only [df] at h23
  refine .sr<|.yv (.eql Z Z) Z<|.a Z Z<|.nt<|.cd Z (fun h31 => ?_) (fun h31 => ?_)
  ·try simp only [dt] at h31
   refine .sr<|.m Z Z<|.yv (.eql Z Z) Z<|.a Z Z<|.nt<|.rt<|.bR<|.tR<|?_
   refine Sx.ret1 (.inl rfl) rfl (.tmp rfl) fun W s => ⟨?_,s.ext⟩
   first
    | (rw [cnt_eq];exact retE (dT (by omega)))
    | (rw [cnt_eq];exact retE (dF (by omega)))
    | (rw [cnt_eq];exact retE (dD (by omega)))
  try simp only [df] at h31
  refine .sk<|.bN<|.tN<|.sr<|.a Z Z<|.nt<|.rt<|?_
  refine Sx.ret1 (.inl rfl) rfl (.tmp rfl) fun W s => ⟨?_,s.ext⟩
  first
   | (rw [cnt_eq];exact retE (dT (by omega)))
   | (rw [cnt_eq];exact retE (dF (by omega)))
   | (rw [cnt_eq];exact retE (dD (by omega)))
 try simp only [df] at h6
 refine .sr<|.yv (.eql Z Z) Z<|.a Z Z<|.nt<|.cd Z (fun h6 => ?_) (fun h6 => ?_)
 ·try simp only [dt] at h6
  refine .sk<|.tN<|.cd Z (fun h6 => ?_) (fun h6 => ?_)
  ·try simp only [dt] at h6
   refine .sr<|.m Z Z<|.yv (.eql Z Z) Z<|.a Z Z<|.nt<|.rt<|.bR<|.tR<|?_
   refine Sx.ret1 (.inl rfl) rfl (.tmp rfl) fun W s => ⟨?_,s.ext⟩
   first
    | (rw [cnt_eq];exact retE (dT (by omega)))
    | (rw [cnt_eq];exact retE (dF (by omega)))
    | (rw [cnt_eq];exact retE (dD (by omega)))
  try simp only [df] at h6
  refine .sq<|.sr<|.yv (.eql Z Z) Z<|.a Z Z<|.nt<|.cd Z (fun h14 => ?_) (fun h14 => ?_)
  ·try simp only [dt] at h14
   refine .sk<|.tN<|.cd Z (fun h14 => ?_) (fun h14 => ?_)
   ·try simp only [dt] at h14
    refine .sr<|.m Z Z<|.yv (.eql Z Z) Z<|.a Z Z<|.nt<|.rt<|.bR<|.tR<|?_
    refine Sx.ret1 (.inl rfl) rfl (.tmp rfl) fun W s => ⟨?_,s.ext⟩
    first
     | (rw [cnt_eq];exact retE (dT (by omega)))
     | (rw [cnt_eq];exact retE (dF (by omega)))
     | (rw [cnt_eq];exact retE (dD (by omega)))
   try simp only [df] at h14
   refine .sr<|.yv (.eql Z Z) Z<|.a Z Z<|.nt<|.cd Z (fun h19 => ?_) (fun h19 => ?_)
   ·try simp only [dt] at h19
    refine .sr<|.m Z Z<|.yv (.leq Z Z) Z<|.a Z Z<|.nt<|.rt<|.bR<|.tR<|?_
    refine Sx.ret1 (.inl rfl) rfl (.tmp rfl) fun W s => ⟨?_,s.ext⟩
    first
     | (rw [cnt_eq];exact retE (dT (by omega)))
     | (rw [cnt_eq];exact retE (dF (by omega)))
     | (rw [cnt_eq];exact retE (dD (by omega)))
   try simp only [df] at h19
   refine .sr<|.yv (.eql Z Z) Z<|.a Z Z<|.nt<|.cd Z (fun h23 => ?_) (fun h23 => ?_)
   ·try simp only [dt] at h23
    refine .sr<|.m Z Z<|.yv (.geq Z Z) Z<|.m Z Z<|.b2 (fun h27 => ?_) (fun h27 => ?_)
    ·try simp only [dt] at h27
     refine .gd Z Z<|.yv (.move Z) Z<|.gd Z Z<|.yv (.leq Z Z) Z<|.yv (.pickT Z Z) Z<|.a Z Z<|.nt<|.rt<|.bR<|.tR<|?_
     refine Sx.ret1 (.inl rfl) rfl (.tmp rfl) fun W s => ⟨?_,s.ext⟩
     first
      | (rw [cnt_eq];exact retE (dT (by omega)))
      | (rw [cnt_eq];exact retE (dF (by omega)))
      | (rw [cnt_eq];exact retE (dD (by omega)))
    try simp only [df] at h27
    refine .gF Z Z Z Z<|.gF Z Z Z Z<|.yv (.pickF Z Z) Z<|.a Z Z<|.nt<|.rt<|.bR<|.tR<|?_
    refine Sx.ret1 (.inl rfl) rfl (.tmp rfl) fun W s => ⟨?_,s.ext⟩
    first
     | (rw [cnt_eq];exact retE (dT (by omega)))
     | (rw [cnt_eq];exact retE (dF (by omega)))
     | (rw [cnt_eq];exact retE (dD (by omega)))
   try simp only [df] at h23
   refine .sr<|.yv (.eql Z Z) Z<|.a Z Z<|.nt<|.cd Z (fun h31 => ?_) (fun h31 => ?_)
   ·try simp only [dt] at h31
    refine .sr<|.m Z Z<|.yv (.eql Z Z) Z<|.a Z Z<|.nt<|.rt<|.bR<|.tR<|?_
    refine Sx.ret1 (.inl rfl) rfl (.tmp rfl) fun W s => ⟨?_,s.ext⟩
    first
     | (rw [cnt_eq];exact retE (dT (by omega)))
     | (rw [cnt_eq];exact retE (dF (by omega)))
     | (rw [cnt_eq];exact retE (dD (by omega)))
   try simp only [df] at h31
   refine .sk<|.bN<|.tN<|.sr<|.a Z Z<|.nt<|.rt<|?_
   refine Sx.ret1 (.inl rfl) rfl (.tmp rfl) fun W s => ⟨?_,s.ext⟩
   first
    | (rw [cnt_eq];exact retE (dT (by omega)))
    | (rw [cnt_eq];exact retE (dF (by omega)))
    | (rw [cnt_eq];exact retE (dD (by omega)))
  try simp only [df] at h14
  refine .rg<|.yv (.eql Z Z) Z<|.a Z Z<|.nt<|.cd Z (fun h14 => ?_) (fun h14 => ?_)
  ·try simp only [dt] at h14
   refine .sr<|.m Z Z<|.yv (.eql Z Z) Z<|.a Z Z<|.nt<|.rt<|.bR<|.tR<|?_
   refine Sx.ret1 (.inl rfl) rfl (.tmp rfl) fun W s => ⟨?_,s.ext⟩
   first
    | (rw [cnt_eq];exact retE (dT (by omega)))
    | (rw [cnt_eq];exact retE (dF (by omega)))
    | (rw [cnt_eq];exact retE (dD (by omega)))
  try simp only [df] at h14
  refine .sr<|.yv (.eql Z Z) Z<|.a Z Z<|.nt<|.cd Z (fun h19 => ?_) (fun h19 => ?_)
  ·try simp only [dt] at h19
   refine .sr<|.m Z Z<|.yv (.leq Z Z) Z<|.a Z Z<|.nt<|.rt<|.bR<|.tR<|?_
   refine Sx.ret1 (.inl rfl) rfl (.tmp rfl) fun W s => ⟨?_,s.ext⟩
   first
    | (rw [cnt_eq];exact retE (dT (by omega)))
    | (rw [cnt_eq];exact retE (dF (by omega)))
    | (rw [cnt_eq];exact retE (dD (by omega)))
  try simp only [df] at h19
  refine .sr<|.yv (.eql Z Z) Z<|.a Z Z<|.nt<|.cd Z (fun h23 => ?_) (fun h23 => ?_)
  ·try simp only [dt] at h23
   refine .sr<|.m Z Z<|.yv (.geq Z Z) Z<|.m Z Z<|.b2 (fun h27 => ?_) (fun h27 => ?_)
   ·try simp only [dt] at h27
    refine .gd Z Z<|.yv (.move Z) Z<|.gd Z Z<|.yv (.leq Z Z) Z<|.yv (.pickT Z Z) Z<|.a Z Z<|.nt<|.rt<|.bR<|.tR<|?_
    refine Sx.ret1 (.inl rfl) rfl (.tmp rfl) fun W s => ⟨?_,s.ext⟩
    first
     | (rw [cnt_eq];exact retE (dT (by omega)))
     | (rw [cnt_eq];exact retE (dF (by omega)))
     | (rw [cnt_eq];exact retE (dD (by omega)))
   try simp only [df] at h27
   refine .gF Z Z Z Z<|.gF Z Z Z Z<|.yv (.pickF Z Z) Z<|.a Z Z<|.nt<|.rt<|.bR<|.tR<|?_
   refine Sx.ret1 (.inl rfl) rfl (.tmp rfl) fun W s => ⟨?_,s.ext⟩
   first
    | (rw [cnt_eq];exact retE (dT (by omega)))
    | (rw [cnt_eq];exact retE (dF (by omega)))
    | (rw [cnt_eq];exact retE (dD (by omega)))
  try simp only [df] at h23
  refine .sr<|.yv (.eql Z Z) Z<|.a Z Z<|.nt<|.cd Z (fun h31 => ?_) (fun h31 => ?_)
  ·try simp only [dt] at h31
   refine .sr<|.m Z Z<|.yv (.eql Z Z) Z<|.a Z Z<|.nt<|.rt<|.bR<|.tR<|?_
   refine Sx.ret1 (.inl rfl) rfl (.tmp rfl) fun W s => ⟨?_,s.ext⟩
   first
    | (rw [cnt_eq];exact retE (dT (by omega)))
    | (rw [cnt_eq];exact retE (dF (by omega)))
    | (rw [cnt_eq];exact retE (dD (by omega)))
  try simp only [df] at h31
  refine .sk<|.bN<|.tN<|.sr<|.a Z Z<|.nt<|.rt<|?_
  refine Sx.ret1 (.inl rfl) rfl (.tmp rfl) fun W s => ⟨?_,s.ext⟩
  first
   | (rw [cnt_eq];exact retE (dT (by omega)))
   | (rw [cnt_eq];exact retE (dF (by omega)))
   | (rw [cnt_eq];exact retE (dD (by omega)))
 try simp only [df] at h6
 refine .sr<|.yv (.eql Z Z) Z<|.a Z Z<|.nt<|.cd Z (fun h6 => ?_) (fun h6 => ?_)
 ·try simp only [dt] at h6
  refine .sk<|.tN<|.cd Z (fun h6 => ?_) (fun h6 => ?_)
  ·try simp only [dt] at h6
   refine .sr<|.m Z Z<|.yv (.eql Z Z) Z<|.a Z Z<|.nt<|.rt<|.bR<|.tR<|?_
   refine Sx.ret1 (.inl rfl) rfl (.tmp rfl) fun W s => ⟨?_,s.ext⟩
   first
    | (rw [cnt_eq];exact retE (dT (by omega)))
    | (rw [cnt_eq];exact retE (dF (by omega)))
    | (rw [cnt_eq];exact retE (dD (by omega)))
  try simp only [df] at h6
  refine .sq<|.sr<|.yv (.eql Z Z) Z<|.a Z Z<|.nt<|.cd Z (fun h14 => ?_) (fun h14 => ?_)
  ·try simp only [dt] at h14
   refine .sk<|.tN<|.cd Z (fun h14 => ?_) (fun h14 => ?_)
   ·try simp only [dt] at h14
    refine .sr<|.m Z Z<|.yv (.eql Z Z) Z<|.a Z Z<|.nt<|.rt<|.bR<|.tR<|?_
    refine Sx.ret1 (.inl rfl) rfl (.tmp rfl) fun W s => ⟨?_,s.ext⟩
    first
     | (rw [cnt_eq];exact retE (dT (by omega)))
     | (rw [cnt_eq];exact retE (dF (by omega)))
     | (rw [cnt_eq];exact retE (dD (by omega)))
   try simp only [df] at h14
   refine .sr<|.yv (.eql Z Z) Z<|.a Z Z<|.nt<|.cd Z (fun h19 => ?_) (fun h19 => ?_)
   ·try simp only [dt] at h19
    refine .sr<|.m Z Z<|.yv (.leq Z Z) Z<|.a Z Z<|.nt<|.rt<|.bR<|.tR<|?_
    refine Sx.ret1 (.inl rfl) rfl (.tmp rfl) fun W s => ⟨?_,s.ext⟩
    first
     | (rw [cnt_eq];exact retE (dT (by omega)))
     | (rw [cnt_eq];exact retE (dF (by omega)))
     | (rw [cnt_eq];exact retE (dD (by omega)))
   try simp only [df] at h19
   refine .sr<|.yv (.eql Z Z) Z<|.a Z Z<|.nt<|.cd Z (fun h23 => ?_) (fun h23 => ?_)
   ·try simp only [dt] at h23
    refine .sr<|.m Z Z<|.yv (.geq Z Z) Z<|.m Z Z<|.b2 (fun h27 => ?_) (fun h27 => ?_)
    ·try simp only [dt] at h27
     refine .gd Z Z<|.yv (.move Z) Z<|.gd Z Z<|.yv (.leq Z Z) Z<|.yv (.pickT Z Z) Z<|.a Z Z<|.nt<|.rt<|.bR<|.tR<|?_
     refine Sx.ret1 (.inl rfl) rfl (.tmp rfl) fun W s => ⟨?_,s.ext⟩
     first
      | (rw [cnt_eq];exact retE (dT (by omega)))
      | (rw [cnt_eq];exact retE (dF (by omega)))
      | (rw [cnt_eq];exact retE (dD (by omega)))
    try simp only [df] at h27
    refine .gF Z Z Z Z<|.gF Z Z Z Z<|.yv (.pickF Z Z) Z<|.a Z Z<|.nt<|.rt<|.bR<|.tR<|?_
    refine Sx.ret1 (.inl rfl) rfl (.tmp rfl) fun W s => ⟨?_,s.ext⟩
    first
     | (rw [cnt_eq];exact retE (dT (by omega)))
     | (rw [cnt_eq];exact retE (dF (by omega)))
     | (rw [cnt_eq];exact retE (dD (by omega)))
   try simp only [df] at h23
   refine .sr<|.yv (.eql Z Z) Z<|.a Z Z<|.nt<|.cd Z (fun h31 => ?_) (fun h31 => ?_)
   ·try simp only [dt] at h31
    refine .sr<|.m Z Z<|.yv (.eql Z Z) Z<|.a Z Z<|.nt<|.rt<|.bR<|.tR<|?_
    refine Sx.ret1 (.inl rfl) rfl (.tmp rfl) fun W s => ⟨?_,s.ext⟩
    first
     | (rw [cnt_eq];exact retE (dT (by omega)))
     | (rw [cnt_eq];exact retE (dF (by omega)))
     | (rw [cnt_eq];exact retE (dD (by omega)))
   try simp only [df] at h31
   refine .sk<|.bN<|.tN<|.sr<|.a Z Z<|.nt<|.rt<|?_
   refine Sx.ret1 (.inl rfl) rfl (.tmp rfl) fun W s => ⟨?_,s.ext⟩
   first
    | (rw [cnt_eq];exact retE (dT (by omega)))
    | (rw [cnt_eq];exact retE (dF (by omega)))
    | (rw [cnt_eq];exact retE (dD (by omega)))
  try simp only [df] at h14
  refine .rg<|.yv (.eql Z Z) Z<|.a Z Z<|.nt<|.cd Z (fun h14 => ?_) (fun h14 => ?_)
  ·try simp only [dt] at h14
   refine .sr<|.m Z Z<|.yv (.eql Z Z) Z<|.a Z Z<|.nt<|.rt<|.bR<|.tR<|?_
   refine Sx.ret1 (.inl rfl) rfl (.tmp rfl) fun W s => ⟨?_,s.ext⟩
   first
    | (rw [cnt_eq];exact retE (dT (by omega)))
    | (rw [cnt_eq];exact retE (dF (by omega)))
    | (rw [cnt_eq];exact retE (dD (by omega)))
  try simp only [df] at h14
  refine .sr<|.yv (.eql Z Z) Z<|.a Z Z<|.nt<|.cd Z (fun h19 => ?_) (fun h19 => ?_)
  ·try simp only [dt] at h19
   refine .sr<|.m Z Z<|.yv (.leq Z Z) Z<|.a Z Z<|.nt<|.rt<|.bR<|.tR<|?_
   refine Sx.ret1 (.inl rfl) rfl (.tmp rfl) fun W s => ⟨?_,s.ext⟩
   first
    | (rw [cnt_eq];exact retE (dT (by omega)))
    | (rw [cnt_eq];exact retE (dF (by omega)))
    | (rw [cnt_eq];exact retE (dD (by omega)))
  try simp only [df] at h19
  refine .sr<|.yv (.eql Z Z) Z<|.a Z Z<|.nt<|.cd Z (fun h23 => ?_) (fun h23 => ?_)
  ·try simp only [dt] at h23
   refine .sr<|.m Z Z<|.yv (.geq Z Z) Z<|.m Z Z<|.b2 (fun h27 => ?_) (fun h27 => ?_)
   ·try simp only [dt] at h27
    refine .gd Z Z<|.yv (.move Z) Z<|.gd Z Z<|.yv (.leq Z Z) Z<|.yv (.pickT Z Z) Z<|.a Z Z<|.nt<|.rt<|.bR<|.tR<|?_
    refine Sx.ret1 (.inl rfl) rfl (.tmp rfl) fun W s => ⟨?_,s.ext⟩
    first
     | (rw [cnt_eq];exact retE (dT (by omega)))
     | (rw [cnt_eq];exact retE (dF (by omega)))
     | (rw [cnt_eq];exact retE (dD (by omega)))
   try simp only [df] at h27
   refine .gF Z Z Z Z<|.gF Z Z Z Z<|.yv (.pickF Z Z) Z<|.a Z Z<|.nt<|.rt<|.bR<|.tR<|?_
   refine Sx.ret1 (.inl rfl) rfl (.tmp rfl) fun W s => ⟨?_,s.ext⟩
   first
    | (rw [cnt_eq];exact retE (dT (by omega)))
    | (rw [cnt_eq];exact retE (dF (by omega)))
    | (rw [cnt_eq];exact retE (dD (by omega)))
  try simp only [df] at h23
  refine .sr<|.yv (.eql Z Z) Z<|.a Z Z<|.nt<|.cd Z (fun h31 => ?_) (fun h31 => ?_)
  ·try simp only [dt] at h31
   refine .sr<|.m Z Z<|.yv (.eql Z Z) Z<|.a Z Z<|.nt<|.rt<|.bR<|.tR<|?_
   refine Sx.ret1 (.inl rfl) rfl (.tmp rfl) fun W s => ⟨?_,s.ext⟩
   first
    | (rw [cnt_eq];exact retE (dT (by omega)))
    | (rw [cnt_eq];exact retE (dF (by omega)))
    | (rw [cnt_eq];exact retE (dD (by omega)))
  try simp only [df] at h31
  refine .sk<|.bN<|.tN<|.sr<|.a Z Z<|.nt<|.rt<|?_
  refine Sx.ret1 (.inl rfl) rfl (.tmp rfl) fun W s => ⟨?_,s.ext⟩
  first
   | (rw [cnt_eq];exact retE (dT (by omega)))
   | (rw [cnt_eq];exact retE (dF (by omega)))
   | (rw [cnt_eq];exact retE (dD (by omega)))
 try simp only [df] at h6
 refine .sr<|.yv (.eql Z Z) Z<|.a Z Z<|.nt<|.cd Z (fun h6 => ?_) (fun h6 => ?_)
 ·try simp only [dt] at h6
  refine .sk<|.tN<|.cd Z (fun h6 => ?_) (fun h6 => ?_)
  ·try simp only [dt] at h6
   refine .sr<|.m Z Z<|.yv (.eql Z Z) Z<|.a Z Z<|.nt<|.rt<|.bR<|.tR<|?_
   refine Sx.ret1 (.inl rfl) rfl (.tmp rfl) fun W s => ⟨?_,s.ext⟩
   first
    | (rw [cnt_eq];exact retE (dT (by omega)))
    | (rw [cnt_eq];exact retE (dF (by omega)))
    | (rw [cnt_eq];exact retE (dD (by omega)))
  try simp only [df] at h6
  refine .sq<|.sr<|.yv (.eql Z Z) Z<|.a Z Z<|.nt<|.cd Z (fun h14 => ?_) (fun h14 => ?_)
  ·try simp only [dt] at h14
   refine .sk<|.tN<|.cd Z (fun h14 => ?_) (fun h14 => ?_)
   ·try simp only [dt] at h14
    refine .sr<|.m Z Z<|.yv (.eql Z Z) Z<|.a Z Z<|.nt<|.rt<|.bR<|.tR<|?_
    refine Sx.ret1 (.inl rfl) rfl (.tmp rfl) fun W s => ⟨?_,s.ext⟩
    first
     | (rw [cnt_eq];exact retE (dT (by omega)))
     | (rw [cnt_eq];exact retE (dF (by omega)))
     | (rw [cnt_eq];exact retE (dD (by omega)))
   try simp only [df] at h14
   refine .sr<|.yv (.eql Z Z) Z<|.a Z Z<|.nt<|.cd Z (fun h19 => ?_) (fun h19 => ?_)
   ·try simp only [dt] at h19
    refine .sr<|.m Z Z<|.yv (.leq Z Z) Z<|.a Z Z<|.nt<|.rt<|.bR<|.tR<|?_
    refine Sx.ret1 (.inl rfl) rfl (.tmp rfl) fun W s => ⟨?_,s.ext⟩
    first
     | (rw [cnt_eq];exact retE (dT (by omega)))
     | (rw [cnt_eq];exact retE (dF (by omega)))
     | (rw [cnt_eq];exact retE (dD (by omega)))
   try simp only [df] at h19
   refine .sr<|.yv (.eql Z Z) Z<|.a Z Z<|.nt<|.cd Z (fun h23 => ?_) (fun h23 => ?_)
   ·try simp only [dt] at h23
    refine .sr<|.m Z Z<|.yv (.geq Z Z) Z<|.m Z Z<|.b2 (fun h27 => ?_) (fun h27 => ?_)
    ·try simp only [dt] at h27
     refine .gd Z Z<|.yv (.move Z) Z<|.gd Z Z<|.yv (.leq Z Z) Z<|.yv (.pickT Z Z) Z<|.a Z Z<|.nt<|.rt<|.bR<|.tR<|?_
     refine Sx.ret1 (.inl rfl) rfl (.tmp rfl) fun W s => ⟨?_,s.ext⟩
     first
      | (rw [cnt_eq];exact retE (dT (by omega)))
      | (rw [cnt_eq];exact retE (dF (by omega)))
      | (rw [cnt_eq];exact retE (dD (by omega)))
    try simp only [df] at h27
    refine .gF Z Z Z Z<|.gF Z Z Z Z<|.yv (.pickF Z Z) Z<|.a Z Z<|.nt<|.rt<|.bR<|.tR<|?_
    refine Sx.ret1 (.inl rfl) rfl (.tmp rfl) fun W s => ⟨?_,s.ext⟩
    first
     | (rw [cnt_eq];exact retE (dT (by omega)))
     | (rw [cnt_eq];exact retE (dF (by omega)))
     | (rw [cnt_eq];exact retE (dD (by omega)))
   try simp only [df] at h23
   refine .sr<|.yv (.eql Z Z) Z<|.a Z Z<|.nt<|.cd Z (fun h31 => ?_) (fun h31 => ?_)
   ·try simp only [dt] at h31
    refine .sr<|.m Z Z<|.yv (.eql Z Z) Z<|.a Z Z<|.nt<|.rt<|.bR<|.tR<|?_
    refine Sx.ret1 (.inl rfl) rfl (.tmp rfl) fun W s => ⟨?_,s.ext⟩
    first
     | (rw [cnt_eq];exact retE (dT (by omega)))
     | (rw [cnt_eq];exact retE (dF (by omega)))
     | (rw [cnt_eq];exact retE (dD (by omega)))
   try simp only [df] at h31
   refine .sk<|.bN<|.tN<|.sr<|.a Z Z<|.nt<|.rt<|?_
   refine Sx.ret1 (.inl rfl) rfl (.tmp rfl) fun W s => ⟨?_,s.ext⟩
   first
    | (rw [cnt_eq];exact retE (dT (by omega)))
    | (rw [cnt_eq];exact retE (dF (by omega)))
    | (rw [cnt_eq];exact retE (dD (by omega)))
  try simp only [df] at h14
  refine .rg<|.yv (.eql Z Z) Z<|.a Z Z<|.nt<|.cd Z (fun h14 => ?_) (fun h14 => ?_)
  ·try simp only [dt] at h14
   refine .sr<|.m Z Z<|.yv (.eql Z Z) Z<|.a Z Z<|.nt<|.rt<|.bR<|.tR<|?_
   refine Sx.ret1 (.inl rfl) rfl (.tmp rfl) fun W s => ⟨?_,s.ext⟩
   first
    | (rw [cnt_eq];exact retE (dT (by omega)))
    | (rw [cnt_eq];exact retE (dF (by omega)))
    | (rw [cnt_eq];exact retE (dD (by omega)))
  try simp only [df] at h14
  refine .sr<|.yv (.eql Z Z) Z<|.a Z Z<|.nt<|.cd Z (fun h19 => ?_) (fun h19 => ?_)
  ·try simp only [dt] at h19
   refine .sr<|.m Z Z<|.yv (.leq Z Z) Z<|.a Z Z<|.nt<|.rt<|.bR<|.tR<|?_
   refine Sx.ret1 (.inl rfl) rfl (.tmp rfl) fun W s => ⟨?_,s.ext⟩
   first
    | (rw [cnt_eq];exact retE (dT (by omega)))
    | (rw [cnt_eq];exact retE (dF (by omega)))
    | (rw [cnt_eq];exact retE (dD (by omega)))
  try simp only [df] at h19
  refine .sr<|.yv (.eql Z Z) Z<|.a Z Z<|.nt<|.cd Z (fun h23 => ?_) (fun h23 => ?_)
  ·try simp only [dt] at h23
   refine .sr<|.m Z Z<|.yv (.geq Z Z) Z<|.m Z Z<|.b2 (fun h27 => ?_) (fun h27 => ?_)
   ·try simp only [dt] at h27
    refine .gd Z Z<|.yv (.move Z) Z<|.gd Z Z<|.yv (.leq Z Z) Z<|.yv (.pickT Z Z) Z<|.a Z Z<|.nt<|.rt<|.bR<|.tR<|?_
    refine Sx.ret1 (.inl rfl) rfl (.tmp rfl) fun W s => ⟨?_,s.ext⟩
    first
     | (rw [cnt_eq];exact retE (dT (by omega)))
     | (rw [cnt_eq];exact retE (dF (by omega)))
     | (rw [cnt_eq];exact retE (dD (by omega)))
   try simp only [df] at h27
   refine .gF Z Z Z Z<|.gF Z Z Z Z<|.yv (.pickF Z Z) Z<|.a Z Z<|.nt<|.rt<|.bR<|.tR<|?_
   refine Sx.ret1 (.inl rfl) rfl (.tmp rfl) fun W s => ⟨?_,s.ext⟩
   first
    | (rw [cnt_eq];exact retE (dT (by omega)))
    | (rw [cnt_eq];exact retE (dF (by omega)))
    | (rw [cnt_eq];exact retE (dD (by omega)))
  try simp only [df] at h23
  refine .sr<|.yv (.eql Z Z) Z<|.a Z Z<|.nt<|.cd Z (fun h31 => ?_) (fun h31 => ?_)
  ·try simp only [dt] at h31
   refine .sr<|.m Z Z<|.yv (.eql Z Z) Z<|.a Z Z<|.nt<|.rt<|.bR<|.tR<|?_
   refine Sx.ret1 (.inl rfl) rfl (.tmp rfl) fun W s => ⟨?_,s.ext⟩
   first
    | (rw [cnt_eq];exact retE (dT (by omega)))
    | (rw [cnt_eq];exact retE (dF (by omega)))
    | (rw [cnt_eq];exact retE (dD (by omega)))
  try simp only [df] at h31
  refine .sk<|.bN<|.tN<|.sr<|.a Z Z<|.nt<|.rt<|?_
  refine Sx.ret1 (.inl rfl) rfl (.tmp rfl) fun W s => ⟨?_,s.ext⟩
  first
   | (rw [cnt_eq];exact retE (dT (by omega)))
   | (rw [cnt_eq];exact retE (dF (by omega)))
   | (rw [cnt_eq];exact retE (dD (by omega)))
 try simp only [df] at h6
 refine .rg<|.yv (.eql Z Z) Z<|.a Z Z<|.nt<|.cd Z (fun h6 => ?_) (fun h6 => ?_)
 ·try simp only [dt] at h6
  refine .sr<|.m Z Z<|.yv (.eql Z Z) Z<|.a Z Z<|.nt<|.rt<|.bR<|.tR<|?_
  refine Sx.ret1 (.inl rfl) rfl (.tmp rfl) fun W s => ⟨?_,s.ext⟩
  first
   | (rw [cnt_eq];exact retE (dT (by omega)))
   | (rw [cnt_eq];exact retE (dF (by omega)))
   | (rw [cnt_eq];exact retE (dD (by omega)))
 try simp only [df] at h6
 refine .sq<|.sr<|.yv (.eql Z Z) Z<|.a Z Z<|.nt<|.cd Z (fun h14 => ?_) (fun h14 => ?_)
 ·try simp only [dt] at h14
  refine .sk<|.tN<|.cd Z (fun h14 => ?_) (fun h14 => ?_)
  ·try simp only [dt] at h14
   refine .sr<|.m Z Z<|.yv (.eql Z Z) Z<|.a Z Z<|.nt<|.rt<|.bR<|.tR<|?_
   refine Sx.ret1 (.inl rfl) rfl (.tmp rfl) fun W s => ⟨?_,s.ext⟩
   first
    | (rw [cnt_eq];exact retE (dT (by omega)))
    | (rw [cnt_eq];exact retE (dF (by omega)))
    | (rw [cnt_eq];exact retE (dD (by omega)))
  try simp only [df] at h14
  refine .sr<|.yv (.eql Z Z) Z<|.a Z Z<|.nt<|.cd Z (fun h19 => ?_) (fun h19 => ?_)
  ·try simp only [dt] at h19
   refine .sr<|.m Z Z<|.yv (.leq Z Z) Z<|.a Z Z<|.nt<|.rt<|.bR<|.tR<|?_
   refine Sx.ret1 (.inl rfl) rfl (.tmp rfl) fun W s => ⟨?_,s.ext⟩
   first
    | (rw [cnt_eq];exact retE (dT (by omega)))
    | (rw [cnt_eq];exact retE (dF (by omega)))
    | (rw [cnt_eq];exact retE (dD (by omega)))
  try simp only [df] at h19
  refine .sr<|.yv (.eql Z Z) Z<|.a Z Z<|.nt<|.cd Z (fun h23 => ?_) (fun h23 => ?_)
  ·try simp only [dt] at h23
   refine .sr<|.m Z Z<|.yv (.geq Z Z) Z<|.m Z Z<|.b2 (fun h27 => ?_) (fun h27 => ?_)
   ·try simp only [dt] at h27
    refine .gd Z Z<|.yv (.move Z) Z<|.gd Z Z<|.yv (.leq Z Z) Z<|.yv (.pickT Z Z) Z<|.a Z Z<|.nt<|.rt<|.bR<|.tR<|?_
    refine Sx.ret1 (.inl rfl) rfl (.tmp rfl) fun W s => ⟨?_,s.ext⟩
    first
     | (rw [cnt_eq];exact retE (dT (by omega)))
     | (rw [cnt_eq];exact retE (dF (by omega)))
     | (rw [cnt_eq];exact retE (dD (by omega)))
   try simp only [df] at h27
   refine .gF Z Z Z Z<|.gF Z Z Z Z<|.yv (.pickF Z Z) Z<|.a Z Z<|.nt<|.rt<|.bR<|.tR<|?_
   refine Sx.ret1 (.inl rfl) rfl (.tmp rfl) fun W s => ⟨?_,s.ext⟩
   first
    | (rw [cnt_eq];exact retE (dT (by omega)))
    | (rw [cnt_eq];exact retE (dF (by omega)))
    | (rw [cnt_eq];exact retE (dD (by omega)))
  try simp only [df] at h23
  refine .sr<|.yv (.eql Z Z) Z<|.a Z Z<|.nt<|.cd Z (fun h31 => ?_) (fun h31 => ?_)
  ·try simp only [dt] at h31
   refine .sr<|.m Z Z<|.yv (.eql Z Z) Z<|.a Z Z<|.nt<|.rt<|.bR<|.tR<|?_
   refine Sx.ret1 (.inl rfl) rfl (.tmp rfl) fun W s => ⟨?_,s.ext⟩
   first
    | (rw [cnt_eq];exact retE (dT (by omega)))
    | (rw [cnt_eq];exact retE (dF (by omega)))
    | (rw [cnt_eq];exact retE (dD (by omega)))
  try simp only [df] at h31
  refine .sk<|.bN<|.tN<|.sr<|.a Z Z<|.nt<|.rt<|?_
  refine Sx.ret1 (.inl rfl) rfl (.tmp rfl) fun W s => ⟨?_,s.ext⟩
  first
   | (rw [cnt_eq];exact retE (dT (by omega)))
   | (rw [cnt_eq];exact retE (dF (by omega)))
   | (rw [cnt_eq];exact retE (dD (by omega)))
 try simp only [df] at h14
 refine .rg<|.yv (.eql Z Z) Z<|.a Z Z<|.nt<|.cd Z (fun h14 => ?_) (fun h14 => ?_)
 ·try simp only [dt] at h14
  refine .sr<|.m Z Z<|.yv (.eql Z Z) Z<|.a Z Z<|.nt<|.rt<|.bR<|.tR<|?_
  refine Sx.ret1 (.inl rfl) rfl (.tmp rfl) fun W s => ⟨?_,s.ext⟩
  first
   | (rw [cnt_eq];exact retE (dT (by omega)))
   | (rw [cnt_eq];exact retE (dF (by omega)))
   | (rw [cnt_eq];exact retE (dD (by omega)))
 try simp only [df] at h14
 refine .sr<|.yv (.eql Z Z) Z<|.a Z Z<|.nt<|.cd Z (fun h19 => ?_) (fun h19 => ?_)
 ·try simp only [dt] at h19
  refine .sr<|.m Z Z<|.yv (.leq Z Z) Z<|.a Z Z<|.nt<|.rt<|.bR<|.tR<|?_
  refine Sx.ret1 (.inl rfl) rfl (.tmp rfl) fun W s => ⟨?_,s.ext⟩
  first
   | (rw [cnt_eq];exact retE (dT (by omega)))
   | (rw [cnt_eq];exact retE (dF (by omega)))
   | (rw [cnt_eq];exact retE (dD (by omega)))
 try simp only [df] at h19
 refine .sr<|.yv (.eql Z Z) Z<|.a Z Z<|.nt<|.cd Z (fun h23 => ?_) (fun h23 => ?_)
 ·try simp only [dt] at h23
  refine .sr<|.m Z Z<|.yv (.geq Z Z) Z<|.m Z Z<|.b2 (fun h27 => ?_) (fun h27 => ?_)
  ·try simp only [dt] at h27
   refine .gd Z Z<|.yv (.move Z) Z<|.gd Z Z<|.yv (.leq Z Z) Z<|.yv (.pickT Z Z) Z<|.a Z Z<|.nt<|.rt<|.bR<|.tR<|?_
   refine Sx.ret1 (.inl rfl) rfl (.tmp rfl) fun W s => ⟨?_,s.ext⟩
   first
    | (rw [cnt_eq];exact retE (dT (by omega)))
    | (rw [cnt_eq];exact retE (dF (by omega)))
    | (rw [cnt_eq];exact retE (dD (by omega)))
  try simp only [df] at h27
  refine .gF Z Z Z Z<|.gF Z Z Z Z<|.yv (.pickF Z Z) Z<|.a Z Z<|.nt<|.rt<|.bR<|.tR<|?_
  refine Sx.ret1 (.inl rfl) rfl (.tmp rfl) fun W s => ⟨?_,s.ext⟩
  first
   | (rw [cnt_eq];exact retE (dT (by omega)))
   | (rw [cnt_eq];exact retE (dF (by omega)))
   | (rw [cnt_eq];exact retE (dD (by omega)))
 try simp only [df] at h23
 refine .sr<|.yv (.eql Z Z) Z<|.a Z Z<|.nt<|.cd Z (fun h31 => ?_) (fun h31 => ?_)
 ·try simp only [dt] at h31
  refine .sr<|.m Z Z<|.yv (.eql Z Z) Z<|.a Z Z<|.nt<|.rt<|.bR<|.tR<|?_
  refine Sx.ret1 (.inl rfl) rfl (.tmp rfl) fun W s => ⟨?_,s.ext⟩
  first
   | (rw [cnt_eq];exact retE (dT (by omega)))
   | (rw [cnt_eq];exact retE (dF (by omega)))
   | (rw [cnt_eq];exact retE (dD (by omega)))
 try simp only [df] at h31
 refine .sk<|.bN<|.tN<|.sr<|.a Z Z<|.nt<|.rt<|?_
 refine Sx.ret1 (.inl rfl) rfl (.tmp rfl) fun W s => ⟨?_,s.ext⟩
 first
  | (rw [cnt_eq];exact retE (dT (by omega)))
  | (rw [cnt_eq];exact retE (dF (by omega)))
  | (rw [cnt_eq];exact retE (dD (by omega)))
theorem thel_eq (kd : UInt8) : (formOf kd).th = decide (kd.toNat = 4 ∨ kd.toNat = 5) ∧ (formOf kd).el = decide (kd.toNat = 4 ∨ kd.toNat = 8 ∨ kd.toNat = 9) :=
 byte_k (Q := fun kd => (formOf kd).th = decide (kd.toNat = 4 ∨ kd.toNat = 5) ∧ (formOf kd).el = decide (kd.toNat = 4 ∨ kd.toNat = 8 ∨ kd.toNat = 9)) (by decide +kernel) kd
theorem frm_bad (kd : UInt8) (nm hd : Str) (ex : List Ex) (th el : List Sm) : frmS (.mk kd nm hd ex th el) = (!(!cntK kd ex.length || (!(formOf kd).nm && decide (¬ nm = [])) || (!(formOf kd).hd && decide (¬ hd = [])) || (!(formOf kd).th && decide ((0 : Int) < th.length)) || (!(formOf kd).el && decide ((0 : Int) < el.length))) && Ex.alls frmE ex) := by
 rw [frmS_eq]
 have h1 : cntK kd ex.length = !(!okKd kd || decide ((ex.length : Int) < ((formOf kd).lo : Nat)) || decide (((formOf kd).hi : Nat) < (ex.length : Int))) := by
  have e1 : decide ((ex.length : Int) < ((formOf kd).lo : Nat)) = !decide ((formOf kd).lo ≤ ex.length) := by rw [Bool.eq_iff_iff];simp
  have e2 : decide (((formOf kd).hi : Nat) < (ex.length : Int)) = !decide (ex.length ≤ (formOf kd).hi) := by rw [Bool.eq_iff_iff];simp
  rw [cntK,e1,e2]
  generalize decide ((formOf kd).lo ≤ ex.length) = b1
  generalize decide (ex.length ≤ (formOf kd).hi) = b2
  cases okKd kd <;> cases b1 <;> cases b2 <;> rfl
 rw [h1]
 generalize (!okKd kd || decide ((ex.length : Int) < ((formOf kd).lo : Nat)) || decide (((formOf kd).hi : Nat) < (ex.length : Int))) = a1
 generalize decide (¬ nm = []) = a2
 generalize decide (¬ hd = []) = a3
 generalize decide ((0 : Int) < th.length) = a4
 generalize decide ((0 : Int) < el.length) = a5
 cases a1 <;> cases (formOf kd).nm <;> cases a2 <;> cases (formOf kd).hd <;> cases a3 <;> cases (formOf kd).th <;> cases a4 <;> cases (formOf kd).el <;> cases a5 <;> rfl
set_option maxHeartbeats 2000000 in
set_option maxRecDepth 100000 in
theorem stmtForm_any (N : Nat) (hN : N ≤ 1000000) (H : Hp) : ∀ (l : List Sm),okL N l → ∀ (v : Value) (w : World),Rep H (.seq 6 (l.map (dSm .i64))) [v] → Agr H w →
 Calls Tryz.prog 70 #[v] w fun r w' => r = .returned (.bool (Sm.alls frmS l)) ∧ Ext w w' := by
 refine Sm.lists fun l ih => ?_
 intro hok v w hs hA
 obtain ⟨p,c,e,_⟩ := hs.sl
 simp only [List.cons.injEq,and_true,List.length_map] at e
 subst e
 have hcap := hs.cap
 have hll := hok.len
 refine Sx.enter (H := H) Tryz.func70 rfl Tryz.ntmps70 rfl hA ?_
 refine .sr<|.a Z Z<|.nt<|.sq<|.sr<|.m Z Z<|.yv (.lenSl Fx.sl98 Z) Z<|.m Z Z<|.nt<|.bk<|.lp (X := Nat) [(11,_),(12,_)] ⟨rfl,rfl,trivial⟩ [] (fun k => [(13,.int .i64 (k : Nat))]) (fun k => H) (fun k => []) (fun k => k ≤ l.length ∧ Sm.alls frmS (l.take k) = true) (fun k => l.length - k) 0 (fun _ s => s) ⟨rfl,trivial⟩ ⟨by omega,rfl⟩ fun k hC => ?_
 obtain ⟨hk0,hal⟩ := hC
 refine .sr<|.yv (.lss Z Z) Z<|.nt<|.sq<|.cd Z (fun h14 => ?_) (fun h14 => ?_)
 ·try simp only [dt] at h14
  have hk : k < l.length := by omega
  obtain ⟨bE,oE,cE,hpE,rE,lE,mE⟩ := hs.elem (map_at (f := dSm .i64) hk)
  cases hpE
  have hi := ih _ (List.getElem_mem hk)
  have hka := hok.at hk
  have hsucc := salls_succ (q := frmS) hk
  have hbad := fun h => salls_bad (q := frmS) hk h
  generalize hx : l[k] = x at rE hi hka hsucc hbad
  obtain ⟨kd,nm,hd,ex,th,el⟩ := x
  obtain ⟨p1,c1,p2,c2,p3,c3,rfl,hs1,hs2,hs3,hn1,hn2⟩ := sm_open rE
  simp only [Sm.th,Sm.el] at hi
  obtain ⟨a1,a2,a3,a4,a5,a6,a7⟩ := okL_one.1 hka
  have hit := hi.1 ⟨by omega,by omega,a6⟩
  have hie := hi.2 ⟨by omega,by omega,a7⟩
  have hcap1 := hs1.cap
  rw [sall_mk] at hsucc hbad
  refine .sk<|.tN<|.sq<|.bk<|.sr<|.yv (.indexSl Fx.sl98 Z Z Z (by omega) (q := oE + k * 6) Z) Z<|.yv (.loadMW Z Fx.agg150 mE Z) Z<|.al Fx.zero150 Z fun b4 => .sW .head Z Z Fx.size150 (by simp [Value.oneCell',strV]) Z<|.ns<|.yv (.fieldAddr Z Fx.field150_0) Z<|.yv (.load Z Fx.agg3 (.head _) Z) Z<|.yv (.call Fx.call103 Z (fun W s => namedK_any H kd W s.agr)) Z<|.m Z Z<|.yv (.extract Z Z) Z<|.yv (.extract Z Z) Z<|.a Z Z<|.a Z Z<|.nt<|.cu (X := Bool) [(4,_),(5,_),(6,_),(11,_),(12,_),(13,_)] ⟨rfl,rfl,rfl,rfl,rfl,rfl,trivial⟩ (fun z => [(7,.bool z)]) (fun z => H) (fun z => [.box b4 [.int .i64 kd.toNat,strV nm,strV hd,.slice p1 ex.length c1,.slice p2 th.length c2,.slice p3 el.length c3] 150]) (fun z => z = ((formOf kd).th)) ?_ fun z hC => ?_
  ·
   refine .rg<|.yv (.fieldAddr Z Fx.field150_0) Z<|.yv (.load Z Fx.agg3 (.head _) Z) Z<|.yv (.eql Z Z) Z<|.m Z Z<|.b2 (fun h26 => ?_) (fun h26 => ?_)
   ·try simp only [dt] at h26
    exact .gF Z Z Z Z<|.gF Z Z Z Z<|.gF Z Z Z Z<|.yv (.pickT Z Z) Z<|.a Z Z<|.nt<|.me _ ⟨rfl,trivial⟩ ⟨rfl,rfl,rfl,rfl,rfl,rfl,trivial⟩ (fun _ s => s) (by rw [(thel_eq kd).1];first | exact dT (by omega) | exact dF (by omega) | exact dD (by omega))
   try simp only [df] at h26
   exact .gd Z Z<|.yv (.fieldAddr Z Fx.field150_0) Z<|.gd Z Z<|.yv (.load Z Fx.agg3 (.head _) Z) Z<|.gd Z Z<|.yv (.eql Z Z) Z<|.yv (.pickF Z Z) Z<|.a Z Z<|.nt<|.me _ ⟨rfl,trivial⟩ ⟨rfl,rfl,rfl,rfl,rfl,rfl,trivial⟩ (fun _ s => s) (by rw [(thel_eq kd).1];first | exact dT (by omega) | exact dF (by omega) | exact dD (by omega))
  have e7 := hC
  subst e7
  refine .cu (X := Bool) [(4,_),(5,_),(6,_),(7,_),(11,_),(12,_),(13,_)] ⟨rfl,rfl,rfl,rfl,rfl,rfl,rfl,trivial⟩ (fun z => [(8,.bool z)]) (fun z => H) (fun z => [.box b4 [.int .i64 kd.toNat,strV nm,strV hd,.slice p1 ex.length c1,.slice p2 th.length c2,.slice p3 el.length c3] 150]) (fun z => z = ((formOf kd).el)) ?_ fun z hC => ?_
  ·
   refine .rg<|.yv (.fieldAddr Z Fx.field150_0) Z<|.yv (.load Z Fx.agg3 (.head _) Z) Z<|.yv (.eql Z Z) Z<|.m Z Z<|.b2 (fun h34 => ?_) (fun h34 => ?_)
   ·try simp only [dt] at h34
    exact .gF Z Z Z Z<|.gF Z Z Z Z<|.gF Z Z Z Z<|.yv (.pickT Z Z) Z<|.m Z Z<|.gF Z Z Z Z<|.gF Z Z Z Z<|.gF Z Z Z Z<|.yv (.pickT Z Z) Z<|.a Z Z<|.nt<|.me _ ⟨rfl,trivial⟩ ⟨rfl,rfl,rfl,rfl,rfl,rfl,rfl,trivial⟩ (fun _ s => s) (by rw [(thel_eq kd).2];first | exact dT (by omega) | exact dF (by omega) | exact dD (by omega))
   try simp only [df] at h34
   refine .gd Z Z<|.yv (.fieldAddr Z Fx.field150_0) Z<|.gd Z Z<|.yv (.load Z Fx.agg3 (.head _) Z) Z<|.gd Z Z<|.yv (.eql Z Z) Z<|.yv (.pickF Z Z) Z<|.m Z Z<|.b2 (fun h39 => ?_) (fun h39 => ?_)
   ·try simp only [dt] at h39
    exact .gF Z Z Z Z<|.gF Z Z Z Z<|.gF Z Z Z Z<|.yv (.pickT Z Z) Z<|.a Z Z<|.nt<|.me _ ⟨rfl,trivial⟩ ⟨rfl,rfl,rfl,rfl,rfl,rfl,rfl,trivial⟩ (fun _ s => s) (by rw [(thel_eq kd).2];first | exact dT (by omega) | exact dF (by omega) | exact dD (by omega))
   try simp only [df] at h39
   exact .gd Z Z<|.yv (.fieldAddr Z Fx.field150_0) Z<|.gd Z Z<|.yv (.load Z Fx.agg3 (.head _) Z) Z<|.gd Z Z<|.yv (.eql Z Z) Z<|.yv (.pickF Z Z) Z<|.a Z Z<|.nt<|.me _ ⟨rfl,trivial⟩ ⟨rfl,rfl,rfl,rfl,rfl,rfl,rfl,trivial⟩ (fun _ s => s) (by rw [(thel_eq kd).2];first | exact dT (by omega) | exact dF (by omega) | exact dD (by omega))
  have e8 := hC
  subst e8
  refine .sq<|.cu (X := Bool) [(4,_),(11,_),(12,_),(13,_)] ⟨rfl,rfl,rfl,rfl,trivial⟩ (fun z => [(88,.bool z)]) (fun z => H) (fun z => [.box b4 [.int .i64 kd.toNat,strV nm,strV hd,.slice p1 ex.length c1,.slice p2 th.length c2,.slice p3 el.length c3] 150]) (fun z => z = (!cntK kd ex.length || (!(formOf kd).nm && decide (¬ nm = [])) || (!(formOf kd).hd && decide (¬ hd = [])) || (!(formOf kd).th && decide ((0 : Int) < th.length)) || (!(formOf kd).el && decide ((0 : Int) < el.length)))) ?_ fun z hC => ?_
  ·
   refine .rg<|.yv (.fieldAddr Z Fx.field150_0) Z<|.yv (.load Z Fx.agg3 (.head _) Z) Z<|.yv (.fieldAddr Z Fx.field150_3) Z<|.yv (.load Z Fx.agg49 (.head _) Z) Z<|.yv (.lenSl Fx.sl49 Z) Z<|.yv (.call Fx.call105 Z (fun W s => counts_any H kd ex.length W s.agr)) Z<|.yv (.not Z) Z<|.m Z Z<|.b2 (fun h51 => ?_) (fun h51 => ?_)
   ·try simp only [dt] at h51
    exact .gF Z Z Z Z<|.gF Z Z Z Z<|.gF Z Z Z Z<|.gU Z Z Z<|.gU Z Z Z<|.gU Z Z Z<|.gF Z Z Z Z<|.yv (.pickT Z Z) Z<|.m Z Z<|.gF Z Z Z Z<|.gF Z Z Z Z<|.gF Z Z Z Z<|.gU Z Z Z<|.gU Z Z Z<|.gU Z Z Z<|.gF Z Z Z Z<|.yv (.pickT Z Z) Z<|.m Z Z<|.gF Z Z Z Z<|.gF Z Z Z Z<|.gF Z Z Z Z<|.gU Z Z Z<|.gU Z Z Z<|.gU Z Z Z<|.gU Z Z Z<|.gF Z Z Z Z<|.yv (.pickT Z Z) Z<|.m Z Z<|.gF Z Z Z Z<|.gF Z Z Z Z<|.gF Z Z Z Z<|.gU Z Z Z<|.gU Z Z Z<|.gU Z Z Z<|.gU Z Z Z<|.gF Z Z Z Z<|.yv (.pickT Z Z) Z<|.nt<|.me _ ⟨rfl,trivial⟩ ⟨rfl,rfl,rfl,rfl,trivial⟩ (fun _ s => s) (by simp_all)
   try simp only [df] at h51
   refine .gd Z Z<|.yv (.move Z) Z<|.gd Z Z<|.yv (.not Z) Z<|.gd Z Z<|.yv (.move Z) Z<|.b2 (fun h54 => ?_) (fun h54 => ?_)
   ·try simp only [dt] at h54
    refine .gd Z Z<|.yv (.fieldAddr Z Fx.field150_1) Z<|.gd Z Z<|.yv (.load Z Fx.agg9 (.head _) Z) Z<|.gd Z Z<|.yv (.neS Z Z) Z<|.gd Z Z<|.yv (.pickT Z Z) Z<|.yv (.pickF Z Z) Z<|.m Z Z<|.b2 (fun h60 => ?_) (fun h60 => ?_)
    ·try simp only [dt] at h60
     exact .gF Z Z Z Z<|.gF Z Z Z Z<|.gF Z Z Z Z<|.gU Z Z Z<|.gU Z Z Z<|.gU Z Z Z<|.gF Z Z Z Z<|.yv (.pickT Z Z) Z<|.m Z Z<|.gF Z Z Z Z<|.gF Z Z Z Z<|.gF Z Z Z Z<|.gU Z Z Z<|.gU Z Z Z<|.gU Z Z Z<|.gU Z Z Z<|.gF Z Z Z Z<|.yv (.pickT Z Z) Z<|.m Z Z<|.gF Z Z Z Z<|.gF Z Z Z Z<|.gF Z Z Z Z<|.gU Z Z Z<|.gU Z Z Z<|.gU Z Z Z<|.gU Z Z Z<|.gF Z Z Z Z<|.yv (.pickT Z Z) Z<|.nt<|.me _ ⟨rfl,trivial⟩ ⟨rfl,rfl,rfl,rfl,trivial⟩ (fun _ s => s) (by simp_all)
    try simp only [df] at h60
    refine .gd Z Z<|.yv (.move Z) Z<|.gd Z Z<|.yv (.not Z) Z<|.gd Z Z<|.yv (.move Z) Z<|.b2 (fun h63 => ?_) (fun h63 => ?_)
    ·try simp only [dt] at h63
     refine .gd Z Z<|.yv (.fieldAddr Z Fx.field150_2) Z<|.gd Z Z<|.yv (.load Z Fx.agg9 (.head _) Z) Z<|.gd Z Z<|.yv (.neS Z Z) Z<|.gd Z Z<|.yv (.pickT Z Z) Z<|.yv (.pickF Z Z) Z<|.m Z Z<|.b2 (fun h69 => ?_) (fun h69 => ?_)
     ·try simp only [dt] at h69
      exact .gF Z Z Z Z<|.gF Z Z Z Z<|.gF Z Z Z Z<|.gU Z Z Z<|.gU Z Z Z<|.gU Z Z Z<|.gU Z Z Z<|.gF Z Z Z Z<|.yv (.pickT Z Z) Z<|.m Z Z<|.gF Z Z Z Z<|.gF Z Z Z Z<|.gF Z Z Z Z<|.gU Z Z Z<|.gU Z Z Z<|.gU Z Z Z<|.gU Z Z Z<|.gF Z Z Z Z<|.yv (.pickT Z Z) Z<|.nt<|.me _ ⟨rfl,trivial⟩ ⟨rfl,rfl,rfl,rfl,trivial⟩ (fun _ s => s) (by simp_all)
     try simp only [df] at h69
     refine .gd Z Z<|.yv (.move Z) Z<|.gd Z Z<|.yv (.not Z) Z<|.gd Z Z<|.yv (.move Z) Z<|.b2 (fun h72 => ?_) (fun h72 => ?_)
     ·try simp only [dt] at h72
      refine .gd Z Z<|.yv (.fieldAddr Z Fx.field150_4) Z<|.gd Z Z<|.yv (.load Z Fx.agg98 (.head _) Z) Z<|.gd Z Z<|.yv (.lenSl Fx.sl98 Z) Z<|.gd Z Z<|.yv (.gtr Z Z) Z<|.gd Z Z<|.yv (.pickT Z Z) Z<|.yv (.pickF Z Z) Z<|.m Z Z<|.b2 (fun h79 => ?_) (fun h79 => ?_)
      ·try simp only [dt] at h79
       exact .gF Z Z Z Z<|.gF Z Z Z Z<|.gF Z Z Z Z<|.gU Z Z Z<|.gU Z Z Z<|.gU Z Z Z<|.gU Z Z Z<|.gF Z Z Z Z<|.yv (.pickT Z Z) Z<|.nt<|.me _ ⟨rfl,trivial⟩ ⟨rfl,rfl,rfl,rfl,trivial⟩ (fun _ s => s) (by simp_all)
      try simp only [df] at h79
      refine .gd Z Z<|.yv (.move Z) Z<|.gd Z Z<|.yv (.not Z) Z<|.gd Z Z<|.yv (.move Z) Z<|.b2 (fun h82 => ?_) (fun h82 => ?_)
      ·try simp only [dt] at h82
       exact .gd Z Z<|.yv (.fieldAddr Z Fx.field150_5) Z<|.gd Z Z<|.yv (.load Z Fx.agg98 (.head _) Z) Z<|.gd Z Z<|.yv (.lenSl Fx.sl98 Z) Z<|.gd Z Z<|.yv (.gtr Z Z) Z<|.gd Z Z<|.yv (.pickT Z Z) Z<|.yv (.pickF Z Z) Z<|.nt<|.me _ ⟨rfl,trivial⟩ ⟨rfl,rfl,rfl,rfl,trivial⟩ (fun _ s => s) (by simp_all)
      try simp only [df] at h82
      exact .gF Z Z Z Z<|.gF Z Z Z Z<|.gF Z Z Z Z<|.gF Z Z Z Z<|.gd Z Z<|.yv (.pickF Z Z) Z<|.yv (.pickF Z Z) Z<|.nt<|.me _ ⟨rfl,trivial⟩ ⟨rfl,rfl,rfl,rfl,trivial⟩ (fun _ s => s) (by simp_all)
     try simp only [df] at h72
     refine .gF Z Z Z Z<|.gF Z Z Z Z<|.gF Z Z Z Z<|.gF Z Z Z Z<|.gd Z Z<|.yv (.pickF Z Z) Z<|.yv (.pickF Z Z) Z<|.m Z Z<|.gd Z Z<|.yv (.move Z) Z<|.gd Z Z<|.yv (.not Z) Z<|.gd Z Z<|.yv (.move Z) Z<|.b2 (fun h82 => ?_) (fun h82 => ?_)
     ·try simp only [dt] at h82
      exact .gd Z Z<|.yv (.fieldAddr Z Fx.field150_5) Z<|.gd Z Z<|.yv (.load Z Fx.agg98 (.head _) Z) Z<|.gd Z Z<|.yv (.lenSl Fx.sl98 Z) Z<|.gd Z Z<|.yv (.gtr Z Z) Z<|.gd Z Z<|.yv (.pickT Z Z) Z<|.yv (.pickF Z Z) Z<|.nt<|.me _ ⟨rfl,trivial⟩ ⟨rfl,rfl,rfl,rfl,trivial⟩ (fun _ s => s) (by simp_all)
     try simp only [df] at h82
     exact .gF Z Z Z Z<|.gF Z Z Z Z<|.gF Z Z Z Z<|.gF Z Z Z Z<|.gd Z Z<|.yv (.pickF Z Z) Z<|.yv (.pickF Z Z) Z<|.nt<|.me _ ⟨rfl,trivial⟩ ⟨rfl,rfl,rfl,rfl,trivial⟩ (fun _ s => s) (by simp_all)
    try simp only [df] at h63
    refine .gF Z Z Z Z<|.gF Z Z Z Z<|.gF Z Z Z Z<|.gd Z Z<|.yv (.pickF Z Z) Z<|.yv (.pickF Z Z) Z<|.m Z Z<|.gd Z Z<|.yv (.move Z) Z<|.gd Z Z<|.yv (.not Z) Z<|.gd Z Z<|.yv (.move Z) Z<|.b2 (fun h72 => ?_) (fun h72 => ?_)
    ·try simp only [dt] at h72
     refine .gd Z Z<|.yv (.fieldAddr Z Fx.field150_4) Z<|.gd Z Z<|.yv (.load Z Fx.agg98 (.head _) Z) Z<|.gd Z Z<|.yv (.lenSl Fx.sl98 Z) Z<|.gd Z Z<|.yv (.gtr Z Z) Z<|.gd Z Z<|.yv (.pickT Z Z) Z<|.yv (.pickF Z Z) Z<|.m Z Z<|.b2 (fun h79 => ?_) (fun h79 => ?_)
     ·try simp only [dt] at h79
      exact .gF Z Z Z Z<|.gF Z Z Z Z<|.gF Z Z Z Z<|.gU Z Z Z<|.gU Z Z Z<|.gU Z Z Z<|.gU Z Z Z<|.gF Z Z Z Z<|.yv (.pickT Z Z) Z<|.nt<|.me _ ⟨rfl,trivial⟩ ⟨rfl,rfl,rfl,rfl,trivial⟩ (fun _ s => s) (by simp_all)
     try simp only [df] at h79
     refine .gd Z Z<|.yv (.move Z) Z<|.gd Z Z<|.yv (.not Z) Z<|.gd Z Z<|.yv (.move Z) Z<|.b2 (fun h82 => ?_) (fun h82 => ?_)
     ·try simp only [dt] at h82
      exact .gd Z Z<|.yv (.fieldAddr Z Fx.field150_5) Z<|.gd Z Z<|.yv (.load Z Fx.agg98 (.head _) Z) Z<|.gd Z Z<|.yv (.lenSl Fx.sl98 Z) Z<|.gd Z Z<|.yv (.gtr Z Z) Z<|.gd Z Z<|.yv (.pickT Z Z) Z<|.yv (.pickF Z Z) Z<|.nt<|.me _ ⟨rfl,trivial⟩ ⟨rfl,rfl,rfl,rfl,trivial⟩ (fun _ s => s) (by simp_all)
     try simp only [df] at h82
     exact .gF Z Z Z Z<|.gF Z Z Z Z<|.gF Z Z Z Z<|.gF Z Z Z Z<|.gd Z Z<|.yv (.pickF Z Z) Z<|.yv (.pickF Z Z) Z<|.nt<|.me _ ⟨rfl,trivial⟩ ⟨rfl,rfl,rfl,rfl,trivial⟩ (fun _ s => s) (by simp_all)
    try simp only [df] at h72
    refine .gF Z Z Z Z<|.gF Z Z Z Z<|.gF Z Z Z Z<|.gF Z Z Z Z<|.gd Z Z<|.yv (.pickF Z Z) Z<|.yv (.pickF Z Z) Z<|.m Z Z<|.gd Z Z<|.yv (.move Z) Z<|.gd Z Z<|.yv (.not Z) Z<|.gd Z Z<|.yv (.move Z) Z<|.b2 (fun h82 => ?_) (fun h82 => ?_)
    ·try simp only [dt] at h82
     exact .gd Z Z<|.yv (.fieldAddr Z Fx.field150_5) Z<|.gd Z Z<|.yv (.load Z Fx.agg98 (.head _) Z) Z<|.gd Z Z<|.yv (.lenSl Fx.sl98 Z) Z<|.gd Z Z<|.yv (.gtr Z Z) Z<|.gd Z Z<|.yv (.pickT Z Z) Z<|.yv (.pickF Z Z) Z<|.nt<|.me _ ⟨rfl,trivial⟩ ⟨rfl,rfl,rfl,rfl,trivial⟩ (fun _ s => s) (by simp_all)
    try simp only [df] at h82
    exact .gF Z Z Z Z<|.gF Z Z Z Z<|.gF Z Z Z Z<|.gF Z Z Z Z<|.gd Z Z<|.yv (.pickF Z Z) Z<|.yv (.pickF Z Z) Z<|.nt<|.me _ ⟨rfl,trivial⟩ ⟨rfl,rfl,rfl,rfl,trivial⟩ (fun _ s => s) (by simp_all)
   try simp only [df] at h54
   refine .gF Z Z Z Z<|.gF Z Z Z Z<|.gF Z Z Z Z<|.gd Z Z<|.yv (.pickF Z Z) Z<|.yv (.pickF Z Z) Z<|.m Z Z<|.gd Z Z<|.yv (.move Z) Z<|.gd Z Z<|.yv (.not Z) Z<|.gd Z Z<|.yv (.move Z) Z<|.b2 (fun h63 => ?_) (fun h63 => ?_)
   ·try simp only [dt] at h63
    refine .gd Z Z<|.yv (.fieldAddr Z Fx.field150_2) Z<|.gd Z Z<|.yv (.load Z Fx.agg9 (.head _) Z) Z<|.gd Z Z<|.yv (.neS Z Z) Z<|.gd Z Z<|.yv (.pickT Z Z) Z<|.yv (.pickF Z Z) Z<|.m Z Z<|.b2 (fun h69 => ?_) (fun h69 => ?_)
    ·try simp only [dt] at h69
     exact .gF Z Z Z Z<|.gF Z Z Z Z<|.gF Z Z Z Z<|.gU Z Z Z<|.gU Z Z Z<|.gU Z Z Z<|.gU Z Z Z<|.gF Z Z Z Z<|.yv (.pickT Z Z) Z<|.m Z Z<|.gF Z Z Z Z<|.gF Z Z Z Z<|.gF Z Z Z Z<|.gU Z Z Z<|.gU Z Z Z<|.gU Z Z Z<|.gU Z Z Z<|.gF Z Z Z Z<|.yv (.pickT Z Z) Z<|.nt<|.me _ ⟨rfl,trivial⟩ ⟨rfl,rfl,rfl,rfl,trivial⟩ (fun _ s => s) (by simp_all)
    try simp only [df] at h69
    refine .gd Z Z<|.yv (.move Z) Z<|.gd Z Z<|.yv (.not Z) Z<|.gd Z Z<|.yv (.move Z) Z<|.b2 (fun h72 => ?_) (fun h72 => ?_)
    ·try simp only [dt] at h72
     refine .gd Z Z<|.yv (.fieldAddr Z Fx.field150_4) Z<|.gd Z Z<|.yv (.load Z Fx.agg98 (.head _) Z) Z<|.gd Z Z<|.yv (.lenSl Fx.sl98 Z) Z<|.gd Z Z<|.yv (.gtr Z Z) Z<|.gd Z Z<|.yv (.pickT Z Z) Z<|.yv (.pickF Z Z) Z<|.m Z Z<|.b2 (fun h79 => ?_) (fun h79 => ?_)
     ·try simp only [dt] at h79
      exact .gF Z Z Z Z<|.gF Z Z Z Z<|.gF Z Z Z Z<|.gU Z Z Z<|.gU Z Z Z<|.gU Z Z Z<|.gU Z Z Z<|.gF Z Z Z Z<|.yv (.pickT Z Z) Z<|.nt<|.me _ ⟨rfl,trivial⟩ ⟨rfl,rfl,rfl,rfl,trivial⟩ (fun _ s => s) (by simp_all)
     try simp only [df] at h79
     refine .gd Z Z<|.yv (.move Z) Z<|.gd Z Z<|.yv (.not Z) Z<|.gd Z Z<|.yv (.move Z) Z<|.b2 (fun h82 => ?_) (fun h82 => ?_)
     ·try simp only [dt] at h82
      exact .gd Z Z<|.yv (.fieldAddr Z Fx.field150_5) Z<|.gd Z Z<|.yv (.load Z Fx.agg98 (.head _) Z) Z<|.gd Z Z<|.yv (.lenSl Fx.sl98 Z) Z<|.gd Z Z<|.yv (.gtr Z Z) Z<|.gd Z Z<|.yv (.pickT Z Z) Z<|.yv (.pickF Z Z) Z<|.nt<|.me _ ⟨rfl,trivial⟩ ⟨rfl,rfl,rfl,rfl,trivial⟩ (fun _ s => s) (by simp_all)
     try simp only [df] at h82
     exact .gF Z Z Z Z<|.gF Z Z Z Z<|.gF Z Z Z Z<|.gF Z Z Z Z<|.gd Z Z<|.yv (.pickF Z Z) Z<|.yv (.pickF Z Z) Z<|.nt<|.me _ ⟨rfl,trivial⟩ ⟨rfl,rfl,rfl,rfl,trivial⟩ (fun _ s => s) (by simp_all)
    try simp only [df] at h72
    refine .gF Z Z Z Z<|.gF Z Z Z Z<|.gF Z Z Z Z<|.gF Z Z Z Z<|.gd Z Z<|.yv (.pickF Z Z) Z<|.yv (.pickF Z Z) Z<|.m Z Z<|.gd Z Z<|.yv (.move Z) Z<|.gd Z Z<|.yv (.not Z) Z<|.gd Z Z<|.yv (.move Z) Z<|.b2 (fun h82 => ?_) (fun h82 => ?_)
    ·try simp only [dt] at h82
     exact .gd Z Z<|.yv (.fieldAddr Z Fx.field150_5) Z<|.gd Z Z<|.yv (.load Z Fx.agg98 (.head _) Z) Z<|.gd Z Z<|.yv (.lenSl Fx.sl98 Z) Z<|.gd Z Z<|.yv (.gtr Z Z) Z<|.gd Z Z<|.yv (.pickT Z Z) Z<|.yv (.pickF Z Z) Z<|.nt<|.me _ ⟨rfl,trivial⟩ ⟨rfl,rfl,rfl,rfl,trivial⟩ (fun _ s => s) (by simp_all)
    try simp only [df] at h82
    exact .gF Z Z Z Z<|.gF Z Z Z Z<|.gF Z Z Z Z<|.gF Z Z Z Z<|.gd Z Z<|.yv (.pickF Z Z) Z<|.yv (.pickF Z Z) Z<|.nt<|.me _ ⟨rfl,trivial⟩ ⟨rfl,rfl,rfl,rfl,trivial⟩ (fun _ s => s) (by simp_all)
   try simp only [df] at h63
   refine .gF Z Z Z Z<|.gF Z Z Z Z<|.gF Z Z Z Z<|.gd Z Z<|.yv (.pickF Z Z) Z<|.yv (.pickF Z Z) Z<|.m Z Z<|.gd Z Z<|.yv (.move Z) Z<|.gd Z Z<|.yv (.not Z) Z<|.gd Z Z<|.yv (.move Z) Z<|.b2 (fun h72 => ?_) (fun h72 => ?_)
   ·try simp only [dt] at h72
    refine .gd Z Z<|.yv (.fieldAddr Z Fx.field150_4) Z<|.gd Z Z<|.yv (.load Z Fx.agg98 (.head _) Z) Z<|.gd Z Z<|.yv (.lenSl Fx.sl98 Z) Z<|.gd Z Z<|.yv (.gtr Z Z) Z<|.gd Z Z<|.yv (.pickT Z Z) Z<|.yv (.pickF Z Z) Z<|.m Z Z<|.b2 (fun h79 => ?_) (fun h79 => ?_)
    ·try simp only [dt] at h79
     exact .gF Z Z Z Z<|.gF Z Z Z Z<|.gF Z Z Z Z<|.gU Z Z Z<|.gU Z Z Z<|.gU Z Z Z<|.gU Z Z Z<|.gF Z Z Z Z<|.yv (.pickT Z Z) Z<|.nt<|.me _ ⟨rfl,trivial⟩ ⟨rfl,rfl,rfl,rfl,trivial⟩ (fun _ s => s) (by simp_all)
    try simp only [df] at h79
    refine .gd Z Z<|.yv (.move Z) Z<|.gd Z Z<|.yv (.not Z) Z<|.gd Z Z<|.yv (.move Z) Z<|.b2 (fun h82 => ?_) (fun h82 => ?_)
    ·try simp only [dt] at h82
     exact .gd Z Z<|.yv (.fieldAddr Z Fx.field150_5) Z<|.gd Z Z<|.yv (.load Z Fx.agg98 (.head _) Z) Z<|.gd Z Z<|.yv (.lenSl Fx.sl98 Z) Z<|.gd Z Z<|.yv (.gtr Z Z) Z<|.gd Z Z<|.yv (.pickT Z Z) Z<|.yv (.pickF Z Z) Z<|.nt<|.me _ ⟨rfl,trivial⟩ ⟨rfl,rfl,rfl,rfl,trivial⟩ (fun _ s => s) (by simp_all)
    try simp only [df] at h82
    exact .gF Z Z Z Z<|.gF Z Z Z Z<|.gF Z Z Z Z<|.gF Z Z Z Z<|.gd Z Z<|.yv (.pickF Z Z) Z<|.yv (.pickF Z Z) Z<|.nt<|.me _ ⟨rfl,trivial⟩ ⟨rfl,rfl,rfl,rfl,trivial⟩ (fun _ s => s) (by simp_all)
   try simp only [df] at h72
   refine .gF Z Z Z Z<|.gF Z Z Z Z<|.gF Z Z Z Z<|.gF Z Z Z Z<|.gd Z Z<|.yv (.pickF Z Z) Z<|.yv (.pickF Z Z) Z<|.m Z Z<|.gd Z Z<|.yv (.move Z) Z<|.gd Z Z<|.yv (.not Z) Z<|.gd Z Z<|.yv (.move Z) Z<|.b2 (fun h82 => ?_) (fun h82 => ?_)
   ·try simp only [dt] at h82
    exact .gd Z Z<|.yv (.fieldAddr Z Fx.field150_5) Z<|.gd Z Z<|.yv (.load Z Fx.agg98 (.head _) Z) Z<|.gd Z Z<|.yv (.lenSl Fx.sl98 Z) Z<|.gd Z Z<|.yv (.gtr Z Z) Z<|.gd Z Z<|.yv (.pickT Z Z) Z<|.yv (.pickF Z Z) Z<|.nt<|.me _ ⟨rfl,trivial⟩ ⟨rfl,rfl,rfl,rfl,trivial⟩ (fun _ s => s) (by simp_all)
   try simp only [df] at h82
   exact .gF Z Z Z Z<|.gF Z Z Z Z<|.gF Z Z Z Z<|.gF Z Z Z Z<|.gd Z Z<|.yv (.pickF Z Z) Z<|.yv (.pickF Z Z) Z<|.nt<|.me _ ⟨rfl,trivial⟩ ⟨rfl,rfl,rfl,rfl,trivial⟩ (fun _ s => s) (by simp_all)
  have e88 := hC
  refine .cd Z (fun h88 => ?_) (fun h88 => ?_)
  ·try simp only [dt] at h88
   rw [h88] at e88
   have hz := hbad (by rw [show frmS (.mk kd nm hd ex th el) = false from by rw [frm_bad,← e88];rfl];rfl)
   refine .sr<|.a Z Z<|.nt<|.rt<|.tR<|.bR<|.tR<|.tR<|.bR<|.tR<|?_
   refine Sx.ret1 (.inl rfl) rfl (.tmp rfl) fun W s => ⟨retB ?_,s.ext⟩
   first
    | (rw [hz])
    | (rw [hal])
  try simp only [df] at h88
  rw [h88] at e88
  have hg := e88.symm
  refine .sk<|.tN<|.sq<|.sr<|.yv (.fieldAddr Z Fx.field150_3) Z<|.yv (.load Z Fx.agg49 (.head _) Z) Z<|.yv (.lenSl Fx.sl49 Z) Z<|.m Z Z<|.nt<|.bk<|.lp (X := Nat) [(4,_),(11,_),(12,_),(13,_),(90,_),(91,_)] ⟨rfl,rfl,rfl,rfl,rfl,rfl,trivial⟩ [_] (fun j => [(92,.int .i64 (j : Nat))]) (fun j => H) (fun j => []) (fun j => j ≤ ex.length ∧ Ex.alls frmE (ex.take j) = true) (fun j => ex.length - j) 0 (fun _ s => s) ⟨rfl,trivial⟩ ⟨by omega,rfl⟩ fun j hC => ?_
  obtain ⟨hj0,hae⟩ := hC
  refine .sr<|.yv (.lss Z Z) Z<|.nt<|.sq<|.cd Z (fun h93 => ?_) (fun h93 => ?_)
  ·try simp only [dt] at h93
   have hj : j < ex.length := by omega
   obtain ⟨bF,oF,cF,hpF,rF,lF,mF⟩ := hs1.elem (map_at (f := dEx .i64) hj)
   cases hpF
   have hje := List.all_eq_true.1 a5 _ (List.getElem_mem hj)
   simp only [okE,Bool.and_eq_true,decide_eq_true_eq] at hje
   refine .sk<|.tN<|.sq<|.bk<|.sr<|.yv (.indexSl Fx.sl49 Z Z Z (by omega) (q := oF + j * 4) Z) Z<|.yv (.loadMW Z Fx.agg51 mF lF) Z<|.al Fx.zero51 Z fun b10 => .sV .head Z Z Fx.size51 lF rF.one Z<|.ns<|.yv (.loadW Z Fx.agg51 (.head _) lF) Z<|.yv (.call Fx.call106 Z (fun W s => exprForm_any H _ cF W rF s.agr)) Z<|.yv (.not Z) Z<|.nt<|.cd Z (fun h98 => ?_) (fun h98 => ?_)
   ·try simp only [dt] at h98
    have hb : Ex.alls frmE ex = false := alls_bad hj (by simpa using h98)
    have hz := hbad (by rw [show frmS (.mk kd nm hd ex th el) = false from by rw [frm_bad,hb,Bool.and_false]];rfl)
    refine .sr<|.a Z Z<|.nt<|.rt<|.bR<|.tR<|.tR<|.bR<|.tR<|.bR<|.tR<|.tR<|.bR<|.tR<|?_
    refine Sx.ret1 (.inl rfl) rfl (.tmp rfl) fun W s => ⟨retB ?_,s.ext⟩
    first
     | (rw [hz])
     | (rw [hal])
   skip
   exact .sk<|.bN<|.tN<|.rg<|.yv (.add Z Z (w6 (by omega))) Z<|.m Z Z<|.nt<|.ag (j + 1) ⟨rfl,trivial⟩ ⟨rfl,rfl,rfl,rfl,rfl,rfl,trivial⟩ (fun _ s => s.pick [1] [_] Z Z) ⟨by omega,by rw [alls_succ hj,hae];simpa using h98⟩ (by omega)
  try simp only [df] at h93
  obtain rfl : j = ex.length := by omega
  rw [List.take_length] at hae
  refine .ex<|.tE<|.tE<|.bE<|.tN<|.cu (X := Bool) [(11,_),(12,_),(13,_)] ⟨rfl,rfl,rfl,trivial⟩ (fun z => [(109,.bool z)]) (fun z => H) (fun z => [.box b4 [.int .i64 kd.toNat,strV nm,strV hd,.slice p1 ex.length c1,.slice p2 th.length c2,.slice p3 el.length c3] 150]) (fun z => z = (!(Sm.alls frmS th && Sm.alls frmS el))) ?_ fun z hC => ?_
  ·
   refine .rg<|.yv (.fieldAddr Z Fx.field150_4) Z<|.yv (.load Z Fx.agg98 (.head _) Z) Z<|.yv (.call Fx.call70 Z (fun W s => hit _ W hs2 s.agr)) Z<|.yv (.not Z) Z<|.m Z Z<|.b2 (fun h104 => ?_) (fun h104 => ?_)
   ·try simp only [dt] at h104
    exact .gF Z Z Z Z<|.gF Z Z Z Z<|.gF Z Z Z Z<|.gF Z Z Z Z<|.yv (.pickT Z Z) Z<|.nt<|.me _ ⟨rfl,trivial⟩ ⟨rfl,rfl,rfl,trivial⟩ (fun _ s => s) (by simp_all)
   try simp only [df] at h104
   exact .gd Z Z<|.yv (.fieldAddr Z Fx.field150_5) Z<|.gd Z Z<|.yv (.load Z Fx.agg98 (.head _) Z) Z<|.gd Z Z<|.yv (.call Fx.call70 Z (fun W s => hie _ W hs3 s.agr)) Z<|.gd Z Z<|.yv (.not Z) Z<|.yv (.pickF Z Z) Z<|.nt<|.me _ ⟨rfl,trivial⟩ ⟨rfl,rfl,rfl,trivial⟩ (fun _ s => s) (by simp_all)
  have e109 := hC
  refine .cd Z (fun h109 => ?_) (fun h109 => ?_)
  ·try simp only [dt] at h109
   rw [h109] at e109
   have hz := hbad (by rw [show frmS (.mk kd nm hd ex th el) = true from by rw [frm_bad,hg,hae];rfl,Bool.true_and];have := e109.symm;rwa [Bool.not_eq_true'] at this)
   refine .sr<|.a Z Z<|.nt<|.rt<|.bR<|.tR<|.tR<|.bR<|.tR<|?_
   refine Sx.ret1 (.inl rfl) rfl (.tmp rfl) fun W s => ⟨retB ?_,s.ext⟩
   first
    | (rw [hz])
    | (rw [hal])
  try simp only [df] at h109
  rw [h109] at e109
  have q109 : (Sm.alls frmS th && Sm.alls frmS el) = true := by simpa using e109.symm
  exact .sk<|.bN<|.tN<|.rg<|.yv (.add Z Z (w6 (by omega))) Z<|.m Z Z<|.nt<|.ag (k + 1) ⟨rfl,trivial⟩ ⟨rfl,rfl,trivial⟩ (fun _ s => s.pick [] [] Z Z) ⟨by omega,by rw [hsucc,hal,Bool.true_and];rw [show frmS (.mk kd nm hd ex th el) = true from by rw [frm_bad,hg,hae];rfl];simp only [Bool.true_and];simpa using q109⟩ (by omega)
 try simp only [df] at h14
 obtain rfl : k = l.length := by omega
 rw [List.take_length] at hal
 refine .ex<|.tE<|.tE<|.bE<|.tN<|.sr<|.a Z Z<|.nt<|.rt<|?_
 refine Sx.ret1 (.inl rfl) rfl (.tmp rfl) fun W s => ⟨retB ?_,s.ext⟩
 first
  | (rw [hz])
  | (rw [hal])
theorem mem_step {l : List Str} {m : Nat} {a : Str} (h : m < l.length) : (decide (a ∈ l.take m) || decide (l[m] = a)) = decide (a ∈ l.take (m + 1)) := by
 rw [take_snoc h,Bool.eq_iff_iff]
 simp only [Bool.or_eq_true,decide_eq_true_eq,List.mem_append,List.mem_singleton]
 exact or_congr Iff.rfl eq_comm
set_option maxHeartbeats 2000000 in
set_option maxRecDepth 100000 in
theorem handlersR_any (N : Nat) (hN : N ≤ 100000) (H : Hp) (c : Cp) (okc : okCp N c) (cs : List Value) (w : World) (h : Rep H (dCp .i64 c) cs) (hA : Agr H w) :
 Calls Tryz.prog 64 #[.agg cs.toArray] w fun r w' => ∃ (x : Option Addr × Nat) (H' : Hp),H' = H ∧ r = .returned (.slice x.1 (namesOf c).length x.2) ∧ Grow H w H' w' := by
 obtain ⟨q1,d1,q2,d2,rfl,nc,g1,g2⟩ := cp_open h
 have hcr := g2.cap
 have hvr : c.vers.length ≤ N := okc.vers
 have hNN : c.vers.length * N ≤ 10000000000 := Nat.le_trans (Nat.mul_le_mul hvr hN) (Nat.mul_le_mul hN (Nat.le_refl 100000))
 refine Sx.enter (H := H) Tryz.func64 rfl Tryz.ntmps64 rfl hA ?_
 refine .sr<|.bx Z Z Z fun b1 => .a Z Z<|.ns<|.a Z Z<|?_
 refine Sx.row0 9 1 ?_
 refine .nt<|.sq<|.sr<|.yv (.fieldAddr Z Fx.field91_2) Z<|.yv (.load Z Fx.agg89 (.tail _<|.head _) Z) Z<|.yv (.lenSl Fx.sl89 Z) Z<|.m Z Z<|.nt<|.bk<|.lp (X := Nat × Nat × Value × List Value) [(12,_),(13,_)] ⟨rfl,rfl,trivial⟩ [_] (fun z => [(3,z.2.2.1),(14,.int .i64 (z.1 : Nat))]) (fun z => H) (fun z => [.row 9 1 z.2.2.1 z.2.1 z.2.2.2]) (fun z => z.1 ≤ c.vers.length ∧ z.2.1 = ((c.vers.take z.1).foldl stepV []).length ∧ z.2.1 ≤ z.1 * N ∧ RepZ H 1 (((c.vers.take z.1).foldl stepV []).map dStr) z.2.2.2) (fun z => c.vers.length - z.1) (0,0,.slice none 0 0,[]) (fun _ s => s) ⟨rfl,rfl,trivial⟩ ⟨by simp,rfl,by simp,RepZ.nil⟩ fun z hC => ?_
 obtain ⟨i,n,r,xs⟩ := z
 dsimp only at hC ⊢
 obtain ⟨hi0,hn,hnb,hz⟩ := hC
 refine .sr<|.yv (.lss Z Z) Z<|.nt<|.sq<|.cd Z (fun h15 => ?_) (fun h15 => ?_)
 ·try simp only [dt] at h15
  have hi : i < c.vers.length := by omega
  have hs1 := fold_succ (f := stepV) (a := []) hi
  obtain ⟨bG,oG,cG,hpG,rG,lG,mG⟩ := g2.elem (map_at (f := dVs .i64) hi)
  cases hpG
  have okv := okc.all _ (List.getElem_mem hi)
  generalize hxv : c.vers[i] = v at rG okv hs1
  obtain ⟨pv,cv,rfl,gv⟩ := vs_open rG
  have hcw := gv.cap
  have hvn : v.length ≤ N := okv.len
  have hbN : i * N + N ≤ 10000000000 := by
   have := Nat.mul_le_mul_right N (show i + 1 ≤ c.vers.length by omega)
   rw [Nat.succ_mul] at this;omega
  generalize hks : (c.vers.take i).foldl stepV [] = ks at hs1 hn hz
  refine .sk<|.tN<|.sq<|.bk<|.sr<|.yv (.indexSl Fx.sl89 Z Z (i := i) Z hi (q := oG + i * 1) Z) Z<|.yv (.loadM Z Fx.agg97 mG (k := 0) Z Z) Z<|.a Z Z<|.ns<|.m Z Z<|.yv (.lenSl Fx.sl97 Z) Z<|.m Z Z<|.nt<|.bk<|.lp (X := Nat × Nat × Value × List Value) [(12,_),(13,_),(14,_),(18,_),(19,_)] ⟨rfl,rfl,rfl,rfl,rfl,trivial⟩ [_] (fun z => [(3,z.2.2.1),(20,.int .i64 (z.1 : Nat))]) (fun z => H) (fun z => [.row 9 1 z.2.2.1 z.2.1 z.2.2.2]) (fun z => z.1 ≤ v.length ∧ z.2.1 = ((v.take z.1).foldl stepH ks).length ∧ z.2.1 ≤ n + z.1 ∧ RepZ H 1 (((v.take z.1).foldl stepH ks).map dStr) z.2.2.2) (fun z => v.length - z.1) (0,n,r,xs) (fun _ s => s) ⟨rfl,rfl,trivial⟩ ⟨by simp,hn,by simp,hz⟩ fun z hC => ?_
  obtain ⟨j,n2,r2,xs2⟩ := z
  dsimp only at hC ⊢
  obtain ⟨hj0,hn2,hnb2,hz2⟩ := hC
  refine .sr<|.yv (.lss Z Z) Z<|.nt<|.sq<|.cd Z (fun h21 => ?_) (fun h21 => ?_)
  ·try simp only [dt] at h21
   have hj : j < v.length := by omega
   have hs2 := fold_succ (f := stepH) (a := ks) hj
   obtain ⟨bI,oI,cI,hpI,rI,lI,mI⟩ := gv.elem (map_at (f := dHd .i64) hj)
   cases hpI
   have okh := okv.all _ (List.getElem_mem hj)
   generalize hxh : v[j] = y at rI okh hs2
   obtain ⟨t1,w1,t2,w2,rfl,ny,m1,m2⟩ := hd_open rI
   generalize hk2 : (v.take j).foldl stepH ks = ks2 at hs2 hn2 hz2
   refine At.ra (.head _) fun pr cr er => ?_
   subst er
   refine .sk<|.tN<|.sq<|.bk<|.sr<|.yv (.indexSl Fx.sl97 Z Z Z (by omega) (q := oI + j * 3) Z) Z<|.yv (.loadMW Z Fx.agg100 mI Z) Z<|.al Fx.zero100 Z fun b7 => .sW .head Z Z Fx.size100 (by simp [Value.oneCell',strV]) Z<|.ns<|.a Z Z<|.nt<|.sq<|.sr<|.m Z Z<|.yv (.lenSl Fx.sl66 Z) Z<|.m Z Z<|.nt<|.bk<|.lp (X := Nat × Bool) [(3,_),(7,_),(12,_),(13,_),(14,_),(18,_),(19,_),(20,_),(24,_),(25,_)] ⟨rfl,rfl,rfl,rfl,rfl,rfl,rfl,rfl,rfl,rfl,trivial⟩ [_,_,_] (fun z => [(8,.bool z.2),(26,.int .i64 (z.1 : Nat))]) (fun z => H) (fun z => []) (fun z => z.1 ≤ n2 ∧ z.2 = decide (y.nm ∈ ks2.take z.1)) (fun z => n2 - z.1) (0,false) (fun _ s => s) ⟨rfl,rfl,trivial⟩ ⟨by simp,by simp⟩ fun z hC => ?_
   obtain ⟨m,fl⟩ := z
   dsimp only at hC ⊢
   obtain ⟨hm0,hfl⟩ := hC
   refine .sr<|.yv (.lss Z Z) Z<|.nt<|.sq<|.cd Z (fun h27 => ?_) (fun h27 => ?_)
   ·try simp only [dt] at h27
    have hm : m < ks2.length := by omega
    have hn20 : 0 < n2 := by omega
    refine At.rs (.tail _<|.head _) hn20 fun gr cr2 er2 => ?_
    obtain ⟨rfl,rfl⟩ := sl_inj er2
    obtain ⟨cM,rM,lM,mM⟩ := hz2.at (i := m) (map_at (f := dStr) hm)
    obtain ⟨rfl,_⟩ := str_open rM
    have hmz : xs2[m * 1]? = some (strV ks2[m]) := mM 0 _ rfl
    refine .sk<|.tN<|.cu (X := Bool) [(3,_),(7,_),(12,_),(13,_),(14,_),(18,_),(19,_),(20,_),(24,_),(25,_),(26,_)] ⟨rfl,rfl,rfl,rfl,rfl,rfl,rfl,rfl,rfl,rfl,rfl,trivial⟩ (fun z => [(8,.bool z)]) (fun z => H) (fun z => [.box b7 [strV y.nm,.slice t1 y.ps.length w1,.slice t2 y.body.length w2] 100,.row 9 1 (.slice (some ⟨gr,0,none⟩) n2 cr) n2 xs2,.box b1 [strV c.nm,.slice q1 c.vars.length d1,.slice (some ⟨bG,oG,none⟩) c.vers.length d2] 91]) (fun z => z = (fl || decide (ks2[m] = y.nm))) ?_ fun z hC => ?_
    ·
     refine .bk<|.sr<|.yv (.indexSl Fx.sl66 Z Z (i := m) Z (by omega) (q := m * 1) (by omega)) Z<|.yv (.loadSrc Z Fx.agg9 (.row (.tail _<|.head _) (one_at hmz))) Z<|.a Z Z<|.nt<|.rg<|.m Z Z<|.m Z Z<|.b2 (fun h31 => ?_) (fun h31 => ?_)
     ·try simp only [dt] at h31
      exact .gF Z Z Z Z<|.gF Z Z Z Z<|.gF Z Z Z Z<|.gF Z Z Z Z<|.yv (.pickT Z Z) Z<|.a Z Z<|.nl<|.bN<|.tN<|.me _ ⟨rfl,trivial⟩ ⟨rfl,rfl,rfl,rfl,rfl,rfl,rfl,rfl,rfl,rfl,rfl,trivial⟩ (fun _ s => s) (by simp_all)
     try simp only [df] at h31
     exact .gd Z Z<|.yv (.move Z) Z<|.gd Z Z<|.yv (.fieldAddr Z Fx.field100_0) Z<|.gd Z Z<|.yv (.load Z Fx.agg9 (.head _) Z) Z<|.gd Z Z<|.yv (.eqS Z Z) Z<|.yv (.pickF Z Z) Z<|.a Z Z<|.nl<|.bN<|.tN<|.me _ ⟨rfl,trivial⟩ ⟨rfl,rfl,rfl,rfl,rfl,rfl,rfl,rfl,rfl,rfl,rfl,trivial⟩ (fun _ s => s) (by simp_all)
    have e8 := hC
    exact .rg<|.yv (.add Z Z (w6 (by omega))) Z<|.m Z Z<|.nt<|.ag (x := (m,fl)) (m + 1,_) ⟨rfl,rfl,trivial⟩ ⟨rfl,rfl,rfl,rfl,rfl,rfl,rfl,rfl,rfl,rfl,trivial⟩ (fun _ s => (s.pick [0,1,2] _ Z Z)) ⟨by dsimp only;omega,by dsimp only;rw [e8,hfl];exact mem_step hm⟩ (by dsimp only;omega)
   try simp only [df] at h27
   have hfull : fl = decide (y.nm ∈ ks2) := by rw [hfl,show m = ks2.length by omega,List.take_length]
   refine .ex<|.tE<|.tE<|.bE<|.tN<|.sr<|.m Z Z<|.yv (.not Z) Z<|.nt<|.cd Z (fun h39 => ?_) (fun h39 => ?_)
   ·try simp only [dt] at h39
    have hq : ¬ y.nm ∈ ks2 := by simpa [hfull] using h39
    exact .rg<|.m Z Z<|.yv (.fieldAddr Z Fx.field100_0) Z<|.yv (.load Z Fx.agg9 (.head _) Z) Z<|.bl Z (Fx.bsl66_1 _) Z fun b43 => .ap (news := [strV y.nm]) Fx.row66 Z (fun _ => (.tail<|.tail<|.head)) Z (.box (.head _) z0) Z (by simp [Value.oneCell',strV]) (by simp [maxLen];omega) (by omega) Z fun r44 _ => .a Z Z<|.nl<|.bN<|.tN<|.rg<|.yv (.add Z Z (w6 (by omega))) Z<|.m Z Z<|.nt<|.ag (x := (j,n2,.slice pr n2 cr,xs2)) (j + 1,n2 + 1,r44,xs2 ++ [strV y.nm]) ⟨rfl,rfl,trivial⟩ ⟨rfl,rfl,rfl,rfl,rfl,trivial⟩ (fun _ s => (s.pick [2,3] _ Z Z)) ⟨by dsimp only;omega,by dsimp only;rw [hs2,stepH,addK,if_neg hq,List.length_append,hn2];rfl,by dsimp only;omega,by dsimp only;rw [hs2,stepH,addK,if_neg hq,List.map_append];exact hz2.snoc (str_shut ny) Z⟩ (by dsimp only;omega)
   try simp only [df] at h39
   have hq : y.nm ∈ ks2 := by simpa [hfull] using h39
   exact .sk<|.bN<|.tN<|.rg<|.yv (.add Z Z (w6 (by omega))) Z<|.m Z Z<|.nt<|.ag (x := (j,n2,.slice pr n2 cr,xs2)) (j + 1,n2,.slice pr n2 cr,xs2) ⟨rfl,rfl,trivial⟩ ⟨rfl,rfl,rfl,rfl,rfl,trivial⟩ (fun _ s => (s.pick [1,2] _ Z Z)) ⟨by dsimp only;omega,by dsimp only;rw [hs2,stepH,addK,if_pos hq];exact hn2,by dsimp only;omega,by dsimp only;rw [hs2,stepH,addK,if_pos hq];exact hz2⟩ (by dsimp only;omega)
  try simp only [df] at h21
  obtain rfl : j = v.length := by omega
  rw [List.take_length] at hn2 hz2
  rw [show stepV ks v = v.foldl stepH ks from rfl] at hs1
  exact .ex<|.tE<|.tE<|.bE<|.bN<|.tN<|.rg<|.yv (.add Z Z (w6 (by omega))) Z<|.m Z Z<|.nt<|.ag (x := (i,n,r,xs)) (i + 1,n2,r2,xs2) ⟨rfl,rfl,trivial⟩ ⟨rfl,rfl,trivial⟩ (fun _ s => (s.pick [0,1] _ Z Z)) ⟨by dsimp only;omega,by dsimp only;rw [hs1];exact hn2,by dsimp only;rw [Nat.add_mul,Nat.one_mul];omega,by dsimp only;rw [hs1];exact hz2⟩ (by dsimp only;omega)
 try simp only [df] at h15
 obtain rfl : i = c.vers.length := by omega
 rw [List.take_length] at hn hz
 refine .ex<|.tE<|.tE<|.bE<|.tN<|.sr<|.m Z Z<|.a Z Z<|.nt<|.rt<|?_
 refine At.ra (.head _) fun pr cr er => ?_
 subst er
 exact Sx.ret1 (.inl rfl) rfl (.tmp rfl) fun W t => ⟨(pr,cr),H,rfl,by rw [hn];rfl,.pure hA t.ext⟩
def okNmC (c : Cp) : Bool := nameB c.nm && (c.vars.all fun v => nameB v.nm) && c.vers.all fun v => v.all namH
theorem and_mix (a t b c d : Bool) : (a && t && b && c && d) = (a && (t && (b && d && c))) := by cases a <;> cases t <;> cases b <;> cases c <;> cases d <;> rfl
theorem all_and {α : Type} (p q : α → Bool) : ∀ l : List α,(l.all fun x => p x && q x) = (l.all p && l.all q)
 | [] => rfl
 | x :: r => by rw [List.all_cons,List.all_cons,List.all_cons,all_and p q r];cases p x <;> cases q x <;> cases r.all p <;> cases r.all q <;> rfl
theorem namF_eq (f : Ft) : (((nameB f.nm && f.flags.all fun x => nameB x.nm) && f.links.all fun x => nameB x.fr && nameB x.to) && f.comps.all okNmC) = namF f := by
 have e : f.comps.all okNmC = ((f.comps.all fun c => nameB c.nm && c.vars.all fun v => nameB v.nm) && evH namH f) := by
  rw [evH,← all_and];rfl
 rw [e,namF];simp only [Bool.and_assoc]
set_option maxHeartbeats 2000000 in
set_option maxRecDepth 100000 in
theorem names_f (N : Nat) (hN : N ≤ 1000000) (H : Hp) (f : Ft) (hok : okFt N f) (cs : List Value) (w : World) (h : Rep H (dFt .i64 f) cs) (hA : Agr H w) :
 Calls Tryz.prog 29 #[.agg cs.toArray] w fun r w' => r = .returned (.bool (namF f)) ∧ Ext w w' := by
 obtain ⟨p1,c1,p2,c2,p3,c3,rfl,n00,k1,k2,k3⟩ := ft_open h
 have hcap1 := k1.cap
 have hcap2 := k2.cap
 have hcap3 := k3.cap
 refine Sx.enter (H := H) Tryz.func29 rfl Tryz.ntmps29 rfl hA ?_
 refine .sr<|.bx Z Z Z fun b1 => .a Z Z<|.ns<|.yv (.fieldAddr Z Fx.field32_0) Z<|.yv (.load Z Fx.agg9 (.head _) Z) Z<|.yv (.call Fx.call68 Z (fun W s => isNameR_any H f.nm n00 W s.agr)) Z<|.a Z Z<|.nt<|.sq<|.sr<|.yv (.fieldAddr Z Fx.field32_1) Z<|.yv (.load Z Fx.agg28 (.head _) Z) Z<|.yv (.lenSl Fx.sl28 Z) Z<|.m Z Z<|.nt<|.bk<|.lp (X := Nat × Bool) [(1,_),(22,_),(23,_)] ⟨rfl,rfl,rfl,trivial⟩ [_] (fun z => [(3,.bool z.2),(24,.int .i64 (z.1 : Nat))]) (fun z => H) (fun z => []) (fun z => z.1 ≤ f.flags.length ∧ z.2 = (nameB f.nm && (f.flags.take z.1).all fun x => nameB x.nm)) (fun z => f.flags.length - z.1) (0,nameB f.nm) (fun _ s => s) ⟨rfl,rfl,trivial⟩ ⟨by simp,by simp⟩ fun z hC => ?_
 obtain ⟨k,fa⟩ := z
 dsimp only at hC ⊢
 obtain ⟨hlek,hfa⟩ := hC
 refine .sr<|.yv (.lss Z Z) Z<|.nt<|.sq<|.cd Z (fun h25 => ?_) (fun h25 => ?_)
 ·try simp only [dt] at h25
  have hk : k < f.flags.length := by omega
  obtain ⟨bE,oE,cE,hpE,rE,lE,mE⟩ := k1.elem (map_at (f := dFg) hk)
  cases hpE
  generalize hx : f.flags[k] = x at rE
  obtain ⟨rfl,nx⟩ := fg_open rE
  refine .sk<|.tN<|.cu (X := Bool) [(1,_),(22,_),(23,_),(24,_)] ⟨rfl,rfl,rfl,rfl,trivial⟩ (fun z => [(3,.bool z)]) (fun z => H) (fun z => [.box b1 [strV f.nm,.slice (some ⟨bE,oE,none⟩) f.flags.length c1,.slice p2 f.links.length c2,.slice p3 f.comps.length c3] 32]) (fun z => z = (fa && nameB x.nm)) ?_ fun z hC => ?_
  ·
   refine .bk<|.sr<|.yv (.indexSl Fx.sl28 Z Z Z (by omega) (q := oE + k * 2) Z) Z<|.yv (.loadMW Z Fx.agg84 mE Z) Z<|.al Fx.zero84 Z fun b5 => .sW .head Z Z Fx.size84 (by simp [Value.oneCell',strV]) Z<|.nt<|.rg<|.m Z Z<|.m Z Z<|.b2 (fun h29 => ?_) (fun h29 => ?_)
   ·try simp only [dt] at h29
    exact .gd Z Z<|.yv (.fieldAddr Z Fx.field84_0) Z<|.gd Z Z<|.yv (.load Z Fx.agg9 (.head _) Z) Z<|.gd Z Z<|.yv (.call Fx.call68 Z (fun W s => isNameR_any H x.nm nx W s.agr)) Z<|.yv (.pickT Z Z) Z<|.a Z Z<|.nl<|.bN<|.tN<|.me _ ⟨rfl,trivial⟩ ⟨rfl,rfl,rfl,rfl,trivial⟩ (fun _ s => s.pick [1] [_] Z Z) (by simp_all)
   try simp only [df] at h29
   exact .gF Z Z Z Z<|.gF Z Z Z Z<|.gF Z Z Z Z<|.yv (.pickF Z Z) Z<|.a Z Z<|.nl<|.bN<|.tN<|.me _ ⟨rfl,trivial⟩ ⟨rfl,rfl,rfl,rfl,trivial⟩ (fun _ s => s.pick [1] [_] Z Z) (by simp_all)
  have ea := hC
  exact .rg<|.yv (.add Z Z (w6 (by omega))) Z<|.m Z Z<|.nt<|.ag (x := (k,fa)) (k + 1,z) ⟨rfl,rfl,trivial⟩ ⟨rfl,rfl,rfl,trivial⟩ (fun _ s => (s.pick [0] _ Z Z)) ⟨by dsimp only;omega,by dsimp only;rw [ea,hfa,lall_succ hk,hx,Bool.and_assoc]⟩ (by dsimp only;omega)
 try simp only [df] at h25
 obtain rfl : k = f.flags.length := by omega
 rw [List.take_length] at hfa
 refine .ex<|.tE<|.tE<|.bE<|.tN<|.sq<|.sr<|.yv (.fieldAddr Z Fx.field32_2) Z<|.yv (.load Z Fx.agg29 (.head _) Z) Z<|.yv (.lenSl Fx.sl29 Z) Z<|.m Z Z<|.nt<|.bk<|.lp (X := Nat × Bool) [(1,_),(36,_),(37,_)] ⟨rfl,rfl,rfl,trivial⟩ [_] (fun z => [(3,.bool z.2),(38,.int .i64 (z.1 : Nat))]) (fun z => H) (fun z => []) (fun z => z.1 ≤ f.links.length ∧ z.2 = (fa && (f.links.take z.1).all fun x => nameB x.fr && nameB x.to)) (fun z => f.links.length - z.1) (0,fa) (fun _ s => s) ⟨rfl,rfl,trivial⟩ ⟨by simp,by simp⟩ fun z hC => ?_
 obtain ⟨k,fb⟩ := z
 dsimp only at hC ⊢
 obtain ⟨hlek,hfb⟩ := hC
 refine .sr<|.yv (.lss Z Z) Z<|.nt<|.sq<|.cd Z (fun h39 => ?_) (fun h39 => ?_)
 ·try simp only [dt] at h39
  have hk : k < f.links.length := by omega
  obtain ⟨bE,oE,cE,hpE,rE,lE,mE⟩ := k2.elem (map_at (f := dLk) hk)
  cases hpE
  generalize hx : f.links[k] = x at rE
  obtain ⟨rfl,nx,nx2⟩ := lk_open rE
  refine .sk<|.tN<|.cu (X := Bool) [(1,_),(36,_),(37,_),(38,_)] ⟨rfl,rfl,rfl,rfl,trivial⟩ (fun z => [(3,.bool z)]) (fun z => H) (fun z => [.box b1 [strV f.nm,.slice p1 f.flags.length c1,.slice (some ⟨bE,oE,none⟩) f.links.length c2,.slice p3 f.comps.length c3] 32]) (fun z => z = (fb && nameB x.fr && nameB x.to)) ?_ fun z hC => ?_
  ·
   refine .bk<|.sr<|.yv (.indexSl Fx.sl29 Z Z Z (by omega) (q := oE + k * 3) Z) Z<|.yv (.loadMW Z Fx.agg86 mE Z) Z<|.al Fx.zero86 Z fun b7 => .sW .head Z Z Fx.size86 (by simp [Value.oneCell',strV]) Z<|.nt<|.rg<|.m Z Z<|.m Z Z<|.b2 (fun h43 => ?_) (fun h43 => ?_)
   ·try simp only [dt] at h43
    refine .gd Z Z<|.yv (.fieldAddr Z Fx.field86_0) Z<|.gd Z Z<|.yv (.load Z Fx.agg9 (.head _) Z) Z<|.gd Z Z<|.yv (.call Fx.call68 Z (fun W s => isNameR_any H x.fr nx W s.agr)) Z<|.yv (.pickT Z Z) Z<|.m Z Z<|.b2 (fun h48 => ?_) (fun h48 => ?_)
    ·try simp only [dt] at h48
     exact .gd Z Z<|.yv (.fieldAddr Z Fx.field86_1) Z<|.gd Z Z<|.yv (.load Z Fx.agg9 (.head _) Z) Z<|.gd Z Z<|.yv (.call Fx.call68 Z (fun W s => isNameR_any H x.to nx2 W s.agr)) Z<|.yv (.pickT Z Z) Z<|.a Z Z<|.nl<|.bN<|.tN<|.me _ ⟨rfl,trivial⟩ ⟨rfl,rfl,rfl,rfl,trivial⟩ (fun _ s => s.pick [1] [_] Z Z) (by simp_all)
    try simp only [df] at h48
    exact .gF Z Z Z Z<|.gF Z Z Z Z<|.gF Z Z Z Z<|.yv (.pickF Z Z) Z<|.a Z Z<|.nl<|.bN<|.tN<|.me _ ⟨rfl,trivial⟩ ⟨rfl,rfl,rfl,rfl,trivial⟩ (fun _ s => s.pick [1] [_] Z Z) (by simp_all)
   try simp only [df] at h43
   exact .gF Z Z Z Z<|.gF Z Z Z Z<|.gF Z Z Z Z<|.yv (.pickF Z Z) Z<|.m Z Z<|.gF Z Z Z Z<|.gF Z Z Z Z<|.gF Z Z Z Z<|.yv (.pickF Z Z) Z<|.a Z Z<|.nl<|.bN<|.tN<|.me _ ⟨rfl,trivial⟩ ⟨rfl,rfl,rfl,rfl,trivial⟩ (fun _ s => s.pick [1] [_] Z Z) (by simp_all)
  have eb := hC
  exact .rg<|.yv (.add Z Z (w6 (by omega))) Z<|.m Z Z<|.nt<|.ag (x := (k,fb)) (k + 1,z) ⟨rfl,rfl,trivial⟩ ⟨rfl,rfl,rfl,trivial⟩ (fun _ s => (s.pick [0] _ Z Z)) ⟨by dsimp only;omega,by dsimp only;rw [eb,hfb,lall_succ hk,hx,Bool.and_assoc,Bool.and_assoc]⟩ (by dsimp only;omega)
 try simp only [df] at h39
 obtain rfl : k = f.links.length := by omega
 rw [List.take_length] at hfb
 refine .ex<|.tE<|.tE<|.bE<|.tN<|.sq<|.sr<|.yv (.fieldAddr Z Fx.field32_3) Z<|.yv (.load Z Fx.agg30 (.head _) Z) Z<|.yv (.lenSl Fx.sl30 Z) Z<|.m Z Z<|.nt<|.bk<|.lp (X := Nat × Bool) [(55,_),(56,_)] ⟨rfl,rfl,trivial⟩ [_] (fun z => [(3,.bool z.2),(57,.int .i64 (z.1 : Nat))]) (fun z => H) (fun z => []) (fun z => z.1 ≤ f.comps.length ∧ z.2 = (fb && (f.comps.take z.1).all okNmC)) (fun z => f.comps.length - z.1) (0,fb) (fun _ s => s) ⟨rfl,rfl,trivial⟩ ⟨by simp,by simp⟩ fun z hC => ?_
 obtain ⟨k,fc⟩ := z
 dsimp only at hC ⊢
 obtain ⟨hlek,hfc⟩ := hC
 refine .sr<|.yv (.lss Z Z) Z<|.nt<|.sq<|.cd Z (fun h58 => ?_) (fun h58 => ?_)
 ·try simp only [dt] at h58
  have hk : k < f.comps.length := by omega
  obtain ⟨bE,oE,cE,hpE,rE,lE,mE⟩ := k3.elem (map_at (f := dCp .i64) hk)
  cases hpE
  have okc := hok.all _ (List.getElem_mem hk)
  generalize hx : f.comps[k] = c at rE okc
  obtain ⟨q1,d1,q2,d2,rfl,nc,g1,g2⟩ := cp_open rE
  have hcv := g1.cap
  have hcr := g2.cap
  refine .sk<|.tN<|.sq<|.bk<|.sr<|.yv (.indexSl Fx.sl30 Z Z Z (by omega) (q := oE + k * 3) Z) Z<|.yv (.loadMW Z Fx.agg91 mE Z) Z<|.al Fx.zero91 Z fun b9 => .sW .head Z Z Fx.size91 (by simp [Value.oneCell',strV]) Z<|.nt<|.cu (X := Bool) [(9,_),(55,_),(56,_),(57,_)] ⟨rfl,rfl,rfl,rfl,trivial⟩ (fun fd => [(3,.bool fd)]) (fun fd => H) (fun fd => [.box b9 [strV c.nm,.slice q1 c.vars.length d1,.slice q2 c.vers.length d2] 91,.box b1 [strV f.nm,.slice p1 f.flags.length c1,.slice p2 f.links.length c2,.slice (some ⟨bE,oE,none⟩) f.comps.length c3] 32]) (fun fd => fd = (fc && nameB c.nm)) ?_ fun fd hC => ?_
  ·
   refine .rg<|.m Z Z<|.m Z Z<|.b2 (fun h62 => ?_) (fun h62 => ?_)
   ·try simp only [dt] at h62
    exact .gd Z Z<|.yv (.fieldAddr Z Fx.field91_0) Z<|.gd Z Z<|.yv (.load Z Fx.agg9 (.head _) Z) Z<|.gd Z Z<|.yv (.call Fx.call68 Z (fun W s => isNameR_any H c.nm nc W s.agr)) Z<|.yv (.pickT Z Z) Z<|.a Z Z<|.nt<|.me _ ⟨rfl,trivial⟩ ⟨rfl,rfl,rfl,rfl,trivial⟩ (fun _ s => s) (by simp_all)
   try simp only [df] at h62
   exact .gF Z Z Z Z<|.gF Z Z Z Z<|.gF Z Z Z Z<|.yv (.pickF Z Z) Z<|.a Z Z<|.nt<|.me _ ⟨rfl,trivial⟩ ⟨rfl,rfl,rfl,rfl,trivial⟩ (fun _ s => s) (by simp_all)
  have ed := hC
  refine .sq<|.sr<|.yv (.fieldAddr Z Fx.field91_1) Z<|.yv (.load Z Fx.agg88 (.head _) Z) Z<|.yv (.lenSl Fx.sl88 Z) Z<|.m Z Z<|.nt<|.bk<|.lp (X := Nat × Bool) [(9,_),(55,_),(56,_),(57,_),(68,_),(69,_)] ⟨rfl,rfl,rfl,rfl,rfl,rfl,trivial⟩ [_,_] (fun z => [(3,.bool z.2),(70,.int .i64 (z.1 : Nat))]) (fun z => H) (fun z => []) (fun z => z.1 ≤ c.vars.length ∧ z.2 = (fd && (c.vars.take z.1).all fun v => nameB v.nm)) (fun z => c.vars.length - z.1) (0,fd) (fun _ s => s) ⟨rfl,rfl,trivial⟩ ⟨by simp,by simp⟩ fun z hC => ?_
  obtain ⟨j,fe⟩ := z
  dsimp only at hC ⊢
  obtain ⟨hlej,hfe⟩ := hC
  refine .sr<|.yv (.lss Z Z) Z<|.nt<|.sq<|.cd Z (fun h71 => ?_) (fun h71 => ?_)
  ·try simp only [dt] at h71
   have hj : j < c.vars.length := by omega
   obtain ⟨bF,oF,cF,hpF,rF,lF,mF⟩ := g1.elem (map_at (f := dVr .i64) hj)
   cases hpF
   generalize hxw : c.vars[j] = vr at rF
   obtain ⟨rfl,nv⟩ := vr_open rF
   refine .sk<|.tN<|.cu (X := Bool) [(9,_),(55,_),(56,_),(57,_),(68,_),(69,_),(70,_)] ⟨rfl,rfl,rfl,rfl,rfl,rfl,rfl,trivial⟩ (fun z => [(3,.bool z)]) (fun z => H) (fun z => [.box b9 [strV c.nm,.slice (some ⟨bF,oF,none⟩) c.vars.length d1,.slice q2 c.vers.length d2] 91,.box b1 [strV f.nm,.slice p1 f.flags.length c1,.slice p2 f.links.length c2,.slice (some ⟨bE,oE,none⟩) f.comps.length c3] 32]) (fun z => z = (fe && nameB vr.nm)) ?_ fun z hC => ?_
   ·
    refine .bk<|.sr<|.yv (.indexSl Fx.sl88 Z Z Z (by omega) (q := oF + j * 3) Z) Z<|.yv (.loadMW Z Fx.agg93 mF Z) Z<|.al Fx.zero93 Z fun b11 => .sW .head Z Z Fx.size93 (by simp [Value.oneCell',strV]) Z<|.nt<|.rg<|.m Z Z<|.m Z Z<|.b2 (fun h75 => ?_) (fun h75 => ?_)
    ·try simp only [dt] at h75
     exact .gd Z Z<|.yv (.fieldAddr Z Fx.field93_0) Z<|.gd Z Z<|.yv (.load Z Fx.agg9 (.head _) Z) Z<|.gd Z Z<|.yv (.call Fx.call68 Z (fun W s => isNameR_any H vr.nm nv W s.agr)) Z<|.yv (.pickT Z Z) Z<|.a Z Z<|.nl<|.bN<|.tN<|.me _ ⟨rfl,trivial⟩ ⟨rfl,rfl,rfl,rfl,rfl,rfl,rfl,trivial⟩ (fun _ s => s.pick [1,2] [_,_] Z Z) (by simp_all)
    try simp only [df] at h75
    exact .gF Z Z Z Z<|.gF Z Z Z Z<|.gF Z Z Z Z<|.yv (.pickF Z Z) Z<|.a Z Z<|.nl<|.bN<|.tN<|.me _ ⟨rfl,trivial⟩ ⟨rfl,rfl,rfl,rfl,rfl,rfl,rfl,trivial⟩ (fun _ s => s.pick [1,2] [_,_] Z Z) (by simp_all)
   have ee := hC
   exact .rg<|.yv (.add Z Z (w6 (by omega))) Z<|.m Z Z<|.nt<|.ag (x := (j,fe)) (j + 1,z) ⟨rfl,rfl,trivial⟩ ⟨rfl,rfl,rfl,rfl,rfl,rfl,trivial⟩ (fun _ s => (s.pick [0,1] _ Z Z)) ⟨by dsimp only;omega,by dsimp only;rw [ee,hfe,lall_succ hj,hxw,Bool.and_assoc]⟩ (by dsimp only;omega)
  try simp only [df] at h71
  obtain rfl : j = c.vars.length := by omega
  rw [List.take_length] at hfe
  refine .ex<|.tE<|.tE<|.bE<|.tN<|.sr<|.yv (.fieldAddr Z Fx.field91_2) Z<|.yv (.load Z Fx.agg89 (.head _) Z) Z<|.yv (.lenSl Fx.sl89 Z) Z<|.m Z Z<|.nt<|.bk<|.lp (X := Nat × Bool) [(55,_),(56,_),(57,_),(82,_),(83,_)] ⟨rfl,rfl,rfl,rfl,rfl,trivial⟩ [_,_] (fun z => [(3,.bool z.2),(84,.int .i64 (z.1 : Nat))]) (fun z => H) (fun z => []) (fun z => z.1 ≤ c.vers.length ∧ z.2 = (fe && (c.vers.take z.1).all fun v => v.all namH)) (fun z => c.vers.length - z.1) (0,fe) (fun _ s => s) ⟨rfl,rfl,trivial⟩ ⟨by simp,by simp⟩ fun z hC => ?_
  obtain ⟨i,fg⟩ := z
  dsimp only at hC ⊢
  obtain ⟨hlei,hfg⟩ := hC
  refine .sr<|.yv (.lss Z Z) Z<|.nt<|.sq<|.cd Z (fun h85 => ?_) (fun h85 => ?_)
  ·try simp only [dt] at h85
   have hi : i < c.vers.length := by omega
   obtain ⟨bG,oG,cG,hpG,rG,lG,mG⟩ := g2.elem (map_at (f := dVs .i64) hi)
   cases hpG
   have okv := okc.all _ (List.getElem_mem hi)
   generalize hxv : c.vers[i] = v at rG okv
   obtain ⟨pv,cv,rfl,gv⟩ := vs_open rG
   have hcw := gv.cap
   refine .sk<|.tN<|.sq<|.bk<|.sr<|.yv (.indexSl Fx.sl89 Z Z (i := i) Z hi (q := oG + i * 1) Z) Z<|.yv (.loadM Z Fx.agg97 mG (k := 0) Z Z) Z<|.a Z Z<|.ns<|.m Z Z<|.yv (.lenSl Fx.sl97 Z) Z<|.m Z Z<|.nt<|.bk<|.lp (X := Nat × Bool) [(55,_),(56,_),(57,_),(82,_),(83,_),(84,_),(88,_),(89,_)] ⟨rfl,rfl,rfl,rfl,rfl,rfl,rfl,rfl,trivial⟩ [_,_] (fun z => [(3,.bool z.2),(90,.int .i64 (z.1 : Nat))]) (fun z => H) (fun z => []) (fun z => z.1 ≤ v.length ∧ z.2 = (fg && (v.take z.1).all namH)) (fun z => v.length - z.1) (0,fg) (fun _ s => s) ⟨rfl,rfl,trivial⟩ ⟨by simp,by simp⟩ fun z hC => ?_
   obtain ⟨j,fh⟩ := z
   dsimp only at hC ⊢
   obtain ⟨hlej,hfh⟩ := hC
   refine .sr<|.yv (.lss Z Z) Z<|.nt<|.sq<|.cd Z (fun h91 => ?_) (fun h91 => ?_)
   ·try simp only [dt] at h91
    have hj : j < v.length := by omega
    obtain ⟨bI,oI,cI,hpI,rI,lI,mI⟩ := gv.elem (map_at (f := dHd .i64) hj)
    cases hpI
    have okh := okv.all _ (List.getElem_mem hj)
    generalize hxh : v[j] = y at rI okh
    obtain ⟨t1,w1,t2,w2,rfl,ny,m1,m2⟩ := hd_open rI
    have hcp := m1.cap
    refine .sk<|.tN<|.sq<|.bk<|.sr<|.yv (.indexSl Fx.sl97 Z Z Z (by omega) (q := oI + j * 3) Z) Z<|.yv (.loadMW Z Fx.agg100 mI Z) Z<|.al Fx.zero100 Z fun b15 => .sW .head Z Z Fx.size100 (by simp [Value.oneCell',strV]) Z<|.nt<|.cu (X := Bool) [(15,_),(55,_),(56,_),(57,_),(82,_),(83,_),(84,_),(88,_),(89,_),(90,_)] ⟨rfl,rfl,rfl,rfl,rfl,rfl,rfl,rfl,rfl,rfl,trivial⟩ (fun fi => [(3,.bool fi)]) (fun fi => H) (fun fi => [.box b15 [strV y.nm,.slice t1 y.ps.length w1,.slice t2 y.body.length w2] 100,.box b9 [strV c.nm,.slice q1 c.vars.length d1,.slice (some ⟨bG,oG,none⟩) c.vers.length d2] 91,.box b1 [strV f.nm,.slice p1 f.flags.length c1,.slice p2 f.links.length c2,.slice (some ⟨bE,oE,none⟩) f.comps.length c3] 32]) (fun fi => fi = (fh && nameB y.nm && Sm.alls namS y.body)) ?_ fun fi hC => ?_
    ·
     refine .rg<|.m Z Z<|.m Z Z<|.b2 (fun h95 => ?_) (fun h95 => ?_)
     ·try simp only [dt] at h95
      refine .gd Z Z<|.yv (.fieldAddr Z Fx.field100_0) Z<|.gd Z Z<|.yv (.load Z Fx.agg9 (.head _) Z) Z<|.gd Z Z<|.yv (.call Fx.call68 Z (fun W s => isNameR_any H y.nm ny W s.agr)) Z<|.yv (.pickT Z Z) Z<|.m Z Z<|.b2 (fun h100 => ?_) (fun h100 => ?_)
      ·try simp only [dt] at h100
       exact .gd Z Z<|.yv (.fieldAddr Z Fx.field100_2) Z<|.gd Z Z<|.yv (.load Z Fx.agg98 (.head _) Z) Z<|.gd Z Z<|.yv (.call Fx.call69 Z (fun W s => stmtNames_any N hN H y.body okh.body _ W m2 s.agr)) Z<|.yv (.pickT Z Z) Z<|.a Z Z<|.nt<|.me _ ⟨rfl,trivial⟩ ⟨rfl,rfl,rfl,rfl,rfl,rfl,rfl,rfl,rfl,rfl,trivial⟩ (fun _ s => s) (by simp_all)
      try simp only [df] at h100
      exact .gF Z Z Z Z<|.gF Z Z Z Z<|.gF Z Z Z Z<|.yv (.pickF Z Z) Z<|.a Z Z<|.nt<|.me _ ⟨rfl,trivial⟩ ⟨rfl,rfl,rfl,rfl,rfl,rfl,rfl,rfl,rfl,rfl,trivial⟩ (fun _ s => s) (by simp_all)
     try simp only [df] at h95
     exact .gF Z Z Z Z<|.gF Z Z Z Z<|.gF Z Z Z Z<|.yv (.pickF Z Z) Z<|.m Z Z<|.gF Z Z Z Z<|.gF Z Z Z Z<|.gF Z Z Z Z<|.yv (.pickF Z Z) Z<|.a Z Z<|.nt<|.me _ ⟨rfl,trivial⟩ ⟨rfl,rfl,rfl,rfl,rfl,rfl,rfl,rfl,rfl,rfl,trivial⟩ (fun _ s => s) (by simp_all)
    have ei := hC
    refine .sr<|.yv (.fieldAddr Z Fx.field100_1) Z<|.yv (.load Z Fx.agg66 (.head _) Z) Z<|.yv (.lenSl Fx.sl66 Z) Z<|.m Z Z<|.nt<|.bk<|.lp (X := Nat × Bool) [(55,_),(56,_),(57,_),(82,_),(83,_),(84,_),(88,_),(89,_),(90,_),(106,_),(107,_)] ⟨rfl,rfl,rfl,rfl,rfl,rfl,rfl,rfl,rfl,rfl,rfl,trivial⟩ [_,_,_] (fun z => [(3,.bool z.2),(108,.int .i64 (z.1 : Nat))]) (fun z => H) (fun z => []) (fun z => z.1 ≤ y.ps.length ∧ z.2 = (fi && (y.ps.take z.1).all nameB)) (fun z => y.ps.length - z.1) (0,fi) (fun _ s => s) ⟨rfl,rfl,trivial⟩ ⟨by simp,by simp⟩ fun z hC => ?_
    obtain ⟨m,fj⟩ := z
    dsimp only at hC ⊢
    obtain ⟨hlem,hfj⟩ := hC
    refine .sr<|.yv (.lss Z Z) Z<|.nt<|.sq<|.cd Z (fun h109 => ?_) (fun h109 => ?_)
    ·try simp only [dt] at h109
     have hm : m < y.ps.length := by omega
     obtain ⟨bP,oP,cP,hpP,rP,lP,mP⟩ := m1.elem (map_at (f := dStr) hm)
     cases hpP
     generalize hxp : y.ps[m] = s0 at rP
     obtain ⟨rfl,np⟩ := str_open rP
     refine .sk<|.tN<|.cu (X := Bool) [(55,_),(56,_),(57,_),(82,_),(83,_),(84,_),(88,_),(89,_),(90,_),(106,_),(107,_),(108,_)] ⟨rfl,rfl,rfl,rfl,rfl,rfl,rfl,rfl,rfl,rfl,rfl,rfl,trivial⟩ (fun z => [(3,.bool z)]) (fun z => H) (fun z => [.box b15 [strV y.nm,.slice (some ⟨bP,oP,none⟩) y.ps.length w1,.slice t2 y.body.length w2] 100,.box b9 [strV c.nm,.slice q1 c.vars.length d1,.slice (some ⟨bG,oG,none⟩) c.vers.length d2] 91,.box b1 [strV f.nm,.slice p1 f.flags.length c1,.slice p2 f.links.length c2,.slice (some ⟨bE,oE,none⟩) f.comps.length c3] 32]) (fun z => z = (fj && nameB s0)) ?_ fun z hC => ?_
     ·
      refine .bk<|.sr<|.yv (.indexSl Fx.sl66 Z Z (i := m) Z hm (q := oP + m * 1) Z) Z<|.yv (.loadM Z Fx.agg9 mP (k := 0) Z Z) Z<|.a Z Z<|.nt<|.rg<|.m Z Z<|.m Z Z<|.b2 (fun h113 => ?_) (fun h113 => ?_)
      ·try simp only [dt] at h113
       exact .gd Z Z<|.yv (.move Z) Z<|.gd Z Z<|.yv (.call Fx.call68 Z (fun W s => isNameR_any H s0 np W s.agr)) Z<|.yv (.pickT Z Z) Z<|.a Z Z<|.nl<|.bN<|.tN<|.me _ ⟨rfl,trivial⟩ ⟨rfl,rfl,rfl,rfl,rfl,rfl,rfl,rfl,rfl,rfl,rfl,rfl,trivial⟩ (fun _ s => s) (by simp_all)
      try simp only [df] at h113
      exact .gF Z Z Z Z<|.gF Z Z Z Z<|.yv (.pickF Z Z) Z<|.a Z Z<|.nl<|.bN<|.tN<|.me _ ⟨rfl,trivial⟩ ⟨rfl,rfl,rfl,rfl,rfl,rfl,rfl,rfl,rfl,rfl,rfl,rfl,trivial⟩ (fun _ s => s) (by simp_all)
     have ek := hC
     exact .rg<|.yv (.add Z Z (w6 (by omega))) Z<|.m Z Z<|.nt<|.ag (x := (m,fj)) (m + 1,z) ⟨rfl,rfl,trivial⟩ ⟨rfl,rfl,rfl,rfl,rfl,rfl,rfl,rfl,rfl,rfl,rfl,trivial⟩ (fun _ s => (s.pick [0,1,2] _ Z Z)) ⟨by dsimp only;omega,by dsimp only;rw [ek,hfj,lall_succ hm,hxp,Bool.and_assoc]⟩ (by dsimp only;omega)
    try simp only [df] at h109
    obtain rfl : m = y.ps.length := by omega
    rw [List.take_length] at hfj
    exact .ex<|.tE<|.tE<|.bE<|.bN<|.tN<|.rg<|.yv (.add Z Z (w6 (by omega))) Z<|.m Z Z<|.nt<|.ag (x := (j,fh)) (j + 1,fj) ⟨rfl,rfl,trivial⟩ ⟨rfl,rfl,rfl,rfl,rfl,rfl,rfl,rfl,trivial⟩ (fun _ s => (s.pick [1,2] _ Z Z)) ⟨by dsimp only;omega,by dsimp only;rw [hfj,ei,hfh,lall_succ hj,hxh,namH];exact and_mix _ _ _ _ _⟩ (by dsimp only;omega)
   try simp only [df] at h91
   obtain rfl : j = v.length := by omega
   rw [List.take_length] at hfh
   exact .ex<|.tE<|.tE<|.bE<|.bN<|.tN<|.rg<|.yv (.add Z Z (w6 (by omega))) Z<|.m Z Z<|.nt<|.ag (x := (i,fg)) (i + 1,fh) ⟨rfl,rfl,trivial⟩ ⟨rfl,rfl,rfl,rfl,rfl,trivial⟩ (fun _ s => (s.pick [0,1] _ Z Z)) ⟨by dsimp only;omega,by dsimp only;rw [hfh,hfg,lall_succ hi,hxv,Bool.and_assoc]⟩ (by dsimp only;omega)
  try simp only [df] at h85
  obtain rfl : i = c.vers.length := by omega
  rw [List.take_length] at hfg
  exact .ex<|.tE<|.tE<|.bE<|.bN<|.tN<|.rg<|.yv (.add Z Z (w6 (by omega))) Z<|.m Z Z<|.nt<|.ag (x := (k,fc)) (k + 1,fg) ⟨rfl,rfl,trivial⟩ ⟨rfl,rfl,trivial⟩ (fun _ s => (s.pick [1] _ Z Z)) ⟨by dsimp only;omega,by dsimp only;rw [hfg,hfe,ed,hfc,lall_succ hk,hx,okNmC];simp only [Bool.and_assoc]⟩ (by dsimp only;omega)
 try simp only [df] at h58
 obtain rfl : k = f.comps.length := by omega
 rw [List.take_length] at hfc
 refine .ex<|.tE<|.tE<|.bE<|.tN<|.sr<|.m Z Z<|.a Z Z<|.nt<|.rt<|?_
 refine Sx.ret1 (.inl rfl) rfl (.tmp rfl) fun W s => ⟨?_,s.ext⟩
 first
  | (rw [hfc,hfb,hfa,namF_eq])
theorem Fx.call28 : callN Tryz.prog 28 = Bool.true := by kernel_rfl
theorem Fx.call29 : callN Tryz.prog 29 = Bool.true := by kernel_rfl
theorem Fx.call30 : callN Tryz.prog 30 = Bool.true := by kernel_rfl
theorem Fx.call64 : callN Tryz.prog 64 = Bool.true := by kernel_rfl
theorem lkB_eq (x : Lk) : (!lkB x) = decide (x.lat.toInt < 1 ∨ 50 < x.lat.toInt) := by
 rw [Bool.eq_iff_iff];simp only [lkB,Bool.not_eq_true',Bool.and_eq_false_iff,decide_eq_false_iff_not,decide_eq_true_eq];omega
theorem frmV_eq (v : Vr) : (!frmV v) = decide (¬ ((v.ty.toNat = 1 ∧ v.init.toInt ≠ -9223372036854775808) ∨ (v.ty.toNat = 2 ∧ (v.init.toInt = 0 ∨ v.init.toInt = 1)) ∨ (v.ty.toNat = 3 ∧ v.init.toInt = 0))) := by
 have e1 : v.ty = 1 ↔ v.ty.toNat = 1 := ⟨fun e => by rw [e];rfl,fun e => UInt8.toNat_inj.1 e⟩
 have e2 : v.ty = 2 ↔ v.ty.toNat = 2 := ⟨fun e => by rw [e];rfl,fun e => UInt8.toNat_inj.1 e⟩
 have e3 : v.ty = 3 ↔ v.ty.toNat = 3 := ⟨fun e => by rw [e];rfl,fun e => UInt8.toNat_inj.1 e⟩
 unfold frmV
 rw [Bool.eq_iff_iff]
 by_cases h1 : v.ty.toNat = 1
 ·rw [if_pos (e1.2 h1)];simp only [Bool.not_eq_true',decide_eq_false_iff_not,decide_eq_true_eq];omega
 rw [if_neg (fun e => h1 (e1.1 e))]
 by_cases h2 : v.ty.toNat = 2
 ·rw [if_pos (e2.2 h2)];simp only [Bool.not_eq_true',decide_eq_false_iff_not,decide_eq_true_eq];omega
 rw [if_neg (fun e => h2 (e2.1 e))]
 by_cases h3 : v.ty.toNat = 3
 ·rw [if_pos (e3.2 h3)];simp only [Bool.not_eq_true',decide_eq_false_iff_not,decide_eq_true_eq];omega
 rw [if_neg (fun e => h3 (e3.1 e))]
 simp only [Bool.not_false,decide_eq_true_eq,true_iff];omega
def okFmC (c : Cp) : Bool := c.vars.all frmV && c.vers.all fun v => v.all frmH
theorem frmF_eq (f : Ft) : frmF f = (f.links.all lkB && f.comps.all okFmC) := by
 have e : f.comps.all okFmC = ((f.comps.all fun c => c.vars.all frmV) && evH frmH f) := by
  rw [evH,← all_and];rfl
 rw [e,frmF,Bool.and_assoc]
set_option maxHeartbeats 2000000 in
set_option maxRecDepth 100000 in
theorem form_f (N : Nat) (hN : N ≤ 1000000) (H : Hp) (f : Ft) (hok : okFt N f) (cs : List Value) (w : World) (h : Rep H (dFt .i64 f) cs) (hA : Agr H w) :
 Calls Tryz.prog 30 #[.agg cs.toArray] w fun r w' => r = .returned (.bool (frmF f)) ∧ Ext w w' := by
 obtain ⟨p1,c1,p2,c2,p3,c3,rfl,n00,k1,k2,k3⟩ := ft_open h
 have hcap2 := k2.cap
 have hcap3 := k3.cap
 refine Sx.enter (H := H) Tryz.func30 rfl Tryz.ntmps30 rfl hA ?_
 refine .sr<|.bx Z Z Z fun b1 => .a Z Z<|.nt<|.sq<|.sr<|.yv (.fieldAddr Z Fx.field32_2) Z<|.yv (.load Z Fx.agg29 (.head _) Z) Z<|.yv (.lenSl Fx.sl29 Z) Z<|.m Z Z<|.nt<|.bk<|.lp (X := Nat) [(1,_),(14,_),(15,_)] ⟨rfl,rfl,rfl,trivial⟩ [_] (fun k => [(16,.int .i64 (k : Nat))]) (fun k => H) (fun k => []) (fun k => k ≤ f.links.length ∧ (f.links.take k).all lkB = true) (fun k => f.links.length - k) 0 (fun _ s => s) ⟨rfl,trivial⟩ ⟨by omega,rfl⟩ fun k hC => ?_
 obtain ⟨hlek,ha⟩ := hC
 refine .sr<|.yv (.lss Z Z) Z<|.nt<|.sq<|.cd Z (fun h17 => ?_) (fun h17 => ?_)
 ·try simp only [dt] at h17
  have hk : k < f.links.length := by omega
  obtain ⟨bE,oE,cE,hpE,rE,lE,mE⟩ := k2.elem (map_at (f := dLk) hk)
  cases hpE
  have hbd := fun h => lall_bad (q := lkB) hk h
  generalize hx : f.links[k] = x at rE hbd
  obtain ⟨rfl,nx,nx2⟩ := lk_open rE
  refine .sk<|.tN<|.sq<|.bk<|.sr<|.yv (.indexSl Fx.sl29 Z Z Z (by omega) (q := oE + k * 3) Z) Z<|.yv (.loadMW Z Fx.agg86 mE Z) Z<|.al Fx.zero86 Z fun b4 => .sW .head Z Z Fx.size86 (by simp [Value.oneCell',strV]) Z<|.nt<|.cu (X := Bool) [(1,_),(14,_),(15,_),(16,_)] ⟨rfl,rfl,rfl,rfl,trivial⟩ (fun z => [(27,.bool z)]) (fun z => H) (fun z => [.box b4 [strV x.fr,strV x.to,.int .i64 x.lat.toInt] 86,.box b1 [strV f.nm,.slice p1 f.flags.length c1,.slice (some ⟨bE,oE,none⟩) f.links.length c2,.slice p3 f.comps.length c3] 32]) (fun z => z = !lkB x) ?_ fun z hC => ?_
  ·
   refine .rg<|.yv (.fieldAddr Z Fx.field86_2) Z<|.yv (.load Z Fx.agg3 (.head _) Z) Z<|.yv (.lss Z Z) Z<|.m Z Z<|.b2 (fun h23 => ?_) (fun h23 => ?_)
   ·try simp only [dt] at h23
    exact .gF Z Z Z Z<|.gF Z Z Z Z<|.gF Z Z Z Z<|.yv (.pickT Z Z) Z<|.nt<|.me _ ⟨rfl,trivial⟩ ⟨rfl,rfl,rfl,rfl,trivial⟩ (fun _ s => s) (by rw [lkB_eq];first | exact dT (by omega) | exact dF (by omega) | exact dD (by omega))
   try simp only [df] at h23
   exact .gd Z Z<|.yv (.fieldAddr Z Fx.field86_2) Z<|.gd Z Z<|.yv (.load Z Fx.agg3 (.head _) Z) Z<|.gd Z Z<|.yv (.gtr Z Z) Z<|.yv (.pickF Z Z) Z<|.nt<|.me _ ⟨rfl,trivial⟩ ⟨rfl,rfl,rfl,rfl,trivial⟩ (fun _ s => s) (by rw [lkB_eq];first | exact dT (by omega) | exact dF (by omega) | exact dD (by omega))
  have e27 := hC
  refine .cd Z (fun h27 => ?_) (fun h27 => ?_)
  ·try simp only [dt] at h27
   rw [h27] at e27
   have hz : frmF f = false := by rw [frmF,hbd (by simpa using e27.symm)];rfl
   refine .sr<|.a Z Z<|.nt<|.rt<|.bR<|.tR<|.tR<|.bR<|.tR<|?_
   refine Sx.ret1 (.inl rfl) rfl (.tmp rfl) fun W s => ⟨retB ?_,s.ext⟩
   first
    | (rw [hz])
    | (rw [frmF_eq,ha,hb];simp)
  try simp only [df] at h27
  rw [h27] at e27
  have hgood : lkB x = true := by simpa using e27.symm
  exact .sk<|.bN<|.tN<|.rg<|.yv (.add Z Z (w6 (by omega))) Z<|.m Z Z<|.nt<|.ag (k + 1) ⟨rfl,trivial⟩ ⟨rfl,rfl,rfl,trivial⟩ (fun _ s => (s.pick [1] _ Z Z)) ⟨by omega,by rw [lall_succ hk,hx,ha,hgood];rfl⟩ (by omega)
 try simp only [df] at h17
 obtain rfl : k = f.links.length := by omega
 rw [List.take_length] at ha
 refine .ex<|.tE<|.tE<|.bE<|.tN<|.sq<|.sr<|.yv (.fieldAddr Z Fx.field32_3) Z<|.yv (.load Z Fx.agg30 (.head _) Z) Z<|.yv (.lenSl Fx.sl30 Z) Z<|.m Z Z<|.nt<|.bk<|.lp (X := Nat) [(30,_),(31,_)] ⟨rfl,rfl,trivial⟩ [_] (fun k => [(32,.int .i64 (k : Nat))]) (fun k => H) (fun k => []) (fun k => k ≤ f.comps.length ∧ (f.comps.take k).all okFmC = true) (fun k => f.comps.length - k) 0 (fun _ s => s) ⟨rfl,trivial⟩ ⟨by omega,rfl⟩ fun k hC => ?_
 obtain ⟨hlek,hb⟩ := hC
 refine .sr<|.yv (.lss Z Z) Z<|.nt<|.sq<|.cd Z (fun h33 => ?_) (fun h33 => ?_)
 ·try simp only [dt] at h33
  have hk : k < f.comps.length := by omega
  have hbd := fun h => lall_bad (q := okFmC) hk h
  obtain ⟨bE,oE,cE,hpE,rE,lE,mE⟩ := k3.elem (map_at (f := dCp .i64) hk)
  cases hpE
  have okc := hok.all _ (List.getElem_mem hk)
  generalize hx : f.comps[k] = c at rE okc hbd
  obtain ⟨q1,d1,q2,d2,rfl,nc,g1,g2⟩ := cp_open rE
  have hcv := g1.cap
  have hcr := g2.cap
  refine .sk<|.tN<|.sq<|.bk<|.sr<|.yv (.indexSl Fx.sl30 Z Z Z (by omega) (q := oE + k * 3) Z) Z<|.yv (.loadMW Z Fx.agg91 mE Z) Z<|.al Fx.zero91 Z fun b6 => .sW .head Z Z Fx.size91 (by simp [Value.oneCell',strV]) Z<|.nt<|.sq<|.sr<|.yv (.fieldAddr Z Fx.field91_1) Z<|.yv (.load Z Fx.agg88 (.head _) Z) Z<|.yv (.lenSl Fx.sl88 Z) Z<|.m Z Z<|.nt<|.bk<|.lp (X := Nat) [(6,_),(30,_),(31,_),(32,_),(37,_),(38,_)] ⟨rfl,rfl,rfl,rfl,rfl,rfl,trivial⟩ [_,_] (fun j => [(39,.int .i64 (j : Nat))]) (fun j => H) (fun j => []) (fun j => j ≤ c.vars.length ∧ (c.vars.take j).all frmV = true) (fun j => c.vars.length - j) 0 (fun _ s => s) ⟨rfl,trivial⟩ ⟨by omega,rfl⟩ fun j hC => ?_
  obtain ⟨hlej,hv⟩ := hC
  refine .sr<|.yv (.lss Z Z) Z<|.nt<|.sq<|.cd Z (fun h40 => ?_) (fun h40 => ?_)
  ·try simp only [dt] at h40
   have hj : j < c.vars.length := by omega
   obtain ⟨bF,oF,cF,hpF,rF,lF,mF⟩ := g1.elem (map_at (f := dVr .i64) hj)
   cases hpF
   have hbv := fun h => lall_bad (q := frmV) hj h
   generalize hxw : c.vars[j] = vr at rF hbv
   obtain ⟨rfl,nv⟩ := vr_open rF
   have htl := vr.ty.toNat_lt
   refine .sk<|.tN<|.sq<|.bk<|.sr<|.yv (.indexSl Fx.sl88 Z Z Z (by omega) (q := oF + j * 3) Z) Z<|.yv (.loadMW Z Fx.agg93 mF Z) Z<|.al Fx.zero93 Z fun b8 => .sW .head Z Z Fx.size93 (by simp [Value.oneCell',strV]) Z<|.nt<|.cu (X := Bool) [(6,_),(30,_),(31,_),(32,_),(37,_),(38,_),(39,_)] ⟨rfl,rfl,rfl,rfl,rfl,rfl,rfl,trivial⟩ (fun z => [(85,.bool z)]) (fun z => H) (fun z => [.box b8 [strV vr.nm,.int .i64 vr.ty.toNat,.int .i64 vr.init.toInt] 93,.box b6 [strV c.nm,.slice (some ⟨bF,oF,none⟩) c.vars.length d1,.slice q2 c.vers.length d2] 91,.box b1 [strV f.nm,.slice p1 f.flags.length c1,.slice p2 f.links.length c2,.slice (some ⟨bE,oE,none⟩) f.comps.length c3] 32]) (fun z => z = !frmV vr) ?_ fun z hC => ?_
   ·
    refine .rg<|.yv (.fieldAddr Z Fx.field93_1) Z<|.yv (.load Z Fx.agg3 (.head _) Z) Z<|.yv (.lss Z Z) Z<|.m Z Z<|.b2 (fun h46 => ?_) (fun h46 => ?_)
    ·try simp only [dt] at h46
     exact .gF Z Z Z Z<|.gF Z Z Z Z<|.gF Z Z Z Z<|.yv (.pickT Z Z) Z<|.m Z Z<|.gF Z Z Z Z<|.gF Z Z Z Z<|.gF Z Z Z Z<|.gF Z Z Z Z<|.gU Z Z Z<|.gU Z Z Z<|.gU Z Z Z<|.gF Z Z Z Z<|.yv (.pickT Z Z) Z<|.m Z Z<|.gF Z Z Z Z<|.gF Z Z Z Z<|.gF Z Z Z Z<|.gF Z Z Z Z<|.gU Z Z Z<|.gU Z Z Z<|.gU Z Z Z<|.gU Z Z Z<|.gU Z Z Z<|.gU Z Z Z<|.gU Z Z Z<|.gU Z Z Z<|.gF Z Z Z Z<|.yv (.pickT Z Z) Z<|.m Z Z<|.gF Z Z Z Z<|.gF Z Z Z Z<|.gF Z Z Z Z<|.gF Z Z Z Z<|.gU Z Z Z<|.gU Z Z Z<|.gU Z Z Z<|.gF Z Z Z Z<|.yv (.pickT Z Z) Z<|.nt<|.me _ ⟨rfl,trivial⟩ ⟨rfl,rfl,rfl,rfl,rfl,rfl,rfl,trivial⟩ (fun _ s => s) (by rw [frmV_eq];first | exact dT (by omega) | exact dF (by omega) | exact dD (by omega))
    try simp only [df] at h46
    refine .gd Z Z<|.yv (.fieldAddr Z Fx.field93_1) Z<|.gd Z Z<|.yv (.load Z Fx.agg3 (.head _) Z) Z<|.gd Z Z<|.yv (.gtr Z Z) Z<|.yv (.pickF Z Z) Z<|.m Z Z<|.b2 (fun h51 => ?_) (fun h51 => ?_)
    ·try simp only [dt] at h51
     exact .gF Z Z Z Z<|.gF Z Z Z Z<|.gF Z Z Z Z<|.gF Z Z Z Z<|.gU Z Z Z<|.gU Z Z Z<|.gU Z Z Z<|.gF Z Z Z Z<|.yv (.pickT Z Z) Z<|.m Z Z<|.gF Z Z Z Z<|.gF Z Z Z Z<|.gF Z Z Z Z<|.gF Z Z Z Z<|.gU Z Z Z<|.gU Z Z Z<|.gU Z Z Z<|.gU Z Z Z<|.gU Z Z Z<|.gU Z Z Z<|.gU Z Z Z<|.gU Z Z Z<|.gF Z Z Z Z<|.yv (.pickT Z Z) Z<|.m Z Z<|.gF Z Z Z Z<|.gF Z Z Z Z<|.gF Z Z Z Z<|.gF Z Z Z Z<|.gU Z Z Z<|.gU Z Z Z<|.gU Z Z Z<|.gF Z Z Z Z<|.yv (.pickT Z Z) Z<|.nt<|.me _ ⟨rfl,trivial⟩ ⟨rfl,rfl,rfl,rfl,rfl,rfl,rfl,trivial⟩ (fun _ s => s) (by rw [frmV_eq];first | exact dT (by omega) | exact dF (by omega) | exact dD (by omega))
    try simp only [df] at h51
    refine .gd Z Z<|.yv (.fieldAddr Z Fx.field93_1) Z<|.gd Z Z<|.yv (.load Z Fx.agg3 (.head _) Z) Z<|.gd Z Z<|.yv (.eql Z Z) Z<|.gd Z Z<|.yv (.move Z) Z<|.b2 (fun h55 => ?_) (fun h55 => ?_)
    ·try simp only [dt] at h55
     refine .gd Z Z<|.yv (.fieldAddr Z Fx.field93_2) Z<|.gd Z Z<|.yv (.load Z Fx.agg2 (.head _) Z) Z<|.gd Z Z<|.yv (.eql Z Z) Z<|.gd Z Z<|.yv (.pickT Z Z) Z<|.yv (.pickF Z Z) Z<|.m Z Z<|.b2 (fun h61 => ?_) (fun h61 => ?_)
     ·try simp only [dt] at h61
      exact .gF Z Z Z Z<|.gF Z Z Z Z<|.gF Z Z Z Z<|.gF Z Z Z Z<|.gU Z Z Z<|.gU Z Z Z<|.gU Z Z Z<|.gU Z Z Z<|.gU Z Z Z<|.gU Z Z Z<|.gU Z Z Z<|.gU Z Z Z<|.gF Z Z Z Z<|.yv (.pickT Z Z) Z<|.m Z Z<|.gF Z Z Z Z<|.gF Z Z Z Z<|.gF Z Z Z Z<|.gF Z Z Z Z<|.gU Z Z Z<|.gU Z Z Z<|.gU Z Z Z<|.gF Z Z Z Z<|.yv (.pickT Z Z) Z<|.nt<|.me _ ⟨rfl,trivial⟩ ⟨rfl,rfl,rfl,rfl,rfl,rfl,rfl,trivial⟩ (fun _ s => s) (by rw [frmV_eq];first | exact dT (by omega) | exact dF (by omega) | exact dD (by omega))
     try simp only [df] at h61
     refine .gd Z Z<|.yv (.fieldAddr Z Fx.field93_1) Z<|.gd Z Z<|.yv (.load Z Fx.agg3 (.head _) Z) Z<|.gd Z Z<|.yv (.eql Z Z) Z<|.gd Z Z<|.yv (.move Z) Z<|.b2 (fun h65 => ?_) (fun h65 => ?_)
     ·try simp only [dt] at h65
      refine .gd Z Z<|.yv (.fieldAddr Z Fx.field93_2) Z<|.gd Z Z<|.yv (.load Z Fx.agg2 (.head _) Z) Z<|.gd Z Z<|.yv (.lss Z Z) Z<|.gd Z Z<|.yv (.move Z) Z<|.b2 (fun h69 => ?_) (fun h69 => ?_)
      ·try simp only [dt] at h69
       exact .gF Z Z Z Z<|.gF Z Z Z Z<|.gF Z Z Z Z<|.gd Z Z<|.yv (.pickT Z Z) Z<|.gd Z Z<|.yv (.pickT Z Z) Z<|.yv (.pickF Z Z) Z<|.m Z Z<|.gF Z Z Z Z<|.gF Z Z Z Z<|.gF Z Z Z Z<|.gF Z Z Z Z<|.gU Z Z Z<|.gU Z Z Z<|.gU Z Z Z<|.gF Z Z Z Z<|.yv (.pickT Z Z) Z<|.nt<|.me _ ⟨rfl,trivial⟩ ⟨rfl,rfl,rfl,rfl,rfl,rfl,rfl,trivial⟩ (fun _ s => s) (by rw [frmV_eq];first | exact dT (by omega) | exact dF (by omega) | exact dD (by omega))
      try simp only [df] at h69
      refine .gd Z Z<|.yv (.fieldAddr Z Fx.field93_2) Z<|.gd Z Z<|.yv (.load Z Fx.agg2 (.head _) Z) Z<|.gd Z Z<|.yv (.gtr Z Z) Z<|.gd Z Z<|.yv (.pickF Z Z) Z<|.gd Z Z<|.yv (.pickT Z Z) Z<|.yv (.pickF Z Z) Z<|.m Z Z<|.b2 (fun h76 => ?_) (fun h76 => ?_)
      ·try simp only [dt] at h76
       exact .gF Z Z Z Z<|.gF Z Z Z Z<|.gF Z Z Z Z<|.gF Z Z Z Z<|.gU Z Z Z<|.gU Z Z Z<|.gU Z Z Z<|.gF Z Z Z Z<|.yv (.pickT Z Z) Z<|.nt<|.me _ ⟨rfl,trivial⟩ ⟨rfl,rfl,rfl,rfl,rfl,rfl,rfl,trivial⟩ (fun _ s => s) (by rw [frmV_eq];first | exact dT (by omega) | exact dF (by omega) | exact dD (by omega))
      try simp only [df] at h76
      refine .gd Z Z<|.yv (.fieldAddr Z Fx.field93_1) Z<|.gd Z Z<|.yv (.load Z Fx.agg3 (.head _) Z) Z<|.gd Z Z<|.yv (.eql Z Z) Z<|.gd Z Z<|.yv (.move Z) Z<|.b2 (fun h80 => ?_) (fun h80 => ?_)
      ·try simp only [dt] at h80
       exact .gd Z Z<|.yv (.fieldAddr Z Fx.field93_2) Z<|.gd Z Z<|.yv (.load Z Fx.agg2 (.head _) Z) Z<|.gd Z Z<|.yv (.neq Z Z) Z<|.gd Z Z<|.yv (.pickT Z Z) Z<|.yv (.pickF Z Z) Z<|.nt<|.me _ ⟨rfl,trivial⟩ ⟨rfl,rfl,rfl,rfl,rfl,rfl,rfl,trivial⟩ (fun _ s => s) (by rw [frmV_eq];first | exact dT (by omega) | exact dF (by omega) | exact dD (by omega))
      try simp only [df] at h80
      exact .gF Z Z Z Z<|.gF Z Z Z Z<|.gF Z Z Z Z<|.gd Z Z<|.yv (.pickF Z Z) Z<|.yv (.pickF Z Z) Z<|.nt<|.me _ ⟨rfl,trivial⟩ ⟨rfl,rfl,rfl,rfl,rfl,rfl,rfl,trivial⟩ (fun _ s => s) (by rw [frmV_eq];first | exact dT (by omega) | exact dF (by omega) | exact dD (by omega))
     try simp only [df] at h65
     refine .gF Z Z Z Z<|.gF Z Z Z Z<|.gF Z Z Z Z<|.gF Z Z Z Z<|.gU Z Z Z<|.gU Z Z Z<|.gU Z Z Z<|.gF Z Z Z Z<|.gd Z Z<|.yv (.pickF Z Z) Z<|.yv (.pickF Z Z) Z<|.m Z Z<|.gd Z Z<|.yv (.fieldAddr Z Fx.field93_1) Z<|.gd Z Z<|.yv (.load Z Fx.agg3 (.head _) Z) Z<|.gd Z Z<|.yv (.eql Z Z) Z<|.gd Z Z<|.yv (.move Z) Z<|.b2 (fun h80 => ?_) (fun h80 => ?_)
     ·try simp only [dt] at h80
      exact .gd Z Z<|.yv (.fieldAddr Z Fx.field93_2) Z<|.gd Z Z<|.yv (.load Z Fx.agg2 (.head _) Z) Z<|.gd Z Z<|.yv (.neq Z Z) Z<|.gd Z Z<|.yv (.pickT Z Z) Z<|.yv (.pickF Z Z) Z<|.nt<|.me _ ⟨rfl,trivial⟩ ⟨rfl,rfl,rfl,rfl,rfl,rfl,rfl,trivial⟩ (fun _ s => s) (by rw [frmV_eq];first | exact dT (by omega) | exact dF (by omega) | exact dD (by omega))
     try simp only [df] at h80
     exact .gF Z Z Z Z<|.gF Z Z Z Z<|.gF Z Z Z Z<|.gd Z Z<|.yv (.pickF Z Z) Z<|.yv (.pickF Z Z) Z<|.nt<|.me _ ⟨rfl,trivial⟩ ⟨rfl,rfl,rfl,rfl,rfl,rfl,rfl,trivial⟩ (fun _ s => s) (by rw [frmV_eq];first | exact dT (by omega) | exact dF (by omega) | exact dD (by omega))
    try simp only [df] at h55
    refine .gF Z Z Z Z<|.gF Z Z Z Z<|.gF Z Z Z Z<|.gd Z Z<|.yv (.pickF Z Z) Z<|.yv (.pickF Z Z) Z<|.m Z Z<|.gd Z Z<|.yv (.fieldAddr Z Fx.field93_1) Z<|.gd Z Z<|.yv (.load Z Fx.agg3 (.head _) Z) Z<|.gd Z Z<|.yv (.eql Z Z) Z<|.gd Z Z<|.yv (.move Z) Z<|.b2 (fun h65 => ?_) (fun h65 => ?_)
    ·try simp only [dt] at h65
     refine .gd Z Z<|.yv (.fieldAddr Z Fx.field93_2) Z<|.gd Z Z<|.yv (.load Z Fx.agg2 (.head _) Z) Z<|.gd Z Z<|.yv (.lss Z Z) Z<|.gd Z Z<|.yv (.move Z) Z<|.b2 (fun h69 => ?_) (fun h69 => ?_)
     ·try simp only [dt] at h69
      exact .gF Z Z Z Z<|.gF Z Z Z Z<|.gF Z Z Z Z<|.gd Z Z<|.yv (.pickT Z Z) Z<|.gd Z Z<|.yv (.pickT Z Z) Z<|.yv (.pickF Z Z) Z<|.m Z Z<|.gF Z Z Z Z<|.gF Z Z Z Z<|.gF Z Z Z Z<|.gF Z Z Z Z<|.gU Z Z Z<|.gU Z Z Z<|.gU Z Z Z<|.gF Z Z Z Z<|.yv (.pickT Z Z) Z<|.nt<|.me _ ⟨rfl,trivial⟩ ⟨rfl,rfl,rfl,rfl,rfl,rfl,rfl,trivial⟩ (fun _ s => s) (by rw [frmV_eq];first | exact dT (by omega) | exact dF (by omega) | exact dD (by omega))
     try simp only [df] at h69
     refine .gd Z Z<|.yv (.fieldAddr Z Fx.field93_2) Z<|.gd Z Z<|.yv (.load Z Fx.agg2 (.head _) Z) Z<|.gd Z Z<|.yv (.gtr Z Z) Z<|.gd Z Z<|.yv (.pickF Z Z) Z<|.gd Z Z<|.yv (.pickT Z Z) Z<|.yv (.pickF Z Z) Z<|.m Z Z<|.b2 (fun h76 => ?_) (fun h76 => ?_)
     ·try simp only [dt] at h76
      exact .gF Z Z Z Z<|.gF Z Z Z Z<|.gF Z Z Z Z<|.gF Z Z Z Z<|.gU Z Z Z<|.gU Z Z Z<|.gU Z Z Z<|.gF Z Z Z Z<|.yv (.pickT Z Z) Z<|.nt<|.me _ ⟨rfl,trivial⟩ ⟨rfl,rfl,rfl,rfl,rfl,rfl,rfl,trivial⟩ (fun _ s => s) (by rw [frmV_eq];first | exact dT (by omega) | exact dF (by omega) | exact dD (by omega))
     try simp only [df] at h76
     refine .gd Z Z<|.yv (.fieldAddr Z Fx.field93_1) Z<|.gd Z Z<|.yv (.load Z Fx.agg3 (.head _) Z) Z<|.gd Z Z<|.yv (.eql Z Z) Z<|.gd Z Z<|.yv (.move Z) Z<|.b2 (fun h80 => ?_) (fun h80 => ?_)
     ·try simp only [dt] at h80
      exact .gd Z Z<|.yv (.fieldAddr Z Fx.field93_2) Z<|.gd Z Z<|.yv (.load Z Fx.agg2 (.head _) Z) Z<|.gd Z Z<|.yv (.neq Z Z) Z<|.gd Z Z<|.yv (.pickT Z Z) Z<|.yv (.pickF Z Z) Z<|.nt<|.me _ ⟨rfl,trivial⟩ ⟨rfl,rfl,rfl,rfl,rfl,rfl,rfl,trivial⟩ (fun _ s => s) (by rw [frmV_eq];first | exact dT (by omega) | exact dF (by omega) | exact dD (by omega))
     try simp only [df] at h80
     exact .gF Z Z Z Z<|.gF Z Z Z Z<|.gF Z Z Z Z<|.gd Z Z<|.yv (.pickF Z Z) Z<|.yv (.pickF Z Z) Z<|.nt<|.me _ ⟨rfl,trivial⟩ ⟨rfl,rfl,rfl,rfl,rfl,rfl,rfl,trivial⟩ (fun _ s => s) (by rw [frmV_eq];first | exact dT (by omega) | exact dF (by omega) | exact dD (by omega))
    try simp only [df] at h65
    refine .gF Z Z Z Z<|.gF Z Z Z Z<|.gF Z Z Z Z<|.gF Z Z Z Z<|.gU Z Z Z<|.gU Z Z Z<|.gU Z Z Z<|.gF Z Z Z Z<|.gd Z Z<|.yv (.pickF Z Z) Z<|.yv (.pickF Z Z) Z<|.m Z Z<|.gd Z Z<|.yv (.fieldAddr Z Fx.field93_1) Z<|.gd Z Z<|.yv (.load Z Fx.agg3 (.head _) Z) Z<|.gd Z Z<|.yv (.eql Z Z) Z<|.gd Z Z<|.yv (.move Z) Z<|.b2 (fun h80 => ?_) (fun h80 => ?_)
    ·try simp only [dt] at h80
     exact .gd Z Z<|.yv (.fieldAddr Z Fx.field93_2) Z<|.gd Z Z<|.yv (.load Z Fx.agg2 (.head _) Z) Z<|.gd Z Z<|.yv (.neq Z Z) Z<|.gd Z Z<|.yv (.pickT Z Z) Z<|.yv (.pickF Z Z) Z<|.nt<|.me _ ⟨rfl,trivial⟩ ⟨rfl,rfl,rfl,rfl,rfl,rfl,rfl,trivial⟩ (fun _ s => s) (by rw [frmV_eq];first | exact dT (by omega) | exact dF (by omega) | exact dD (by omega))
    try simp only [df] at h80
    exact .gF Z Z Z Z<|.gF Z Z Z Z<|.gF Z Z Z Z<|.gd Z Z<|.yv (.pickF Z Z) Z<|.yv (.pickF Z Z) Z<|.nt<|.me _ ⟨rfl,trivial⟩ ⟨rfl,rfl,rfl,rfl,rfl,rfl,rfl,trivial⟩ (fun _ s => s) (by rw [frmV_eq];first | exact dT (by omega) | exact dF (by omega) | exact dD (by omega))
   have e85 := hC
   refine .cd Z (fun h85 => ?_) (fun h85 => ?_)
   ·try simp only [dt] at h85
    rw [h85] at e85
    have hz : frmF f = false := by rw [frmF_eq,hbd (by rw [okFmC,hbv (by simpa using e85.symm)];rfl),Bool.and_false]
    refine .sr<|.a Z Z<|.nt<|.rt<|.bR<|.tR<|.tR<|.bR<|.tR<|.bR<|.tR<|.tR<|.bR<|.tR<|?_
    refine Sx.ret1 (.inl rfl) rfl (.tmp rfl) fun W s => ⟨retB ?_,s.ext⟩
    first
     | (rw [hz])
     | (rw [frmF_eq,ha,hb];simp)
   try simp only [df] at h85
   rw [h85] at e85
   have hgv : frmV vr = true := by simpa using e85.symm
   exact .sk<|.bN<|.tN<|.rg<|.yv (.add Z Z (w6 (by omega))) Z<|.m Z Z<|.nt<|.ag (j + 1) ⟨rfl,trivial⟩ ⟨rfl,rfl,rfl,rfl,rfl,rfl,trivial⟩ (fun _ s => (s.pick [1,2] _ Z Z)) ⟨by omega,by rw [lall_succ hj,hxw,hv,hgv];rfl⟩ (by omega)
  try simp only [df] at h40
  obtain rfl : j = c.vars.length := by omega
  rw [List.take_length] at hv
  refine .ex<|.tE<|.tE<|.bE<|.tN<|.sr<|.yv (.fieldAddr Z Fx.field91_2) Z<|.yv (.load Z Fx.agg89 (.head _) Z) Z<|.yv (.lenSl Fx.sl89 Z) Z<|.m Z Z<|.nt<|.bk<|.lp (X := Nat) [(30,_),(31,_),(32,_),(88,_),(89,_)] ⟨rfl,rfl,rfl,rfl,rfl,trivial⟩ [_,_] (fun i => [(90,.int .i64 (i : Nat))]) (fun i => H) (fun i => []) (fun i => i ≤ c.vers.length ∧ (c.vers.take i).all (fun v => v.all frmH) = true) (fun i => c.vers.length - i) 0 (fun _ s => s) ⟨rfl,trivial⟩ ⟨by omega,rfl⟩ fun i hC => ?_
  obtain ⟨hlei,hh⟩ := hC
  refine .sr<|.yv (.lss Z Z) Z<|.nt<|.sq<|.cd Z (fun h91 => ?_) (fun h91 => ?_)
  ·try simp only [dt] at h91
   have hi : i < c.vers.length := by omega
   have hbw := fun h => lall_bad (q := fun v : List Hd => v.all frmH) hi h
   obtain ⟨bG,oG,cG,hpG,rG,lG,mG⟩ := g2.elem (map_at (f := dVs .i64) hi)
   cases hpG
   have okv := okc.all _ (List.getElem_mem hi)
   generalize hxv : c.vers[i] = v at rG okv hbw
   obtain ⟨pv,cv,rfl,gv⟩ := vs_open rG
   have hcw := gv.cap
   refine .sk<|.tN<|.sq<|.bk<|.sr<|.yv (.indexSl Fx.sl89 Z Z (i := i) Z hi (q := oG + i * 1) Z) Z<|.yv (.loadM Z Fx.agg97 mG (k := 0) Z Z) Z<|.a Z Z<|.ns<|.m Z Z<|.yv (.lenSl Fx.sl97 Z) Z<|.m Z Z<|.nt<|.bk<|.lp (X := Nat) [(30,_),(31,_),(32,_),(88,_),(89,_),(90,_),(94,_),(95,_)] ⟨rfl,rfl,rfl,rfl,rfl,rfl,rfl,rfl,trivial⟩ [_,_] (fun j => [(96,.int .i64 (j : Nat))]) (fun j => H) (fun j => []) (fun j => j ≤ v.length ∧ (v.take j).all frmH = true) (fun j => v.length - j) 0 (fun _ s => s) ⟨rfl,trivial⟩ ⟨by omega,rfl⟩ fun j hC => ?_
   obtain ⟨hlej,hr⟩ := hC
   refine .sr<|.yv (.lss Z Z) Z<|.nt<|.sq<|.cd Z (fun h97 => ?_) (fun h97 => ?_)
   ·try simp only [dt] at h97
    have hj : j < v.length := by omega
    have hby := fun h => lall_bad (q := frmH) hj h
    obtain ⟨bI,oI,cI,hpI,rI,lI,mI⟩ := gv.elem (map_at (f := dHd .i64) hj)
    cases hpI
    have okh := okv.all _ (List.getElem_mem hj)
    generalize hxh : v[j] = y at rI okh hby
    obtain ⟨t1,w1,t2,w2,rfl,ny,m1,m2⟩ := hd_open rI
    refine .sk<|.tN<|.sq<|.bk<|.sr<|.yv (.indexSl Fx.sl97 Z Z Z (by omega) (q := oI + j * 3) Z) Z<|.yv (.loadMW Z Fx.agg100 mI Z) Z<|.al Fx.zero100 Z fun b12 => .sW .head Z Z Fx.size100 (by simp [Value.oneCell',strV]) Z<|.ns<|.yv (.fieldAddr Z Fx.field100_2) Z<|.yv (.load Z Fx.agg98 (.head _) Z) Z<|.yv (.call Fx.call70 Z (fun W s => stmtForm_any N hN H y.body okh.body _ W m2 s.agr)) Z<|.yv (.not Z) Z<|.nt<|.cd Z (fun h103 => ?_) (fun h103 => ?_)
    ·try simp only [dt] at h103
     have hfy : frmH y = false := by simpa [frmH] using h103
     have hz : frmF f = false := by rw [frmF_eq,hbd (by rw [okFmC,hv,hbw (hby hfy)];rfl),Bool.and_false]
     refine .sr<|.a Z Z<|.nt<|.rt<|.bR<|.tR<|.tR<|.bR<|.bR<|.tR<|.tR<|.bR<|.bR<|.tR<|.tR<|.bR<|.tR<|?_
     refine Sx.ret1 (.inl rfl) rfl (.tmp rfl) fun W s => ⟨retB ?_,s.ext⟩
     first
      | (rw [hz])
      | (rw [frmF_eq,ha,hb];simp)
    try simp only [df] at h103
    have hgh : frmH y = true := by simpa [frmH] using h103
    exact .sk<|.bN<|.tN<|.rg<|.yv (.add Z Z (w6 (by omega))) Z<|.m Z Z<|.nt<|.ag (j + 1) ⟨rfl,trivial⟩ ⟨rfl,rfl,rfl,rfl,rfl,rfl,rfl,rfl,trivial⟩ (fun _ s => (s.pick [1,2] _ Z Z)) ⟨by omega,by rw [lall_succ hj,hxh,hr,hgh];rfl⟩ (by omega)
   try simp only [df] at h97
   obtain rfl : j = v.length := by omega
   rw [List.take_length] at hr
   exact .ex<|.tE<|.tE<|.bE<|.bN<|.tN<|.rg<|.yv (.add Z Z (w6 (by omega))) Z<|.m Z Z<|.nt<|.ag (i + 1) ⟨rfl,trivial⟩ ⟨rfl,rfl,rfl,rfl,rfl,trivial⟩ (fun _ s => (s.pick [0,1] _ Z Z)) ⟨by omega,by rw [lall_succ hi,hxv,hh,hr];rfl⟩ (by omega)
  try simp only [df] at h91
  obtain rfl : i = c.vers.length := by omega
  rw [List.take_length] at hh
  exact .ex<|.tE<|.tE<|.bE<|.bN<|.tN<|.rg<|.yv (.add Z Z (w6 (by omega))) Z<|.m Z Z<|.nt<|.ag (k + 1) ⟨rfl,trivial⟩ ⟨rfl,rfl,trivial⟩ (fun _ s => (s.pick [1] _ Z Z)) ⟨by omega,by rw [lall_succ hk,hx,hb,okFmC,hv,hh];rfl⟩ (by omega)
 try simp only [df] at h33
 obtain rfl : k = f.comps.length := by omega
 rw [List.take_length] at hb
 refine .ex<|.tE<|.tE<|.bE<|.tN<|.sr<|.a Z Z<|.nt<|.rt<|?_
 refine Sx.ret1 (.inl rfl) rfl (.tmp rfl) fun W s => ⟨retB ?_,s.ext⟩
 first
  | (rw [hz])
  | (rw [frmF_eq,ha,hb];simp)
theorem limF_eq (f : Ft) : (!limF f) = decide (f.comps.length < 1 ∨ 8 < f.comps.length ∨ 8 < f.flags.length ∨ 64 < f.links.length) := by
 rw [Bool.eq_iff_iff];simp only [limF,Bool.not_eq_true',Bool.and_eq_false_iff,decide_eq_false_iff_not,decide_eq_true_eq];omega
theorem smlC_eq (c : Cp) : (!smlC c) = decide (8 < c.vars.length ∨ c.vers.length < 1 ∨ 3 < c.vers.length ∨ 8 < (namesOf c).length) := by
 rw [Bool.eq_iff_iff];simp only [smlC,Bool.not_eq_true',Bool.and_eq_false_iff,decide_eq_false_iff_not,decide_eq_true_eq];omega
theorem smaH_bad {y : Hd} (h : 4 < y.ps.length ∨ 40 < Sm.counts y.body ∨ 8 < Sm.deeps y.body) : true = !smaH y := by
 rw [smaH]
 have e : (decide (4 < y.ps.length) || decide (40 < Sm.counts y.body) || decide (8 < Sm.deeps y.body)) = true := by
  simp only [Bool.or_eq_true,decide_eq_true_eq];omega
 rw [e];rfl
theorem smaH_good {y : Hd} (h : ¬ 4 < y.ps.length ∧ ¬ 40 < Sm.counts y.body ∧ ¬ 8 < Sm.deeps y.body) : (!Sm.alls smaS y.body) = !smaH y := by
 rw [smaH]
 have e : (decide (4 < y.ps.length) || decide (40 < Sm.counts y.body) || decide (8 < Sm.deeps y.body)) = false := by
  simp only [Bool.or_eq_false_iff,decide_eq_false_iff_not];omega
 rw [e];simp
def okSmC (c : Cp) : Bool := smlC c && c.vers.all fun v => v.all smaH
theorem smlF_eq (f : Ft) : smlF f = (limF f && f.comps.all okSmC) := by
 have e : f.comps.all okSmC = (f.comps.all smlC && evH smaH f) := by
  rw [evH,← all_and];rfl
 rw [e,smlF]
set_option maxHeartbeats 2000000 in
set_option maxRecDepth 100000 in
theorem limits_f (N : Nat) (hN : N ≤ 100000) (H : Hp) (f : Ft) (hok : okFt N f) (cs : List Value) (w : World) (h : Rep H (dFt .i64 f) cs) (hA : Agr H w) :
 Calls Tryz.prog 28 #[.agg cs.toArray] w fun r w' => r = .returned (.bool (!smlF f)) ∧ Ext w w' := by
 obtain ⟨p1,c1,p2,c2,p3,c3,rfl,n00,k1,k2,k3⟩ := ft_open h
 have hcap1 := k1.cap
 have hcap2 := k2.cap
 have hcap3 := k3.cap
 refine Sx.enter (H := H) Tryz.func28 rfl Tryz.ntmps28 rfl hA ?_
 refine .sr<|.bx Z Z Z fun b1 => .a Z Z<|.nt<|.sq<|.cu (X := Bool) [(1,_)] ⟨rfl,trivial⟩ (fun z => [(30,.bool z)]) (fun z => H) (fun z => [.box b1 [strV f.nm,.slice p1 f.flags.length c1,.slice p2 f.links.length c2,.slice p3 f.comps.length c3] 32]) (fun z => z = !limF f) ?_ fun z hC => ?_
 ·
  refine .rg<|.yv (.fieldAddr Z Fx.field32_3) Z<|.yv (.load Z Fx.agg30 (.head _) Z) Z<|.yv (.lenSl Fx.sl30 Z) Z<|.yv (.lss Z Z) Z<|.m Z Z<|.b2 (fun h13 => ?_) (fun h13 => ?_)
  ·try simp only [dt] at h13
   exact .gF Z Z Z Z<|.gF Z Z Z Z<|.gF Z Z Z Z<|.gF Z Z Z Z<|.yv (.pickT Z Z) Z<|.m Z Z<|.gF Z Z Z Z<|.gF Z Z Z Z<|.gF Z Z Z Z<|.gF Z Z Z Z<|.yv (.pickT Z Z) Z<|.m Z Z<|.gF Z Z Z Z<|.gF Z Z Z Z<|.gF Z Z Z Z<|.gF Z Z Z Z<|.yv (.pickT Z Z) Z<|.nt<|.me _ ⟨rfl,trivial⟩ ⟨rfl,trivial⟩ (fun _ s => s) (by rw [limF_eq];first | exact dT (by omega) | exact dF (by omega) | exact dD (by omega))
  try simp only [df] at h13
  refine .gd Z Z<|.yv (.fieldAddr Z Fx.field32_3) Z<|.gd Z Z<|.yv (.load Z Fx.agg30 (.head _) Z) Z<|.gd Z Z<|.yv (.lenSl Fx.sl30 Z) Z<|.gd Z Z<|.yv (.gtr Z Z) Z<|.yv (.pickF Z Z) Z<|.m Z Z<|.b2 (fun h19 => ?_) (fun h19 => ?_)
  ·try simp only [dt] at h19
   exact .gF Z Z Z Z<|.gF Z Z Z Z<|.gF Z Z Z Z<|.gF Z Z Z Z<|.yv (.pickT Z Z) Z<|.m Z Z<|.gF Z Z Z Z<|.gF Z Z Z Z<|.gF Z Z Z Z<|.gF Z Z Z Z<|.yv (.pickT Z Z) Z<|.nt<|.me _ ⟨rfl,trivial⟩ ⟨rfl,trivial⟩ (fun _ s => s) (by rw [limF_eq];first | exact dT (by omega) | exact dF (by omega) | exact dD (by omega))
  try simp only [df] at h19
  refine .gd Z Z<|.yv (.fieldAddr Z Fx.field32_1) Z<|.gd Z Z<|.yv (.load Z Fx.agg28 (.head _) Z) Z<|.gd Z Z<|.yv (.lenSl Fx.sl28 Z) Z<|.gd Z Z<|.yv (.gtr Z Z) Z<|.yv (.pickF Z Z) Z<|.m Z Z<|.b2 (fun h25 => ?_) (fun h25 => ?_)
  ·try simp only [dt] at h25
   exact .gF Z Z Z Z<|.gF Z Z Z Z<|.gF Z Z Z Z<|.gF Z Z Z Z<|.yv (.pickT Z Z) Z<|.nt<|.me _ ⟨rfl,trivial⟩ ⟨rfl,trivial⟩ (fun _ s => s) (by rw [limF_eq];first | exact dT (by omega) | exact dF (by omega) | exact dD (by omega))
  try simp only [df] at h25
  exact .gd Z Z<|.yv (.fieldAddr Z Fx.field32_2) Z<|.gd Z Z<|.yv (.load Z Fx.agg29 (.head _) Z) Z<|.gd Z Z<|.yv (.lenSl Fx.sl29 Z) Z<|.gd Z Z<|.yv (.gtr Z Z) Z<|.yv (.pickF Z Z) Z<|.nt<|.me _ ⟨rfl,trivial⟩ ⟨rfl,trivial⟩ (fun _ s => s) (by rw [limF_eq];first | exact dT (by omega) | exact dF (by omega) | exact dD (by omega))
 have e30 := hC
 refine .cd Z (fun h30 => ?_) (fun h30 => ?_)
 ·try simp only [dt] at h30
  rw [h30] at e30
  have hz : smlF f = false := by rw [smlF,show limF f = false by simpa using e30.symm];rfl
  refine .sr<|.a Z Z<|.nt<|.rt<|.tR<|?_
  refine Sx.ret1 (.inl rfl) rfl (.tmp rfl) fun W s => ⟨retB ?_,s.ext⟩
  first
   | (rw [hz];rfl)
   | (rw [smlF_eq,ha,hb];simp)
 try simp only [df] at h30
 rw [h30] at e30
 have ha : limF f = true := by simpa using e30.symm
 refine .sk<|.tN<|.sq<|.sr<|.yv (.fieldAddr Z Fx.field32_3) Z<|.yv (.load Z Fx.agg30 (.head _) Z) Z<|.yv (.lenSl Fx.sl30 Z) Z<|.m Z Z<|.nt<|.bk<|.lp (X := Nat) [(32,_),(33,_)] ⟨rfl,rfl,trivial⟩ [_] (fun k => [(34,.int .i64 (k : Nat))]) (fun k => H) (fun k => []) (fun k => k ≤ f.comps.length ∧ (f.comps.take k).all okSmC = true) (fun k => f.comps.length - k) 0 (fun _ s => s) ⟨rfl,trivial⟩ ⟨by omega,rfl⟩ fun k hC => ?_
 obtain ⟨hlek,hb⟩ := hC
 refine .sr<|.yv (.lss Z Z) Z<|.nt<|.sq<|.cd Z (fun h35 => ?_) (fun h35 => ?_)
 ·try simp only [dt] at h35
  have hk : k < f.comps.length := by omega
  have hbd := fun h => lall_bad (q := okSmC) hk h
  obtain ⟨bE,oE,cE,hpE,rE,lE,mE⟩ := k3.elem (map_at (f := dCp .i64) hk)
  cases hpE
  have okc := hok.all _ (List.getElem_mem hk)
  generalize hx : f.comps[k] = c at rE okc hbd
  obtain ⟨q1,d1,q2,d2,rfl,nc,g1,g2⟩ := cp_open rE
  have hcv := g1.cap
  have hcr := g2.cap
  refine .sk<|.tN<|.sq<|.bk<|.sr<|.yv (.indexSl Fx.sl30 Z Z Z (by omega) (q := oE + k * 3) Z) Z<|.yv (.loadMW Z Fx.agg91 mE Z) Z<|.al Fx.zero91 Z fun b4 => .sW .head Z Z Fx.size91 (by simp [Value.oneCell',strV]) Z<|.nt<|.sq<|.cu (X := Bool) [(4,_),(32,_),(33,_),(34,_)] ⟨rfl,rfl,rfl,rfl,trivial⟩ (fun z => [(59,.bool z)]) (fun z => H) (fun z => [.box b4 [strV c.nm,.slice q1 c.vars.length d1,.slice q2 c.vers.length d2] 91,.box b1 [strV f.nm,.slice p1 f.flags.length c1,.slice p2 f.links.length c2,.slice (some ⟨bE,oE,none⟩) f.comps.length c3] 32]) (fun z => z = !smlC c) ?_ fun z hC => ?_
  ·
   refine .rg<|.yv (.fieldAddr Z Fx.field91_1) Z<|.yv (.load Z Fx.agg88 (.head _) Z) Z<|.yv (.lenSl Fx.sl88 Z) Z<|.yv (.gtr Z Z) Z<|.m Z Z<|.b2 (fun h42 => ?_) (fun h42 => ?_)
   ·try simp only [dt] at h42
    exact .gF Z Z Z Z<|.gF Z Z Z Z<|.gF Z Z Z Z<|.gF Z Z Z Z<|.yv (.pickT Z Z) Z<|.m Z Z<|.gF Z Z Z Z<|.gF Z Z Z Z<|.gF Z Z Z Z<|.gF Z Z Z Z<|.yv (.pickT Z Z) Z<|.m Z Z<|.gF Z Z Z Z<|.gF Z Z Z Z<|.gF Z Z Z Z<|.gF Z Z Z Z<|.yv (.pickT Z Z) Z<|.nt<|.me _ ⟨rfl,trivial⟩ ⟨rfl,rfl,rfl,rfl,trivial⟩ (fun _ s => s) (by rw [smlC_eq];first | exact dT (by omega) | exact dF (by omega) | exact dD (by omega))
   try simp only [df] at h42
   refine .gd Z Z<|.yv (.fieldAddr Z Fx.field91_2) Z<|.gd Z Z<|.yv (.load Z Fx.agg89 (.head _) Z) Z<|.gd Z Z<|.yv (.lenSl Fx.sl89 Z) Z<|.gd Z Z<|.yv (.lss Z Z) Z<|.yv (.pickF Z Z) Z<|.m Z Z<|.b2 (fun h48 => ?_) (fun h48 => ?_)
   ·try simp only [dt] at h48
    exact .gF Z Z Z Z<|.gF Z Z Z Z<|.gF Z Z Z Z<|.gF Z Z Z Z<|.yv (.pickT Z Z) Z<|.m Z Z<|.gF Z Z Z Z<|.gF Z Z Z Z<|.gF Z Z Z Z<|.gF Z Z Z Z<|.yv (.pickT Z Z) Z<|.nt<|.me _ ⟨rfl,trivial⟩ ⟨rfl,rfl,rfl,rfl,trivial⟩ (fun _ s => s) (by rw [smlC_eq];first | exact dT (by omega) | exact dF (by omega) | exact dD (by omega))
   try simp only [df] at h48
   refine .gd Z Z<|.yv (.fieldAddr Z Fx.field91_2) Z<|.gd Z Z<|.yv (.load Z Fx.agg89 (.head _) Z) Z<|.gd Z Z<|.yv (.lenSl Fx.sl89 Z) Z<|.gd Z Z<|.yv (.gtr Z Z) Z<|.yv (.pickF Z Z) Z<|.m Z Z<|.b2 (fun h54 => ?_) (fun h54 => ?_)
   ·try simp only [dt] at h54
    exact .gF Z Z Z Z<|.gF Z Z Z Z<|.gF Z Z Z Z<|.gF Z Z Z Z<|.yv (.pickT Z Z) Z<|.nt<|.me _ ⟨rfl,trivial⟩ ⟨rfl,rfl,rfl,rfl,trivial⟩ (fun _ s => s) (by rw [smlC_eq];first | exact dT (by omega) | exact dF (by omega) | exact dD (by omega))
   try simp only [df] at h54
   refine .gd Z Z<|.yv (.loadW Z Fx.agg91 (.head _) Z) Z<|.gd Z Z<|.ct (X := Option Addr × Nat) Fx.call64 Z (fun W s => handlersR_any N hN H c okc _ W rE s.agr) Z fun x56 H56 hc56 u56 => ?_
   subst hc56
   exact .gd Z Z<|.yv (.lenSl Fx.sl66 Z) Z<|.gd Z Z<|.yv (.gtr Z Z) Z<|.yv (.pickF Z Z) Z<|.nt<|.me _ ⟨rfl,trivial⟩ ⟨rfl,rfl,rfl,rfl,trivial⟩ (fun _ s => s) (by rw [smlC_eq];first | exact dT (by omega) | exact dF (by omega) | exact dD (by omega))
  have e59 := hC
  refine .cd Z (fun h59 => ?_) (fun h59 => ?_)
  ·try simp only [dt] at h59
   rw [h59] at e59
   have hz : smlF f = false := by rw [smlF_eq,hbd (by rw [okSmC,show smlC c = false by simpa using e59.symm];rfl),Bool.and_false]
   refine .sr<|.a Z Z<|.nt<|.rt<|.tR<|.bR<|.tR<|.tR<|.bR<|.tR<|?_
   refine Sx.ret1 (.inl rfl) rfl (.tmp rfl) fun W s => ⟨retB ?_,s.ext⟩
   first
    | (rw [hz];rfl)
    | (rw [smlF_eq,ha,hb];simp)
  try simp only [df] at h59
  rw [h59] at e59
  have hgc : smlC c = true := by simpa using e59.symm
  refine .sk<|.tN<|.sr<|.yv (.fieldAddr Z Fx.field91_2) Z<|.yv (.load Z Fx.agg89 (.head _) Z) Z<|.yv (.lenSl Fx.sl89 Z) Z<|.m Z Z<|.nt<|.bk<|.lp (X := Nat) [(32,_),(33,_),(34,_),(61,_),(62,_)] ⟨rfl,rfl,rfl,rfl,rfl,trivial⟩ [_,_] (fun i => [(63,.int .i64 (i : Nat))]) (fun i => H) (fun i => []) (fun i => i ≤ c.vers.length ∧ (c.vers.take i).all (fun v => v.all smaH) = true) (fun i => c.vers.length - i) 0 (fun _ s => s) ⟨rfl,trivial⟩ ⟨by omega,rfl⟩ fun i hC => ?_
  obtain ⟨hlei,hh⟩ := hC
  refine .sr<|.yv (.lss Z Z) Z<|.nt<|.sq<|.cd Z (fun h64 => ?_) (fun h64 => ?_)
  ·try simp only [dt] at h64
   have hi : i < c.vers.length := by omega
   have hbw := fun h => lall_bad (q := fun v : List Hd => v.all smaH) hi h
   obtain ⟨bG,oG,cG,hpG,rG,lG,mG⟩ := g2.elem (map_at (f := dVs .i64) hi)
   cases hpG
   have okv := okc.all _ (List.getElem_mem hi)
   generalize hxv : c.vers[i] = v at rG okv hbw
   obtain ⟨pv,cv,rfl,gv⟩ := vs_open rG
   have hcw := gv.cap
   refine .sk<|.tN<|.sq<|.bk<|.sr<|.yv (.indexSl Fx.sl89 Z Z (i := i) Z hi (q := oG + i * 1) Z) Z<|.yv (.loadM Z Fx.agg97 mG (k := 0) Z Z) Z<|.a Z Z<|.ns<|.m Z Z<|.yv (.lenSl Fx.sl97 Z) Z<|.m Z Z<|.nt<|.bk<|.lp (X := Nat) [(32,_),(33,_),(34,_),(61,_),(62,_),(63,_),(67,_),(68,_)] ⟨rfl,rfl,rfl,rfl,rfl,rfl,rfl,rfl,trivial⟩ [_,_] (fun j => [(69,.int .i64 (j : Nat))]) (fun j => H) (fun j => []) (fun j => j ≤ v.length ∧ (v.take j).all smaH = true) (fun j => v.length - j) 0 (fun _ s => s) ⟨rfl,trivial⟩ ⟨by omega,rfl⟩ fun j hC => ?_
   obtain ⟨hlej,hr⟩ := hC
   refine .sr<|.yv (.lss Z Z) Z<|.nt<|.sq<|.cd Z (fun h70 => ?_) (fun h70 => ?_)
   ·try simp only [dt] at h70
    have hj : j < v.length := by omega
    have hby := fun h => lall_bad (q := smaH) hj h
    obtain ⟨bI,oI,cI,hpI,rI,lI,mI⟩ := gv.elem (map_at (f := dHd .i64) hj)
    cases hpI
    have okh := okv.all _ (List.getElem_mem hj)
    generalize hxh : v[j] = y at rI okh hby
    obtain ⟨t1,w1,t2,w2,rfl,ny,m1,m2⟩ := hd_open rI
    have hcnt := okh.body.cnt
    have hdep := okh.body.dep
    obtain ⟨pb,cb,eb,_⟩ := m2.sl
    refine .sk<|.tN<|.sq<|.bk<|.sr<|.yv (.indexSl Fx.sl97 Z Z Z (by omega) (q := oI + j * 3) Z) Z<|.yv (.loadMW Z Fx.agg100 mI Z) Z<|.al Fx.zero100 Z fun b8 => .sW .head Z Z Fx.size100 (by simp [Value.oneCell',strV]) Z<|.nt<|.cu (X := Bool) [(32,_),(33,_),(34,_),(61,_),(62,_),(63,_),(67,_),(68,_),(69,_)] ⟨rfl,rfl,rfl,rfl,rfl,rfl,rfl,rfl,rfl,trivial⟩ (fun z => [(93,.bool z)]) (fun z => H) (fun z => [.box b8 [strV y.nm,.slice t1 y.ps.length w1,.slice t2 y.body.length w2] 100,.box b4 [strV c.nm,.slice q1 c.vars.length d1,.slice (some ⟨bG,oG,none⟩) c.vers.length d2] 91,.box b1 [strV f.nm,.slice p1 f.flags.length c1,.slice p2 f.links.length c2,.slice (some ⟨bE,oE,none⟩) f.comps.length c3] 32]) (fun z => z = !smaH y) ?_ fun z hC => ?_
    ·
     refine .rg<|.yv (.fieldAddr Z Fx.field100_1) Z<|.yv (.load Z Fx.agg66 (.head _) Z) Z<|.yv (.lenSl Fx.sl66 Z) Z<|.yv (.gtr Z Z) Z<|.m Z Z<|.b2 (fun h77 => ?_) (fun h77 => ?_)
     ·try simp only [dt] at h77
      exact .gF Z Z Z Z<|.gF Z Z Z Z<|.gF Z Z Z Z<|.gF Z Z Z Z<|.yv (.pickT Z Z) Z<|.m Z Z<|.gF Z Z Z Z<|.gF Z Z Z Z<|.gF Z Z Z Z<|.gF Z Z Z Z<|.yv (.pickT Z Z) Z<|.m Z Z<|.gF Z Z Z Z<|.gF Z Z Z Z<|.gF Z Z Z Z<|.yv (.pickT Z Z) Z<|.nt<|.me _ ⟨rfl,trivial⟩ ⟨rfl,rfl,rfl,rfl,rfl,rfl,rfl,rfl,rfl,trivial⟩ (fun _ s => s) (by first | exact smaH_bad (by omega) | exact smaH_good (by omega))
     try simp only [df] at h77
     refine .gd Z Z<|.yv (.fieldAddr Z Fx.field100_2) Z<|.gd Z Z<|.yv (.load Z Fx.agg98 (.head _) Z) Z<|.gd Z Z<|.yv (.call Fx.call65 Z (fun W s => rstatements_any H y.body _ _ _ W m2 (by omega) s.agr)) Z<|.gd Z Z<|.yv (.gtr Z Z) Z<|.yv (.pickF Z Z) Z<|.m Z Z<|.b2 (fun h83 => ?_) (fun h83 => ?_)
     ·try simp only [dt] at h83
      exact .gF Z Z Z Z<|.gF Z Z Z Z<|.gF Z Z Z Z<|.gF Z Z Z Z<|.yv (.pickT Z Z) Z<|.m Z Z<|.gF Z Z Z Z<|.gF Z Z Z Z<|.gF Z Z Z Z<|.yv (.pickT Z Z) Z<|.nt<|.me _ ⟨rfl,trivial⟩ ⟨rfl,rfl,rfl,rfl,rfl,rfl,rfl,rfl,rfl,trivial⟩ (fun _ s => s) (by first | exact smaH_bad (by omega) | exact smaH_good (by omega))
     try simp only [df] at h83
     refine .gd Z Z<|.yv (.fieldAddr Z Fx.field100_2) Z<|.gd Z Z<|.yv (.load Z Fx.agg98 (.head _) Z) Z<|.gd Z Z<|.yv (.call Fx.call66 Z (fun W s => rsdepth_any H y.body _ _ _ W m2 (by omega) s.agr)) Z<|.gd Z Z<|.yv (.gtr Z Z) Z<|.yv (.pickF Z Z) Z<|.m Z Z<|.b2 (fun h89 => ?_) (fun h89 => ?_)
     ·try simp only [dt] at h89
      exact .gF Z Z Z Z<|.gF Z Z Z Z<|.gF Z Z Z Z<|.yv (.pickT Z Z) Z<|.nt<|.me _ ⟨rfl,trivial⟩ ⟨rfl,rfl,rfl,rfl,rfl,rfl,rfl,rfl,rfl,trivial⟩ (fun _ s => s) (by first | exact smaH_bad (by omega) | exact smaH_good (by omega))
     try simp only [df] at h89
     exact .gd Z Z<|.yv (.fieldAddr Z Fx.field100_2) Z<|.gd Z Z<|.yv (.load Z Fx.agg98 (.head _) Z) Z<|.gd Z Z<|.yv (.call Fx.call67 Z (fun W s => deep_any N (by omega) H y.body okh.body _ W m2 s.agr)) Z<|.yv (.pickF Z Z) Z<|.nt<|.me _ ⟨rfl,trivial⟩ ⟨rfl,rfl,rfl,rfl,rfl,rfl,rfl,rfl,rfl,trivial⟩ (fun _ s => s) (by first | exact smaH_bad (by omega) | exact smaH_good (by omega))
    have e93 := hC
    refine .cd Z (fun h93 => ?_) (fun h93 => ?_)
    ·try simp only [dt] at h93
     rw [h93] at e93
     have hz : smlF f = false := by rw [smlF_eq,hbd (by rw [okSmC,hbw (hby (by simpa using e93.symm)),Bool.and_false]),Bool.and_false]
     refine .sr<|.a Z Z<|.nt<|.rt<|.bR<|.tR<|.tR<|.bR<|.bR<|.tR<|.tR<|.bR<|.bR<|.tR<|.tR<|.bR<|.tR<|?_
     refine Sx.ret1 (.inl rfl) rfl (.tmp rfl) fun W s => ⟨retB ?_,s.ext⟩
     first
      | (rw [hz];rfl)
      | (rw [smlF_eq,ha,hb];simp)
    try simp only [df] at h93
    rw [h93] at e93
    have hgh : smaH y = true := by simpa using e93.symm
    exact .sk<|.bN<|.tN<|.rg<|.yv (.add Z Z (w6 (by omega))) Z<|.m Z Z<|.nt<|.ag (j + 1) ⟨rfl,trivial⟩ ⟨rfl,rfl,rfl,rfl,rfl,rfl,rfl,rfl,trivial⟩ (fun _ s => (s.pick [1,2] _ Z Z)) ⟨by omega,by rw [lall_succ hj,hxh,hr,hgh];rfl⟩ (by omega)
   try simp only [df] at h70
   obtain rfl : j = v.length := by omega
   rw [List.take_length] at hr
   exact .ex<|.tE<|.tE<|.bE<|.bN<|.tN<|.rg<|.yv (.add Z Z (w6 (by omega))) Z<|.m Z Z<|.nt<|.ag (i + 1) ⟨rfl,trivial⟩ ⟨rfl,rfl,rfl,rfl,rfl,trivial⟩ (fun _ s => (s.pick [0,1] _ Z Z)) ⟨by omega,by rw [lall_succ hi,hxv,hh,hr];rfl⟩ (by omega)
  try simp only [df] at h64
  obtain rfl : i = c.vers.length := by omega
  rw [List.take_length] at hh
  exact .ex<|.tE<|.tE<|.bE<|.bN<|.tN<|.rg<|.yv (.add Z Z (w6 (by omega))) Z<|.m Z Z<|.nt<|.ag (k + 1) ⟨rfl,trivial⟩ ⟨rfl,rfl,trivial⟩ (fun _ s => (s.pick [1] _ Z Z)) ⟨by omega,by rw [lall_succ hk,hx,hb,okSmC,hgc,hh];rfl⟩ (by omega)
 try simp only [df] at h35
 obtain rfl : k = f.comps.length := by omega
 rw [List.take_length] at hb
 refine .ex<|.tE<|.tE<|.bE<|.tN<|.sr<|.a Z Z<|.nt<|.rt<|?_
 refine Sx.ret1 (.inl rfl) rfl (.tmp rfl) fun W s => ⟨retB ?_,s.ext⟩
 first
  | (rw [hz];rfl)
  | (rw [smlF_eq,ha,hb];simp)
set_option maxRecDepth 100000 in
theorem checkR_f (N : Nat) (hN : N ≤ 100000) (H : Hp) (f : Ft) (hok : okFt N f) (cs : List Value) (w : World) (h : Rep H (dFt .i64 f) cs) (hA : Agr H w) :
 Calls Tryz.prog 11 #[.agg cs.toArray] w fun r w' => r = .returned (.int .i64 (checkF f : Nat)) ∧ Ext w w' := by
 refine Sx.enter (H := H) Tryz.func11 rfl Tryz.ntmps11 rfl hA ?_
 refine .sr<|.bx Z Z Z fun b1 => .a Z Z<|.nt<|.sq<|.bk<|.sr<|.yv (.loadW Z Fx.agg32 (.head _) (ft_len h)) Z<|.yv (.call Fx.call28 Z (fun W s => limits_f N hN H f hok cs W h s.agr)) Z<|.a Z Z<|.nt<|.cd Z (fun h3 => ?_) (fun h3 => ?_)
 ·skip
  refine .sr<|.a Z Z<|.nt<|.rt<|.bR<|.tR<|?_
  refine Sx.ret1 (.inl rfl) rfl (.tmp rfl) fun W s => ⟨?_,s.ext⟩
  first
   | (rw [checkF,if_pos (by simpa using h3)];rfl)
   | (rw [checkF,if_neg (by simpa using h3),if_pos (by simpa using h6)];rfl)
   | (rw [checkF,if_neg (by simpa using h3),if_neg (by simpa using h6),if_pos (by simpa using h10)];rfl)
   | (rw [checkF,if_neg (by simpa using h3),if_neg (by simpa using h6),if_neg (by simpa using h10)];rfl)
 skip
 refine .sr<|.yv (.loadW Z Fx.agg32 (.head _) (ft_len h)) Z<|.yv (.call Fx.call29 Z (fun W s => names_f N (by omega) H f hok cs W h s.agr)) Z<|.yv (.not Z) Z<|.a Z Z<|.nt<|.cd Z (fun h6 => ?_) (fun h6 => ?_)
 ·skip
  refine .sr<|.a Z Z<|.nt<|.rt<|.bR<|.tR<|?_
  refine Sx.ret1 (.inl rfl) rfl (.tmp rfl) fun W s => ⟨?_,s.ext⟩
  first
   | (rw [checkF,if_pos (by simpa using h3)];rfl)
   | (rw [checkF,if_neg (by simpa using h3),if_pos (by simpa using h6)];rfl)
   | (rw [checkF,if_neg (by simpa using h3),if_neg (by simpa using h6),if_pos (by simpa using h10)];rfl)
   | (rw [checkF,if_neg (by simpa using h3),if_neg (by simpa using h6),if_neg (by simpa using h10)];rfl)
 skip
 refine .sr<|.yv (.loadW Z Fx.agg32 (.head _) (ft_len h)) Z<|.yv (.call Fx.call30 Z (fun W s => form_f N (by omega) H f hok cs W h s.agr)) Z<|.yv (.not Z) Z<|.a Z Z<|.nt<|.cd Z (fun h10 => ?_) (fun h10 => ?_)
 ·skip
  refine .sr<|.a Z Z<|.nt<|.rt<|.bR<|.tR<|?_
  refine Sx.ret1 (.inl rfl) rfl (.tmp rfl) fun W s => ⟨?_,s.ext⟩
  first
   | (rw [checkF,if_pos (by simpa using h3)];rfl)
   | (rw [checkF,if_neg (by simpa using h3),if_pos (by simpa using h6)];rfl)
   | (rw [checkF,if_neg (by simpa using h3),if_neg (by simpa using h6),if_pos (by simpa using h10)];rfl)
   | (rw [checkF,if_neg (by simpa using h3),if_neg (by simpa using h6),if_neg (by simpa using h10)];rfl)
 skip
 refine .sk<|.bN<|.tN<|.sr<|.a Z Z<|.nt<|.rt<|?_
 refine Sx.ret1 (.inl rfl) rfl (.tmp rfl) fun W s => ⟨?_,s.ext⟩
 first
  | (rw [checkF,if_pos (by simpa using h3)];rfl)
  | (rw [checkF,if_neg (by simpa using h3),if_pos (by simpa using h6)];rfl)
  | (rw [checkF,if_neg (by simpa using h3),if_neg (by simpa using h6),if_pos (by simpa using h10)];rfl)
  | (rw [checkF,if_neg (by simpa using h3),if_neg (by simpa using h6),if_neg (by simpa using h10)];rfl)
theorem LL : (∀ a b : Str,(a ++ b).length = a.length + b.length) ∧ (∀ (x : UInt8) (l : Str),(x :: l).length = l.length + 1) ∧ ([] : Str).length = 0 ∧ (∀ n p,(lineT n p).length = 2 * n + p.flatten.length + 1) ∧ (∀ (x : Str) (l : List Str),(x :: l).flatten = x ++ l.flatten) ∧ ([] : List Str).flatten = [] :=
 ⟨fun _ _ => List.length_append,fun _ _ => rfl,rfl,lineT_len,fun _ _ => rfl,rfl⟩
theorem LT : (∀ n p,lineT n p = spT n ++ p.flatten ++ [10]) ∧ (∀ (x : Str) (l : List Str),(x :: l).flatten = x ++ l.flatten) ∧ ([] : List Str).flatten = [] ∧ (∀ a b c : Str,(a ++ b) ++ c = a ++ (b ++ c)) ∧ (∀ (x : UInt8) (l m : Str),(x :: l) ++ m = x :: (l ++ m)) ∧ (∀ l : Str,[] ++ l = l) ∧ (∀ l : Str,l ++ [] = l) :=
 ⟨fun _ _ => rfl,fun _ _ => rfl,rfl,List.append_assoc,fun _ _ _ => rfl,fun _ => rfl,List.append_nil⟩
theorem spT_front (k : Nat) : ([32,32] : Str) ++ spT k = spT (k + 1) := by
 induction k with
 | zero => rfl
 | succ k ih => rw [spT,← List.append_assoc,ih];rfl
theorem join_step {l : List Str} {k : Nat} (h : k < l.length) : joinT (l.take (k + 1)) = if k = 0 then l[k] else joinT (l.take k) ++ [44,32] ++ l[k] := by
 cases l with
 | nil => cases h
 | cons a r =>
  unfold joinT
  cases k with
  | zero => simp [Lib.join_one]
  | succ k =>
   have h2 : k < r.length := by simp only [List.length_cons] at h;omega
   rw [if_neg (by omega),List.take_succ_cons,List.take_succ_cons,Lib.join_cons,Lib.join_cons,Lib.joinTail_take_succ _ _ k r[k] (List.getElem?_eq_getElem h2)]
   simp
theorem join_take (l : List Str) (k : Nat) : (joinT (l.take k)).length ≤ (joinT l).length := by
 cases l with
 | nil => simp
 | cons a r =>
  unfold joinT
  cases k with
  | zero => simp [Lib.join_nil]
  | succ k =>
   rw [List.take_succ_cons,Lib.join_cons,Lib.join_cons,List.length_append,List.length_append]
   have := Lib.joinTail_take_le [44,32] r k
   omega
set_option maxRecDepth 100000 in
theorem lineR_any (H : Hp) (ind : Nat) (t : Str) (hi : ind ≤ 10000000000001) (hl : t.length ≤ 100000000000000) (w : World) (hA : Agr H w) :
 Calls Tryz.prog 31 #[.int .i64 (ind : Nat),strV t] w fun r w' => r = .returned (strV (lineT ind [t])) ∧ Ext w w' := by
 refine Sx.enter (H := H) Tryz.func31 rfl Tryz.ntmps31 rfl hA ?_
 refine .sr<|.a Z Z<|.nt<|.sq<|.sr<|.a Z Z<|.nt<|.bk<|.lp (X := Nat) [(0,_)] ⟨rfl,trivial⟩ [] (fun k => [(1,strV (spT k ++ t)),(5,.int .i64 (k : Nat))]) (fun k => H) (fun k => []) (fun k => k ≤ ind) (fun k => ind - k) 0 (fun _ s => s) ⟨rfl,rfl,trivial⟩ (by omega) fun k hC => ?_
 refine .sq<|.sr<|.m Z Z<|.m Z Z<|.yv (.lss Z Z) Z<|.nt<|.cd Z (fun h8 => ?_) (fun h8 => ?_)
 ·try simp only [dt] at h8
  have hk : k < ind := by omega
  have hsp := spT_len k
  refine .sk<|.tN<|.sq<|.bk<|.rg<|.m Z Z<|.yv (.app Z Z (by (try simp only [LL]);omega)) Z<|?_
  rw [← List.append_assoc,spT_front]
  exact .a Z Z<|.nl<|.bN<|.tN<|.rg<|.m Z Z<|.yv (.add Z Z (w6 (by omega))) Z<|.a Z Z<|.nt<|.ag (k + 1) ⟨rfl,rfl,trivial⟩ ⟨rfl,trivial⟩ (fun _ s => s) (by omega) (by omega)
 try simp only [df] at h8
 obtain rfl : k = ind := by omega
 have hsp := spT_len k
 refine .ex<|.tE<|.tE<|.bE<|.tN<|.sr<|.m Z Z<|.yv (.app Z Z (by (try simp only [LL]);omega)) Z<|.a Z Z<|.nt<|.rt<|?_
 refine Sx.ret1 (.inl rfl) rfl (.tmp rfl) fun W s => ⟨?_,s.ext⟩
 first
  | (simp [lineT];rfl)
set_option maxRecDepth 100000 in
theorem truthR_any (H : Hp) (q : Bool) (w : World) (hA : Agr H w) : Calls Tryz.prog 32 #[.bool q] w fun r w' => r = .returned (strV (boolT q)) ∧ Ext w w' := by
 refine Sx.enter (H := H) Tryz.func32 rfl Tryz.ntmps32 rfl hA ?_
 refine .sr<|.a Z Z<|.nt<|.sq<|.sr<|.m Z Z<|.nt<|.cd Z (fun h3 => ?_) (fun h3 => ?_)
 ·skip
  refine .sr<|.a Z Z<|.nt<|.rt<|.tR<|?_
  refine Sx.ret1 (.inl rfl) rfl (.tmp rfl) fun W s => ⟨?_,s.ext⟩
  first
   | (rw [h3];rfl)
   | (rw [Bool.not_eq_true _ |>.mp h3];rfl)
   | (subst h3;rfl)
 skip
 refine .sk<|.tN<|.sr<|.a Z Z<|.nt<|.rt<|?_
 refine Sx.ret1 (.inl rfl) rfl (.tmp rfl) fun W s => ⟨?_,s.ext⟩
 first
  | (rw [h3];rfl)
  | (rw [Bool.not_eq_true _ |>.mp h3];rfl)
  | (subst h3;rfl)
set_option maxRecDepth 100000 in
theorem listR_any (H : Hp) (l : List Str) (p : Option Addr) (c : Nat) (w : World) (hs : Rep H (.seq 1 (l.map dStr)) [.slice p l.length c]) (hl : (joinT l).length ≤ 100000000000000) (hA : Agr H w) :
 Calls Tryz.prog 72 #[.slice p l.length c] w fun r w' => r = .returned (strV (joinT l)) ∧ Ext w w' := by
 have hcap := hs.cap
 refine Sx.enter (H := H) Tryz.func72 rfl Tryz.ntmps72 rfl hA ?_
 refine .sr<|.a Z Z<|.ns<|.a Z Z<|.nt<|.sq<|.sr<|.m Z Z<|.yv (.lenSl Fx.sl66 Z) Z<|.m Z Z<|.nt<|.bk<|.lp (X := Nat) [(6,_),(7,_)] ⟨rfl,rfl,trivial⟩ [] (fun k => [(3,strV (joinT (l.take k))),(8,.int .i64 (k : Nat))]) (fun k => H) (fun k => []) (fun k => k ≤ l.length) (fun k => l.length - k) 0 (fun _ s => s) ⟨rfl,rfl,trivial⟩ (by omega) fun k hC => ?_
 refine .sr<|.yv (.lss Z Z) Z<|.nt<|.sq<|.cd Z (fun h9 => ?_) (fun h9 => ?_)
 ·try simp only [dt] at h9
  have hk : k < l.length := by omega
  obtain ⟨bE,oE,cE,hpE,rE,lE,mE⟩ := hs.elem (map_at (f := dStr) hk)
  cases hpE
  obtain ⟨rfl,ns⟩ := str_open rE
  have hst := join_step hk
  have hle := join_take l (k + 1)
  rw [hst] at hle
  refine .sk<|.tN<|.sq<|.bk<|.sr<|.m Z Z<|.yv (.indexSl Fx.sl66 Z Z Z (by omega) (q := oE + k * 1) Z) Z<|.yv (.loadM Z Fx.agg9 mE (k := 0) Z Z) Z<|.a Z Z<|.a Z Z<|.nt<|.sq<|.sr<|.m Z Z<|.yv (.gtr Z Z) Z<|.nt<|.cd Z (fun h14 => ?_) (fun h14 => ?_)
  ·try simp only [dt] at h14
   rw [if_neg (by omega)] at hst hle
   simp only [List.length_append,List.length_cons,List.length_nil] at hle
   exact .rg<|.m Z Z<|.yv (.app Z Z (by (try simp only [LL]);omega)) Z<|.a Z Z<|.nt<|.rg<|.m Z Z<|.m Z Z<|.yv (.cast (.app Z Z (by (try rw [hz]);(try simp only [LL]);omega)) (by rw [hst];(try rw [hz]);(try simp only [List.append_assoc]);rfl)) Z<|.a Z Z<|.nl<|.bN<|.tN<|.rg<|.yv (.add Z Z (w6 (by omega))) Z<|.m Z Z<|.nt<|.ag (k + 1) ⟨rfl,rfl,trivial⟩ ⟨rfl,rfl,trivial⟩ (fun _ s => s) (by omega) (by omega)
  try simp only [df] at h14
  have hk0 : k = 0 := by omega
  rw [if_pos hk0] at hst hle
  have hz : joinT (l.take k) = [] := by rw [hk0];rfl
  exact .sk<|.tN<|.rg<|.m Z Z<|.m Z Z<|.yv (.cast (.app Z Z (by (try rw [hz]);(try simp only [LL]);omega)) (by rw [hst];(try rw [hz]);(try simp only [List.append_assoc]);rfl)) Z<|.a Z Z<|.nl<|.bN<|.tN<|.rg<|.yv (.add Z Z (w6 (by omega))) Z<|.m Z Z<|.nt<|.ag (k + 1) ⟨rfl,rfl,trivial⟩ ⟨rfl,rfl,trivial⟩ (fun _ s => s) (by omega) (by omega)
 try simp only [df] at h9
 obtain rfl : k = l.length := by omega
 rw [List.take_length]
 refine .ex<|.tE<|.tE<|.bE<|.tN<|.sr<|.m Z Z<|.a Z Z<|.nt<|.rt<|?_
 refine Sx.ret1 (.inl rfl) rfl (.tmp rfl) fun W s => ⟨?_,s.ext⟩
 first
  | (rfl)
theorem Fx.call31 : callN Tryz.prog 31 = Bool.true := by kernel_rfl
theorem Fx.call107 : callN Tryz.prog 107 = Bool.true := by kernel_rfl
set_option maxRecDepth 100000 in
theorem exprsR_any (H : Hp) (ex : List Ex) (p : Option Addr) (c : Nat) (w : World) (hs : Rep H (.seq 4 (ex.map (dEx .i64))) [.slice p ex.length c]) (hf : Ex.alls frmE ex = true) (hok : ex.all (fun x => decide (x.text.length ≤ 1000000)) = true) (hn : ex.length ≤ 1000000) (hA : Agr H w) :
 Calls Tryz.prog 143 #[.slice p ex.length c] w fun r w' => ∃ (x : Option Addr × Nat) (H' : Hp),Rep H' (.seq 1 ((ex.map Ex.text).map dStr)) [.slice x.1 ex.length x.2] ∧ r = .returned (.slice x.1 ex.length x.2) ∧ Grow H w H' w' := by
 have hcap := hs.cap
 refine Sx.enter (H := H) Tryz.func143 rfl Tryz.ntmps143 rfl hA ?_
 refine .sr<|.a Z Z<|.ns<|.a Z Z<|?_
 refine Sx.row0 9 1 ?_
 refine .nt<|.sq<|.sr<|.m Z Z<|.yv (.lenSl Fx.sl49 Z) Z<|.m Z Z<|.nt<|.bk<|.lp (X := Nat × Value × List Value) [(6,_),(7,_)] ⟨rfl,rfl,trivial⟩ [] (fun z => [(3,z.2.1),(8,.int .i64 (z.1 : Nat))]) (fun z => H) (fun z => [.row 9 1 z.2.1 z.1 z.2.2]) (fun z => z.1 ≤ ex.length ∧ RepZ H 1 (((ex.take z.1).map Ex.text).map dStr) z.2.2) (fun z => ex.length - z.1) (0,.slice none 0 0,[]) (fun _ s => s) ⟨rfl,rfl,trivial⟩ ⟨by simp,RepZ.nil⟩ fun z hC => ?_
 obtain ⟨k,r,xs⟩ := z
 dsimp only at hC ⊢
 obtain ⟨hk0,hz⟩ := hC
 refine .sr<|.yv (.lss Z Z) Z<|.nt<|.sq<|.cd Z (fun h9 => ?_) (fun h9 => ?_)
 ·try simp only [dt] at h9
  have hk : k < ex.length := by omega
  obtain ⟨bE,oE,cE,hpE,rE,lE,mE⟩ := hs.elem (map_at (f := dEx .i64) hk)
  cases hpE
  have hd1 := lall_at hk hok
  simp only [decide_eq_true_eq] at hd1
  have hf1 := lalls_at hk hf
  refine At.ra (.head _) fun pr cr er => ?_
  subst er
  exact .sk<|.tN<|.sq<|.bk<|.sr<|.yv (.indexSl Fx.sl49 Z Z Z (by omega) (q := oE + k * 4) Z) Z<|.yv (.loadMW Z Fx.agg51 mE lE) Z<|.al Fx.zero51 Z fun b5 => .sV .head Z Z Fx.size51 lE rE.one Z<|.nt<|.rg<|.m Z Z<|.yv (.loadW Z Fx.agg51 (.head _) lE) Z<|.yv (.call Fx.call151 Z (fun W s => printExprR_any H _ _ W rE hf1 (by omega) s.agr)) Z<|.bl Z (Fx.bsl66_1 _) Z fun b15 => .ap (news := [strV ex[k].text]) Fx.row66 Z (fun _ => (.tail<|.tail<|.head)) Z (.box (.head _) z0) Z (by simp [Value.oneCell',strV]) (by simp [maxLen];omega) (by omega) Z fun r16 _ => .a Z Z<|.nl<|.bN<|.tN<|.rg<|.yv (.add Z Z (w6 (by omega))) Z<|.m Z Z<|.nt<|.ag (x := (k,.slice pr k cr,xs)) (k + 1,r16,xs ++ [strV ex[k].text]) ⟨rfl,rfl,trivial⟩ ⟨rfl,rfl,trivial⟩ (fun _ s => (s.pick [2] _ Z Z)) ⟨by dsimp only;omega,by dsimp only;rw [take_snoc hk,List.map_append,List.map_append];exact hz.snoc (str_shut hd1) Z⟩ (by dsimp only;omega)
 try simp only [df] at h9
 obtain rfl : k = ex.length := by omega
 rw [List.take_length] at hz
 refine .ex<|.tE<|.tE<|.bE<|.tN<|.sr<|.m Z Z<|.a Z Z<|.nt<|.rt<|?_
 refine Sx.freezeSeq (ds := (ex.map Ex.text).map dStr) (by simp) hz fun H3 p3 c3 u3 hr3 hs3 => ?_
 subst hr3
 exact Sx.ret1 (.inl rfl) rfl (.tmp rfl) fun W s => ⟨(p3,c3),H3,hs3,rfl,u3.grow s⟩
def tokR : Sm → Bool
 | .mk kd nm hd ex th el => frmS (.mk kd nm hd ex th el) && ex.all fun x => decide (x.text.length ≤ 1000000)
def BodyR (H : Hp) (l : List Sm) : Prop := ∀ (p : Option Addr) (n c ind : Nat) (w : World),Rep H (.seq 6 (l.map (dSm .i64))) [.slice p n c] → Sm.alls tokR l = true → (Sm.texts ind l).length ≤ 10000000000000 → ind ≤ 10000000000000 → Agr H w →
 Calls Tryz.prog 107 #[.slice p n c,.int .i64 (ind : Nat)] w fun r w' => r = .returned (strV (Sm.texts ind l)) ∧ Ext w w'
def StmR (H : Hp) (x : Sm) : Prop := ∀ (cs : List Value) (ind : Nat) (w : World),Rep H (dSm .i64 x) cs → Sm.all tokR x = true → (Sm.text ind x).length ≤ 10000000000000 → ind ≤ 10000000000000 → Agr H w →
 Calls Tryz.prog 126 #[.agg cs.toArray,.int .i64 (ind : Nat)] w fun r w' => r = .returned (strV (Sm.text ind x)) ∧ Ext w w'
theorem _root_.Go.Sx.HUp.agr {w0 W : World} {H H' : Hp} (u : HUp w0 H H') (h : Agr H' W) : Agr H W := fun b o e => h b o (u.up b o e)
set_option maxRecDepth 100000 in
theorem blockR_any (H : Hp) (l : List Sm) (hb : BodyR H l) (t : Str) (p : Option Addr) (n c ind : Nat) (w : World) (hs : Rep H (.seq 6 (l.map (dSm .i64))) [.slice p n c]) (hf : Sm.alls tokR l = true) (ht : t.length ≤ 10000000000000) (hl : (Sm.texts (ind + 1) l).length ≤ 10000000000000) (hi : 2 * ind ≤ 10000000000000) (hA : Agr H w) :
 Calls Tryz.prog 71 #[strV t,.slice p n c,.int .i64 (ind : Nat)] w fun r w' => r = .returned (strV (lineT ind [t ++ [32,123]] ++ Sm.texts (ind + 1) l ++ lineT ind [[125]])) ∧ Ext w w' := by
 refine Sx.enter (H := H) Tryz.func71 rfl Tryz.ntmps71 rfl hA ?_
 refine .sr<|.a Z Z<|.ns<|.m Z Z<|.m Z Z<|.yv (.app Z Z (by (try simp only [LL]);omega)) Z<|.yv (.call Fx.call31 Z (fun W s => lineR_any _ _ _ (by omega) (by (try simp only [LL]);omega) W s.agr)) Z<|.m Z Z<|.m Z Z<|.yv (.add Z Z (c := ((ind + 1 : Nat) : Int)) ((w6 (by omega)).trans (by omega))) Z<|.yv (.call Fx.call107 Z (fun W s => hb p n c (ind + 1) W hs hf (by omega) (by omega) s.agr)) Z<|.yv (.app Z Z (by (try simp only [LL]);omega)) Z<|.m Z Z<|.yv (.call Fx.call31 Z (fun W s => lineR_any _ _ _ (by omega) (by (try simp only [LL]);omega) W s.agr)) Z<|.yv (.app Z Z (by (try simp only [LL]);omega)) Z<|.a Z Z<|.nt<|.rt<|?_
 refine Sx.ret1 (.inl rfl) rfl (.tmp rfl) fun W s => ⟨?_,s.ext⟩
 first
  | (simp only [LT];rfl)
theorem Fx.call71 : callN Tryz.prog 71 = Bool.true := by kernel_rfl
theorem Fx.call72 : callN Tryz.prog 72 = Bool.true := by kernel_rfl
theorem Fx.call126 : callN Tryz.prog 126 = Bool.true := by kernel_rfl
theorem Fx.call143 : callN Tryz.prog 143 = Bool.true := by kernel_rfl
theorem strE {H : Hp} {es : List Str} {p : Option Addr} {n c i : Nat} (h : Rep H (.seq 1 (es.map dStr)) [.slice p n c]) (hi : i < es.length) : ∃ b o,p = some ⟨b,o,none⟩ ∧ MemAt H b (o + i * 1) [strV (es.getD i [])] ∧ (es.getD i []).length ≤ 1000000 := by
 obtain ⟨b,o,cs,e,r,l,m⟩ := h.elem (map_at (f := dStr) hi)
 obtain ⟨rfl,hn⟩ := str_open r
 have e2 : es.getD i [] = es[i] := by simp [hi]
 rw [e2]
 cases e
 exact ⟨b,o,rfl,m,hn⟩
theorem listN_any (H : Hp) (l : List Str) (p : Option Addr) (n c : Nat) (hn : l.length = n) (w : World) (hs : Rep H (.seq 1 (l.map dStr)) [.slice p n c]) (hl : (joinT l).length ≤ 100000000000000) (hA : Agr H w) :
 Calls Tryz.prog 72 #[.slice p n c] w fun r w' => r = .returned (strV (joinT l)) ∧ Ext w w' := by
 subst hn
 exact listR_any H l p c w hs hl hA
set_option maxRecDepth 100000 in
theorem statementR_any (H : Hp) (x : Sm) (hth : BodyR H x.th) (hel : BodyR H x.el) : StmR H x := by
 obtain ⟨kd,nm,hd,ex,th,el⟩ := x
 intro cs ind w h hf hl hi hA
 simp only [Sm.th,Sm.el] at hth hel
 obtain ⟨p,c,p1,c1,p2,c2,rfl,hs,hs1,hs2,hn1,hn2⟩ := sm_open h
 rw [sall_mk,Bool.and_eq_true,Bool.and_eq_true] at hf
 obtain ⟨⟨hf1,hf2⟩,hf3⟩ := hf
 rw [tokR,Bool.and_eq_true] at hf1
 obtain ⟨hfr0,hok2⟩ := hf1
 have hfr := frm_len hfr0
 have hhi := form_hi kd
 obtain ⟨hokd,_,_,hfx⟩ := id hfr
 have hx5 : ex.length ≤ 5 := by omega
 have hcap := hs.cap
 have hcap1 := hs1.cap
 have hcap2 := hs2.cap
 refine Sx.enter (H := H) Tryz.func126 rfl Tryz.ntmps126 rfl hA ?_
 refine .sr<|.bx Z Z Z fun b2 => .a Z Z<|.ns<|.yv (.fieldAddr Z Fx.field150_3) Z<|.yv (.load Z Fx.agg49 (.head _) Z) Z<|.ct (X := Option Addr × Nat) Fx.call143 Z (fun W s => exprsR_any H ex _ _ W hs hfx hok2 (by omega) s.agr) Z fun x9 H9 hE u9 => ?_
 obtain ⟨p9,c9⟩ := x9
 dsimp only at hE ⊢
 have hcap9 := hE.cap
 refine .a Z Z<|.nt<|.sq<|.sr<|.yv (.fieldAddr Z Fx.field150_0) Z<|.yv (.load Z Fx.agg3 (.head _) Z) Z<|.nt<|.bk<|.sr<|.yv (.eql Z Z) Z<|.a Z Z<|.nt<|.cd Z (fun h12 => ?_) (fun h12 => ?_)
 ·try simp only [dt] at h12
  have e1 : kd = 1 := UInt8.toNat_inj.1 (by show kd.toNat = 1;omega)
  have hst : Sm.text ind (.mk kd nm hd ex th el) = lineT ind [nm,[32,61,32],(ex.map Ex.text).getD 0 [],[59]] := by rw [stext_mk,e1,stT,if_pos rfl]
  rw [hst] at hl ⊢
  have hlo : 1 ≤ ex.length := by have h5 := hfr.2.1;rw [e1] at h5;exact Nat.le_trans (by decide) h5
  obtain ⟨b0,o0,hp0,m0,d0⟩ := strE hE (i := 0) (by rw [List.length_map];omega)
  cases hp0
  simp only [LL] at hl
  refine .sq<|.fl (trip := [(_,_,_),(_,_,_),(_,_,_),(_,_,_),(_,_,_),(_,_,_),(_,_,_),(_,_,_),(_,_,_),(_,_,_)]) 10 [(0,0),(1,0),(2,0),(3,0),(4,0),(5,0),(6,0),(7,0),(8,0),(9,0)] (by kernel_rfl) (by kernel_rfl) Z<|.m Z Z<|.yv (.fieldAddr Z Fx.field150_1) Z<|.yv (.load Z Fx.agg9 (.head _) Z) Z<|.yv (.app Z Z (by (try simp only [LL]);omega)) Z<|.m Z Z<|.yv (.indexSl Fx.sl66 Z Z (i := 0) Z (by omega) (q := o0 + 0 * 1) Z) Z<|.yv (.loadM Z Fx.agg9 m0 (k := 0) Z Z) Z<|.yv (.app Z Z (by (try simp only [LL]);omega)) Z<|.yv (.app Z Z (by (try simp only [LL]);omega)) Z<|.yv (.call Fx.call31 Z (fun W s => lineR_any _ _ _ (by omega) (by (try simp only [LL]);omega) W s.agr)) Z<|.fn (tl := [_]) Z<|.a Z Z<|.nt<|.rt<|.bR<|.tR<|?_
  refine Sx.ret1 (.inl rfl) rfl (.tmp rfl) fun W s => ⟨?_,s.ext⟩
  first
   | (simp only [LT];done)
   | (simp only [LT];rfl)
 try simp only [df] at h12
 have n1 : ¬ kd.toNat = 1 := by omega
 refine .sr<|.yv (.eql Z Z) Z<|.a Z Z<|.nt<|.cd Z (fun h24 => ?_) (fun h24 => ?_)
 ·try simp only [dt] at h24
  have e2 : kd = 2 := UInt8.toNat_inj.1 (by show kd.toNat = 2;omega)
  have hst : Sm.text ind (.mk kd nm hd ex th el) = lineT ind [nm,[91],(ex.map Ex.text).getD 0 [],[93,32,61,32],(ex.map Ex.text).getD 1 [],[59]] := by rw [stext_mk,e2,stT,if_neg (by decide),if_pos rfl]
  rw [hst] at hl ⊢
  have hlo : 2 ≤ ex.length := by have h5 := hfr.2.1;rw [e2] at h5;exact Nat.le_trans (by decide) h5
  obtain ⟨b0,o0,hp0,m0,d0⟩ := strE hE (i := 0) (by rw [List.length_map];omega)
  cases hp0
  obtain ⟨b1,o1,hp1,m1,d1⟩ := strE hE (i := 1) (by rw [List.length_map];omega)
  cases hp1
  simp only [LL] at hl
  refine .sq<|.fl (trip := [(_,_,_),(_,_,_),(_,_,_),(_,_,_),(_,_,_),(_,_,_),(_,_,_),(_,_,_),(_,_,_),(_,_,_),(_,_,_),(_,_,_),(_,_,_),(_,_,_),(_,_,_)]) 15 [(0,0),(1,0),(2,0),(3,0),(4,0),(5,0),(6,0),(7,0),(8,0),(9,0),(10,0),(11,0),(12,0),(13,0),(14,0)] (by kernel_rfl) (by kernel_rfl) Z<|.m Z Z<|.yv (.fieldAddr Z Fx.field150_1) Z<|.yv (.load Z Fx.agg9 (.head _) Z) Z<|.yv (.app Z Z (by (try simp only [LL]);omega)) Z<|.m Z Z<|.yv (.indexSl Fx.sl66 Z Z (i := 0) Z (by omega) (q := o0 + 0 * 1) Z) Z<|.yv (.loadM Z Fx.agg9 m0 (k := 0) Z Z) Z<|.yv (.app Z Z (by (try simp only [LL]);omega)) Z<|.yv (.app Z Z (by (try simp only [LL]);omega)) Z<|.m Z Z<|.yv (.indexSl Fx.sl66 Z Z (i := 1) Z (by omega) (q := o0 + 1 * 1) Z) Z<|.yv (.loadM Z Fx.agg9 m1 (k := 0) Z Z) Z<|.yv (.app Z Z (by (try simp only [LL]);omega)) Z<|.yv (.app Z Z (by (try simp only [LL]);omega)) Z<|.yv (.call Fx.call31 Z (fun W s => lineR_any _ _ _ (by omega) (by (try simp only [LL]);omega) W s.agr)) Z<|.fn (tl := [_]) Z<|.a Z Z<|.nt<|.rt<|.bR<|.tR<|?_
  refine Sx.ret1 (.inl rfl) rfl (.tmp rfl) fun W s => ⟨?_,s.ext⟩
  first
   | (simp only [LT];done)
   | (simp only [LT];rfl)
 try simp only [df] at h24
 have n2 : ¬ kd.toNat = 2 := by omega
 refine .sr<|.yv (.eql Z Z) Z<|.a Z Z<|.nt<|.cd Z (fun h41 => ?_) (fun h41 => ?_)
 ·try simp only [dt] at h41
  have e3 : kd = 3 := UInt8.toNat_inj.1 (by show kd.toNat = 3;omega)
  have hst : Sm.text ind (.mk kd nm hd ex th el) = lineT ind [[100,101,108,101,116,101,32],nm,[91],(ex.map Ex.text).getD 0 [],[93,59]] := by rw [stext_mk,e3,stT,if_neg (by decide),if_neg (by decide),if_pos rfl]
  rw [hst] at hl ⊢
  have hlo : 1 ≤ ex.length := by have h5 := hfr.2.1;rw [e3] at h5;exact Nat.le_trans (by decide) h5
  obtain ⟨b0,o0,hp0,m0,d0⟩ := strE hE (i := 0) (by rw [List.length_map];omega)
  cases hp0
  simp only [LL] at hl
  refine .sq<|.fl (trip := [(_,_,_),(_,_,_),(_,_,_),(_,_,_),(_,_,_),(_,_,_),(_,_,_),(_,_,_),(_,_,_),(_,_,_),(_,_,_)]) 11 [(0,0),(1,0),(2,0),(3,0),(4,0),(5,0),(6,0),(7,0),(8,0),(9,0),(10,0)] (by kernel_rfl) (by kernel_rfl) Z<|.m Z Z<|.yv (.fieldAddr Z Fx.field150_1) Z<|.yv (.load Z Fx.agg9 (.head _) Z) Z<|.yv (.app Z Z (by (try simp only [LL]);omega)) Z<|.yv (.app Z Z (by (try simp only [LL]);omega)) Z<|.m Z Z<|.yv (.indexSl Fx.sl66 Z Z (i := 0) Z (by omega) (q := o0 + 0 * 1) Z) Z<|.yv (.loadM Z Fx.agg9 m0 (k := 0) Z Z) Z<|.yv (.app Z Z (by (try simp only [LL]);omega)) Z<|.yv (.app Z Z (by (try simp only [LL]);omega)) Z<|.yv (.call Fx.call31 Z (fun W s => lineR_any _ _ _ (by omega) (by (try simp only [LL]);omega) W s.agr)) Z<|.fn (tl := [_]) Z<|.a Z Z<|.nt<|.rt<|.bR<|.tR<|?_
  refine Sx.ret1 (.inl rfl) rfl (.tmp rfl) fun W s => ⟨?_,s.ext⟩
  first
   | (simp only [LT];done)
   | (simp only [LT];rfl)
 try simp only [df] at h41
 have n3 : ¬ kd.toNat = 3 := by omega
 refine .sr<|.yv (.eql Z Z) Z<|.a Z Z<|.nt<|.cd Z (fun h54 => ?_) (fun h54 => ?_)
 ·try simp only [dt] at h54
  have e4 : kd = 4 := UInt8.toNat_inj.1 (by show kd.toNat = 4;omega)
  have hst : Sm.text ind (.mk kd nm hd ex th el) = lineT ind [[105,102,32],(ex.map Ex.text).getD 0 [],[32,123]] ++ Sm.texts (ind + 1) th ++ (if decide (el.length = 0) then [] else lineT ind [[125,32,101,108,115,101,32,123]] ++ Sm.texts (ind + 1) el) ++ lineT ind [[125]] := by rw [stext_mk,e4,stT,if_neg (by decide),if_neg (by decide),if_neg (by decide),if_pos rfl]
  rw [hst] at hl ⊢
  have hlo : 1 ≤ ex.length := by have h5 := hfr.2.1;rw [e4] at h5;exact Nat.le_trans (by decide) h5
  obtain ⟨b0,o0,hp0,m0,d0⟩ := strE hE (i := 0) (by rw [List.length_map];omega)
  cases hp0
  refine .sq<|.sr<|.yv (.fieldAddr Z Fx.field150_5) Z<|.yv (.load Z Fx.agg98 (.head _) Z) Z<|.yv (.lenSl Fx.sl98 Z) Z<|.yv (.eql Z Z) Z<|.nt<|.cd Z (fun h59 => ?_) (fun h59 => ?_)
  ·try simp only [dt] at h59
   have q : el.length = 0 := by omega
   rw [if_pos (by simpa using q)] at hl ⊢
   simp only [LL] at hl
   refine .sq<|.fl (trip := [(_,_,_),(_,_,_),(_,_,_),(_,_,_),(_,_,_),(_,_,_),(_,_,_),(_,_,_)]) 8 [(0,0),(1,0),(2,0),(3,0),(4,0),(5,0),(6,0),(7,0)] (by kernel_rfl) (by kernel_rfl) Z<|.m Z Z<|.yv (.indexSl Fx.sl66 Z Z (i := 0) Z (by omega) (q := o0 + 0 * 1) Z) Z<|.yv (.loadM Z Fx.agg9 m0 (k := 0) Z Z) Z<|.yv (.app Z Z (by (try simp only [LL]);omega)) Z<|.yv (.fieldAddr Z Fx.field150_4) Z<|.yv (.load Z Fx.agg98 (.head _) Z) Z<|.m Z Z<|.yv (.call Fx.call71 Z (fun W s => blockR_any H th hth _ _ _ _ _ W hs1 hf2 (by (try simp only [LL]);omega) (by omega) (by omega) (u9.agr s.agr))) Z<|.fn (tl := [_]) Z<|.a Z Z<|.nt<|.rt<|.tR<|.bR<|.tR<|?_
   refine Sx.ret1 (.inl rfl) rfl (.tmp rfl) fun W s => ⟨?_,s.ext⟩
   first
    | (simp only [LT];done)
    | (simp only [LT];rfl)
  try simp only [df] at h59
  have q : ¬ el.length = 0 := by omega
  rw [if_neg (by simpa using q)] at hl ⊢
  simp only [LL] at hl
  refine .sk<|.tN<|.sq<|.fl (trip := [(_,_,_),(_,_,_),(_,_,_),(_,_,_),(_,_,_),(_,_,_),(_,_,_),(_,_,_),(_,_,_),(_,_,_),(_,_,_),(_,_,_),(_,_,_),(_,_,_),(_,_,_),(_,_,_),(_,_,_),(_,_,_)]) 18 [(0,0),(1,0),(2,0),(3,0),(4,0),(5,0),(6,0),(7,0),(8,0),(9,0),(10,0),(11,0),(12,0),(13,0),(14,0),(15,0),(16,0),(17,0)] (by kernel_rfl) (by kernel_rfl) Z<|.m Z Z<|.m Z Z<|.yv (.indexSl Fx.sl66 Z Z (i := 0) Z (by omega) (q := o0 + 0 * 1) Z) Z<|.yv (.loadM Z Fx.agg9 m0 (k := 0) Z Z) Z<|.yv (.app Z Z (by (try simp only [LL]);omega)) Z<|.yv (.app Z Z (by (try simp only [LL]);omega)) Z<|.yv (.call Fx.call31 Z (fun W s => lineR_any _ _ _ (by omega) (by (try simp only [LL]);omega) W s.agr)) Z<|.yv (.fieldAddr Z Fx.field150_4) Z<|.yv (.load Z Fx.agg98 (.head _) Z) Z<|.m Z Z<|.yv (.add Z Z (c := ((ind + 1 : Nat) : Int)) ((w6 (by omega)).trans (by omega))) Z<|.yv (.call Fx.call107 Z (fun W s => hth _ _ _ _ W hs1 hf2 (by omega) (by omega) (u9.agr s.agr))) Z<|.yv (.app Z Z (by (try simp only [LL]);omega)) Z<|.yv (.fieldAddr Z Fx.field150_5) Z<|.yv (.load Z Fx.agg98 (.head _) Z) Z<|.m Z Z<|.yv (.call Fx.call71 Z (fun W s => blockR_any H el hel _ _ _ _ _ W hs2 hf3 (by (try simp only [LL]);omega) (by omega) (by omega) (u9.agr s.agr))) Z<|.yv (.app Z Z (by (try simp only [LL]);omega)) Z<|.fn (tl := [_]) Z<|.a Z Z<|.nt<|.rt<|.bR<|.tR<|?_
  refine Sx.ret1 (.inl rfl) rfl (.tmp rfl) fun W s => ⟨?_,s.ext⟩
  first
   | (simp only [LT];done)
   | (simp only [LT];rfl)
 try simp only [df] at h54
 have n4 : ¬ kd.toNat = 4 := by omega
 refine .sr<|.yv (.eql Z Z) Z<|.a Z Z<|.nt<|.cd Z (fun h86 => ?_) (fun h86 => ?_)
 ·try simp only [dt] at h86
  have e5 : kd = 5 := UInt8.toNat_inj.1 (by show kd.toNat = 5;omega)
  have hst : Sm.text ind (.mk kd nm hd ex th el) = lineT ind [[119,104,105,108,101,32],(ex.map Ex.text).getD 0 [],[32,123]] ++ Sm.texts (ind + 1) th ++ lineT ind [[125]] := by rw [stext_mk,e5,stT,if_neg (by decide),if_neg (by decide),if_neg (by decide),if_neg (by decide),if_pos rfl]
  rw [hst] at hl ⊢
  have hlo : 1 ≤ ex.length := by have h5 := hfr.2.1;rw [e5] at h5;exact Nat.le_trans (by decide) h5
  obtain ⟨b0,o0,hp0,m0,d0⟩ := strE hE (i := 0) (by rw [List.length_map];omega)
  cases hp0
  simp only [LL] at hl
  refine .sq<|.fl (trip := [(_,_,_),(_,_,_),(_,_,_),(_,_,_),(_,_,_),(_,_,_),(_,_,_),(_,_,_)]) 8 [(0,0),(1,0),(2,0),(3,0),(4,0),(5,0),(6,0),(7,0)] (by kernel_rfl) (by kernel_rfl) Z<|.m Z Z<|.yv (.indexSl Fx.sl66 Z Z (i := 0) Z (by omega) (q := o0 + 0 * 1) Z) Z<|.yv (.loadM Z Fx.agg9 m0 (k := 0) Z Z) Z<|.yv (.app Z Z (by (try simp only [LL]);omega)) Z<|.yv (.fieldAddr Z Fx.field150_4) Z<|.yv (.load Z Fx.agg98 (.head _) Z) Z<|.m Z Z<|.yv (.call Fx.call71 Z (fun W s => blockR_any H th hth _ _ _ _ _ W hs1 hf2 (by (try simp only [LL]);omega) (by omega) (by omega) (u9.agr s.agr))) Z<|.fn (tl := [_]) Z<|.a Z Z<|.nt<|.rt<|.bR<|.tR<|?_
  refine Sx.ret1 (.inl rfl) rfl (.tmp rfl) fun W s => ⟨?_,s.ext⟩
  first
   | (simp only [LT];done)
   | (simp only [LT];rfl)
 try simp only [df] at h86
 have n5 : ¬ kd.toNat = 5 := by omega
 refine .sr<|.yv (.eql Z Z) Z<|.a Z Z<|.nt<|.cd Z (fun h96 => ?_) (fun h96 => ?_)
 ·try simp only [dt] at h96
  have e6 : kd = 6 := UInt8.toNat_inj.1 (by show kd.toNat = 6;omega)
  have hst : Sm.text ind (.mk kd nm hd ex th el) = lineT ind [[115,101,110,100,32],nm,[46],hd,[40],joinT (ex.map Ex.text),[41,59]] := by rw [stext_mk,e6,stT,if_neg (by decide),if_neg (by decide),if_neg (by decide),if_neg (by decide),if_neg (by decide),if_pos rfl]
  rw [hst] at hl ⊢
  simp only [LL] at hl
  refine .sq<|.fl (trip := [(_,_,_),(_,_,_),(_,_,_),(_,_,_),(_,_,_),(_,_,_),(_,_,_),(_,_,_),(_,_,_),(_,_,_),(_,_,_),(_,_,_),(_,_,_),(_,_,_)]) 14 [(0,0),(1,0),(2,0),(3,0),(4,0),(5,0),(6,0),(7,0),(8,0),(9,0),(10,0),(11,0),(12,0),(13,0)] (by kernel_rfl) (by kernel_rfl) Z<|.m Z Z<|.yv (.fieldAddr Z Fx.field150_1) Z<|.yv (.load Z Fx.agg9 (.head _) Z) Z<|.yv (.app Z Z (by (try simp only [LL]);omega)) Z<|.yv (.app Z Z (by (try simp only [LL]);omega)) Z<|.yv (.fieldAddr Z Fx.field150_2) Z<|.yv (.load Z Fx.agg9 (.head _) Z) Z<|.yv (.app Z Z (by (try simp only [LL]);omega)) Z<|.yv (.app Z Z (by (try simp only [LL]);omega)) Z<|.m Z Z<|.yv (.call Fx.call72 Z (fun W s => listN_any H9 (ex.map Ex.text) _ _ _ (by simp) W hE (by omega) s.agr)) Z<|.yv (.app Z Z (by (try simp only [LL]);omega)) Z<|.yv (.app Z Z (by (try simp only [LL]);omega)) Z<|.yv (.call Fx.call31 Z (fun W s => lineR_any _ _ _ (by omega) (by (try simp only [LL]);omega) W s.agr)) Z<|.fn (tl := [_]) Z<|.a Z Z<|.nt<|.rt<|.bR<|.tR<|?_
  refine Sx.ret1 (.inl rfl) rfl (.tmp rfl) fun W s => ⟨?_,s.ext⟩
  first
   | (simp only [LT];done)
   | (simp only [LT];rfl)
 try simp only [df] at h96
 have n6 : ¬ kd.toNat = 6 := by omega
 refine .sr<|.yv (.eql Z Z) Z<|.a Z Z<|.nt<|.cd Z (fun h112 => ?_) (fun h112 => ?_)
 ·try simp only [dt] at h112
  have e7 : kd = 7 := UInt8.toNat_inj.1 (by show kd.toNat = 7;omega)
  have hst : Sm.text ind (.mk kd nm hd ex th el) = lineT ind [[97,102,116,101,114,32],(ex.map Ex.text).getD 0 [],[32,100,111,32],hd,[40],joinT ((ex.map Ex.text).drop 1),[41,59]] := by rw [stext_mk,e7,stT,if_neg (by decide),if_neg (by decide),if_neg (by decide),if_neg (by decide),if_neg (by decide),if_neg (by decide),if_pos rfl]
  rw [hst] at hl ⊢
  have hlo : 1 ≤ ex.length := by have h5 := hfr.2.1;rw [e7] at h5;exact Nat.le_trans (by decide) h5
  obtain ⟨b0,o0,hp0,m0,d0⟩ := strE hE (i := 0) (by rw [List.length_map];omega)
  cases hp0
  simp only [LL] at hl
  have hD := rep_drop hE (lo := 1) (by omega)
  rw [← List.map_drop] at hD
  refine .sq<|.fl (trip := [(_,_,_),(_,_,_),(_,_,_),(_,_,_),(_,_,_),(_,_,_),(_,_,_),(_,_,_),(_,_,_),(_,_,_),(_,_,_),(_,_,_),(_,_,_),(_,_,_),(_,_,_),(_,_,_)]) 16 [(0,0),(1,0),(2,0),(3,0),(4,0),(5,0),(6,0),(7,0),(8,0),(9,0),(10,0),(11,0),(12,0),(13,0),(14,0),(15,0)] (by kernel_rfl) (by kernel_rfl) Z<|.m Z Z<|.m Z Z<|.yv (.indexSl Fx.sl66 Z Z (i := 0) Z (by omega) (q := o0 + 0 * 1) Z) Z<|.yv (.loadM Z Fx.agg9 m0 (k := 0) Z Z) Z<|.yv (.app Z Z (by (try simp only [LL]);omega)) Z<|.yv (.app Z Z (by (try simp only [LL]);omega)) Z<|.yv (.fieldAddr Z Fx.field150_2) Z<|.yv (.load Z Fx.agg9 (.head _) Z) Z<|.yv (.app Z Z (by (try simp only [LL]);omega)) Z<|.yv (.app Z Z (by (try simp only [LL]);omega)) Z<|.m Z Z<|.yv (.cutLo Fx.sl66 Z Z (lo := 1) Z (by omega) hE.len.2.1) Z<|.yv (.call Fx.call72 Z (fun W s => listN_any H9 ((ex.map Ex.text).drop 1) _ _ _ (by simp) W hD (by omega) s.agr)) Z<|.yv (.app Z Z (by (try simp only [LL]);omega)) Z<|.yv (.app Z Z (by (try simp only [LL]);omega)) Z<|.yv (.call Fx.call31 Z (fun W s => lineR_any _ _ _ (by omega) (by (try simp only [LL]);omega) W s.agr)) Z<|.fn (tl := [_]) Z<|.a Z Z<|.nt<|.rt<|.bR<|.tR<|?_
  refine Sx.ret1 (.inl rfl) rfl (.tmp rfl) fun W s => ⟨?_,s.ext⟩
  first
   | (simp only [LT];done)
   | (simp only [LT];rfl)
 try simp only [df] at h112
 have n7 : ¬ kd.toNat = 7 := by omega
 refine .sr<|.yv (.eql Z Z) Z<|.a Z Z<|.nt<|.cd Z (fun h130 => ?_) (fun h130 => ?_)
 ·try simp only [dt] at h130
  have e10 : kd = 10 := UInt8.toNat_inj.1 (by show kd.toNat = 10;omega)
  have hst : Sm.text ind (.mk kd nm hd ex th el) = lineT ind [[115,116,111,112,59]] := by rw [stext_mk,e10,stT,if_neg (by decide),if_neg (by decide),if_neg (by decide),if_neg (by decide),if_neg (by decide),if_neg (by decide),if_neg (by decide),if_neg (by decide),if_neg (by decide),if_pos rfl]
  rw [hst] at hl ⊢
  simp only [LL] at hl
  refine .sr<|.m Z Z<|.yv (.call Fx.call31 Z (fun W s => lineR_any _ _ _ (by omega) (by (try simp only [LL]);omega) W s.agr)) Z<|.a Z Z<|.nt<|.rt<|.bR<|.tR<|?_
  refine Sx.ret1 (.inl rfl) rfl (.tmp rfl) fun W s => ⟨?_,s.ext⟩
  first
   | (simp only [LT];done)
   | (simp only [LT];rfl)
 try simp only [df] at h130
 simp only [okKd,Bool.and_eq_true,decide_eq_true_eq] at hokd
 have hk89 : kd.toNat = 8 ∨ kd.toNat = 9 := by omega
 have hlo1 : 1 ≤ ex.length := by
  have h5 := hfr.2.1
  rcases hk89 with e | e
  ·rw [show kd = 8 from UInt8.toNat_inj.1 e] at h5;exact Nat.le_trans (by decide) h5
  ·rw [show kd = 9 from UInt8.toNat_inj.1 e] at h5;exact Nat.le_trans (by decide) h5
 obtain ⟨b0,o0,hp0,m0,d0⟩ := strE hE (i := 0) (by rw [List.length_map];omega)
 cases hp0
 refine .sk<|.bN<|.tN<|.sq<|.fl (trip := [(_,_,_),(_,_,_),(_,_,_),(_,_,_),(_,_,_),(_,_,_),(_,_,_),(_,_,_)]) 8 [(0,0),(1,0),(2,0),(3,0),(4,0),(5,0),(6,0),(7,0)] (by kernel_rfl) (by kernel_rfl) Z<|.yv (.fieldAddr Z Fx.field150_1) Z<|.yv (.load Z Fx.agg9 (.head _) Z) Z<|.yv (.app Z Z (by (try simp only [LL]);omega)) Z<|.yv (.app Z Z (by (try simp only [LL]);omega)) Z<|.m Z Z<|.yv (.indexSl Fx.sl66 Z Z (i := 0) Z (by omega) (q := o0 + 0 * 1) Z) Z<|.yv (.loadM Z Fx.agg9 m0 (k := 0) Z Z) Z<|.yv (.app Z Z (by (try simp only [LL]);omega)) Z<|.fn (tl := [_]) Z<|.a Z Z<|.nt<|.sq<|.sr<|.yv (.fieldAddr Z Fx.field150_0) Z<|.yv (.load Z Fx.agg3 (.head _) Z) Z<|.yv (.eql Z Z) Z<|.nt<|.cd Z (fun h144 => ?_) (fun h144 => ?_)
 ·try simp only [dt] at h144
  have e8 : kd = 8 := UInt8.toNat_inj.1 (by show kd.toNat = 8;omega)
  have hst : Sm.text ind (.mk kd nm hd ex th el) = diskT ind ([115,116,111,114,101,32] ++ (ex.map Ex.text).getD 0 [] ++ [32,61,32] ++ (ex.map Ex.text).getD 1 []) (decide (el.length = 0)) (Sm.texts (ind + 1) el) := by rw [stext_mk,e8,stT,if_neg (by decide),if_neg (by decide),if_neg (by decide),if_neg (by decide),if_neg (by decide),if_neg (by decide),if_neg (by decide),if_pos rfl]
  rw [hst] at hl ⊢
  have hlo : 2 ≤ ex.length := by have h5 := hfr.2.1;rw [e8] at h5;exact Nat.le_trans (by decide) h5
  obtain ⟨b1,o1,hp1,m1,d1⟩ := strE hE (i := 1) (by rw [List.length_map];omega)
  cases hp1
  refine .fl (trip := [(_,_,_),(_,_,_),(_,_,_),(_,_,_),(_,_,_),(_,_,_),(_,_,_),(_,_,_),(_,_,_)]) 9 [(0,0),(1,0),(2,0),(3,0),(4,0),(5,0),(6,0),(7,0),(8,0)] (by kernel_rfl) (by kernel_rfl) Z<|.m Z Z<|.yv (.indexSl Fx.sl66 Z Z (i := 0) Z (by omega) (q := o0 + 0 * 1) Z) Z<|.yv (.loadM Z Fx.agg9 m0 (k := 0) Z Z) Z<|.yv (.app Z Z (by (try simp only [LL]);omega)) Z<|.yv (.app Z Z (by (try simp only [LL]);omega)) Z<|.m Z Z<|.yv (.indexSl Fx.sl66 Z Z (i := 1) Z (by omega) (q := o0 + 1 * 1) Z) Z<|.yv (.loadM Z Fx.agg9 m1 (k := 0) Z Z) Z<|.yv (.app Z Z (by (try simp only [LL]);omega)) Z<|.fn (tl := [_]) Z<|.a Z Z<|.nt<|.sq<|.sr<|.yv (.fieldAddr Z Fx.field150_5) Z<|.yv (.load Z Fx.agg98 (.head _) Z) Z<|.yv (.lenSl Fx.sl98 Z) Z<|.yv (.eql Z Z) Z<|.nt<|.cd Z (fun h157 => ?_) (fun h157 => ?_)
  ·try simp only [dt] at h157
   have q : el.length = 0 := by omega
   rw [diskT,if_pos (by simpa using q)] at hl ⊢
   simp only [LL] at hl
   refine .sr<|.m Z Z<|.m Z Z<|.yv (.app Z Z (by (try simp only [LL]);omega)) Z<|.yv (.call Fx.call31 Z (fun W s => lineR_any _ _ _ (by omega) (by (try simp only [LL]);omega) W s.agr)) Z<|.a Z Z<|.nt<|.rt<|.tR<|?_
   refine Sx.ret1 (.inl rfl) rfl (.tmp rfl) fun W s => ⟨?_,s.ext⟩
   first
    | (simp only [LT];done)
    | (simp only [LT];rfl)
  try simp only [df] at h157
  have q : ¬ el.length = 0 := by omega
  rw [diskT,if_neg (by simpa using q)] at hl ⊢
  simp only [LL] at hl
  refine .sk<|.tN<|.sr<|.m Z Z<|.yv (.app Z Z (by (try simp only [LL]);omega)) Z<|.yv (.fieldAddr Z Fx.field150_5) Z<|.yv (.load Z Fx.agg98 (.head _) Z) Z<|.m Z Z<|.yv (.call Fx.call71 Z (fun W s => blockR_any H el hel _ _ _ _ _ W hs2 hf3 (by (try simp only [LL]);omega) (by omega) (by omega) (u9.agr s.agr))) Z<|.a Z Z<|.nt<|.rt<|?_
  refine Sx.ret1 (.inl rfl) rfl (.tmp rfl) fun W s => ⟨?_,s.ext⟩
  first
   | (simp only [LT];done)
   | (simp only [LT];rfl)
 try simp only [df] at h144
 have e9 : kd = 9 := UInt8.toNat_inj.1 (by show kd.toNat = 9;omega)
 have hst : Sm.text ind (.mk kd nm hd ex th el) = diskT ind ([102,101,116,99,104,32] ++ nm ++ [32,61,32] ++ (ex.map Ex.text).getD 0 []) (decide (el.length = 0)) (Sm.texts (ind + 1) el) := by rw [stext_mk,e9,stT,if_neg (by decide),if_neg (by decide),if_neg (by decide),if_neg (by decide),if_neg (by decide),if_neg (by decide),if_neg (by decide),if_neg (by decide),if_pos rfl]
 rw [hst] at hl ⊢
 have hlo : 1 ≤ ex.length := by have h5 := hfr.2.1;rw [e9] at h5;exact Nat.le_trans (by decide) h5
 refine .sk<|.tN<|.sq<|.sr<|.yv (.fieldAddr Z Fx.field150_5) Z<|.yv (.load Z Fx.agg98 (.head _) Z) Z<|.yv (.lenSl Fx.sl98 Z) Z<|.yv (.eql Z Z) Z<|.nt<|.cd Z (fun h157 => ?_) (fun h157 => ?_)
 ·try simp only [dt] at h157
  have q : el.length = 0 := by omega
  rw [diskT,if_pos (by simpa using q)] at hl ⊢
  simp only [LL] at hl
  refine .sr<|.m Z Z<|.m Z Z<|.yv (.app Z Z (by (try simp only [LL]);omega)) Z<|.yv (.call Fx.call31 Z (fun W s => lineR_any _ _ _ (by omega) (by (try simp only [LL]);omega) W s.agr)) Z<|.a Z Z<|.nt<|.rt<|.tR<|?_
  refine Sx.ret1 (.inl rfl) rfl (.tmp rfl) fun W s => ⟨?_,s.ext⟩
  first
   | (simp only [LT];done)
   | (simp only [LT];rfl)
 try simp only [df] at h157
 have q : ¬ el.length = 0 := by omega
 rw [diskT,if_neg (by simpa using q)] at hl ⊢
 simp only [LL] at hl
 refine .sk<|.tN<|.sr<|.m Z Z<|.yv (.app Z Z (by (try simp only [LL]);omega)) Z<|.yv (.fieldAddr Z Fx.field150_5) Z<|.yv (.load Z Fx.agg98 (.head _) Z) Z<|.m Z Z<|.yv (.call Fx.call71 Z (fun W s => blockR_any H el hel _ _ _ _ _ W hs2 hf3 (by (try simp only [LL]);omega) (by omega) (by omega) (u9.agr s.agr))) Z<|.a Z Z<|.nt<|.rt<|?_
 refine Sx.ret1 (.inl rfl) rfl (.tmp rfl) fun W s => ⟨?_,s.ext⟩
 first
  | (simp only [LT];done)
  | (simp only [LT];rfl)
set_option maxRecDepth 100000 in
theorem bodyR_any (H : Hp) : ∀ l : List Sm,BodyR H l := by
 refine Sm.lists fun l ih => ?_
 intro p n c ind w hs hf hl hi hA
 obtain rfl : n = l.length := by have := hs.len.1;simpa using this
 have hcap := hs.cap
 refine Sx.enter (H := H) Tryz.func107 rfl Tryz.ntmps107 rfl hA ?_
 refine .sr<|.a Z Z<|.ns<|.a Z Z<|.nt<|.sq<|.sr<|.m Z Z<|.yv (.lenSl Fx.sl98 Z) Z<|.m Z Z<|.nt<|.bk<|.lp (X := Nat) [(1,_),(8,_),(9,_)] ⟨rfl,rfl,rfl,trivial⟩ [] (fun k => [(5,strV (Sm.texts ind (l.take k))),(10,.int .i64 (k : Nat))]) (fun k => H) (fun k => []) (fun k => k ≤ l.length) (fun k => l.length - k) 0 (fun _ s => s) ⟨rfl,rfl,trivial⟩ (by omega) fun k hC => ?_
 refine .sr<|.yv (.lss Z Z) Z<|.nt<|.sq<|.cd Z (fun h11 => ?_) (fun h11 => ?_)
 ·try simp only [dt] at h11
  have hk : k < l.length := by omega
  obtain ⟨bE,oE,cE,hpE,rE,lE,mE⟩ := hs.elem (map_at (f := dSm .i64) hk)
  cases hpE
  have hf1 := salls_at hk hf
  have hle := stexts_take ind l (k + 1)
  rw [stexts_succ hk,List.length_append] at hle
  have hi2 := ih _ (List.getElem_mem hk)
  exact .sk<|.tN<|.sq<|.bk<|.sr<|.yv (.indexSl Fx.sl98 Z Z Z (by omega) (q := oE + k * 6) Z) Z<|.yv (.loadMW Z Fx.agg150 mE lE) Z<|.al Fx.zero150 Z fun b7 => .sV .head Z Z Fx.size150 lE rE.one Z<|.nt<|.rg<|.m Z Z<|.yv (.loadW Z Fx.agg150 (.head _) lE) Z<|.m Z Z<|.yv (.call Fx.call126 Z (fun W s => statementR_any H _ hi2.1 hi2.2 _ ind W rE hf1 (by omega) (by omega) s.agr)) Z<|.yv (.cast (.app Z Z (by omega)) (by rw [stexts_succ hk];rfl)) Z<|.a Z Z<|.nl<|.bN<|.tN<|.rg<|.yv (.add Z Z (w6 (by omega))) Z<|.m Z Z<|.nt<|.ag (k + 1) ⟨rfl,rfl,trivial⟩ ⟨rfl,rfl,rfl,trivial⟩ (fun _ s => s.pick [] [] Z Z) (by omega) (by omega)
 try simp only [df] at h11
 obtain rfl : k = l.length := by omega
 rw [List.take_length]
 refine .ex<|.tE<|.tE<|.bE<|.tN<|.sr<|.m Z Z<|.a Z Z<|.nt<|.rt<|?_
 refine Sx.ret1 (.inl rfl) rfl (.tmp rfl) fun W s => ⟨?_,s.ext⟩
 first
  | (rfl)
def tokRH (h : Hd) : Bool := decide (h.ps.length ≤ 1000) && Sm.alls tokR h.body
set_option maxRecDepth 100000 in
theorem handlersT_any (H : Hp) (l : List Hd) (p : Option Addr) (c ind : Nat) (w : World) (hs : Rep H (.seq 3 (l.map (dHd .i64))) [.slice p l.length c]) (hf : l.all tokRH = true) (hl : (hdsT ind l).length ≤ 10000000000000) (hA : Agr H w) :
 Calls Tryz.prog 34 #[.slice p l.length c,.int .i64 (ind : Nat)] w fun r w' => r = .returned (strV (hdsT ind l)) ∧ Ext w w' := by
 have hcap := hs.cap
 refine Sx.enter (H := H) Tryz.func34 rfl Tryz.ntmps34 rfl hA ?_
 refine .sr<|.a Z Z<|.ns<|.a Z Z<|.nt<|.sq<|.sr<|.m Z Z<|.yv (.lenSl Fx.sl97 Z) Z<|.m Z Z<|.nt<|.bk<|.lp (X := Nat) [(1,_),(8,_),(9,_)] ⟨rfl,rfl,rfl,trivial⟩ [] (fun k => [(5,strV (hdsT ind (l.take k))),(10,.int .i64 (k : Nat))]) (fun k => H) (fun k => []) (fun k => k ≤ l.length) (fun k => l.length - k) 0 (fun _ s => s) ⟨rfl,rfl,trivial⟩ (by omega) fun k hC => ?_
 refine .sr<|.yv (.lss Z Z) Z<|.nt<|.sq<|.cd Z (fun h11 => ?_) (fun h11 => ?_)
 ·try simp only [dt] at h11
  have hk : k < l.length := by omega
  obtain ⟨bE,oE,cE,hpE,rE,lE,mE⟩ := hs.elem (map_at (f := dHd .i64) hk)
  cases hpE
  have hf1 := lall_at hk hf
  have hle := hdsT_take ind l (k + 1)
  have hsu := hdsT_succ (n := ind) hk
  rw [hsu] at hle
  generalize hx : l[k] = x at rE hf1 hle hsu
  obtain ⟨q1,d1,q2,d2,rfl,hn1,hs1,hs2⟩ := hd_open rE
  simp only [tokRH,Bool.and_eq_true,decide_eq_true_eq] at hf1
  obtain ⟨hf1,hf2⟩ := hf1
  rw [hdT] at hle
  simp only [LL] at hle
  exact .sk<|.tN<|.sq<|.bk<|.sr<|.yv (.indexSl Fx.sl97 Z Z Z (by omega) (q := oE + k * 3) Z) Z<|.yv (.loadMW Z Fx.agg100 mE Z) Z<|.al Fx.zero100 Z fun b7 => .sW .head Z Z Fx.size100 (by simp [Value.oneCell',strV]) Z<|.nt<|.fl (trip := [(_,_,_),(_,_,_),(_,_,_),(_,_,_),(_,_,_),(_,_,_),(_,_,_),(_,_,_),(_,_,_),(_,_,_),(_,_,_),(_,_,_),(_,_,_),(_,_,_),(_,_,_)]) 15 [(0,0),(1,0),(2,0),(3,0),(4,0),(5,0),(6,0),(7,0),(8,0),(9,0),(10,0),(11,0),(12,0),(13,0),(14,0)] (by kernel_rfl) (by kernel_rfl) Z<|.m Z Z<|.yv (.fieldAddr Z Fx.field100_0) Z<|.yv (.load Z Fx.agg9 (.head _) Z) Z<|.yv (.app Z Z (by (try simp only [LL]);omega)) Z<|.yv (.app Z Z (by (try simp only [LL]);omega)) Z<|.yv (.fieldAddr Z Fx.field100_1) Z<|.yv (.load Z Fx.agg66 (.head _) Z) Z<|.yv (.call Fx.call72 Z (fun W s => listR_any H _ _ _ W hs1 (by omega) s.agr)) Z<|.yv (.app Z Z (by (try simp only [LL]);omega)) Z<|.yv (.app Z Z (by (try simp only [LL]);omega)) Z<|.yv (.fieldAddr Z Fx.field100_2) Z<|.yv (.load Z Fx.agg98 (.head _) Z) Z<|.m Z Z<|.yv (.call Fx.call71 Z (fun W s => blockR_any H _ (bodyR_any H _) _ _ _ _ _ W hs2 hf2 (by (try simp only [LL]);omega) (by omega) (by omega) s.agr)) Z<|.yv (.cast (.app Z Z (by (try simp only [LL]);omega)) (by rw [hsu,hdT];simp only [LT];rfl)) Z<|.fn (tl := [_]) Z<|.a Z Z<|.nl<|.bN<|.tN<|.rg<|.yv (.add Z Z (w6 (by omega))) Z<|.m Z Z<|.nt<|.ag (k + 1) ⟨rfl,rfl,trivial⟩ ⟨rfl,rfl,rfl,trivial⟩ (fun _ s => s.pick [] [] Z Z) (by omega) (by omega)
 try simp only [df] at h11
 obtain rfl : k = l.length := by omega
 rw [List.take_length]
 refine .ex<|.tE<|.tE<|.bE<|.tN<|.sr<|.m Z Z<|.a Z Z<|.nt<|.rt<|?_
 refine Sx.ret1 (.inl rfl) rfl (.tmp rfl) fun W s => ⟨?_,s.ext⟩
 first
  | (rfl)
theorem Fx.call32 : callN Tryz.prog 32 = Bool.true := by kernel_rfl
theorem Fx.call34 : callN Tryz.prog 34 = Bool.true := by kernel_rfl
end Go.Proofs.YtmbiojpcidccjaaGreatDoor
