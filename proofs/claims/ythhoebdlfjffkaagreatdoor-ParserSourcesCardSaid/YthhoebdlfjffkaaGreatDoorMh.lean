/- Texts of the proof, one behind the other. -/
import Derived.Test.YthhoebdlfjffkaaGreatDoorMg
import Derived.Test.YthhoebdlfjffkaaGreatDoorTie
import Derived.ProofKit
import Derived.OpenShut
import Derived.ShutString
import Derived.Lay
import Derived.Stop.LaidErr
import Derived.Stop.Joined
import Derived.Shelf.Vars
import Derived.Lib.LaidTab
import Derived.Lib.SmallJoins
import Derived.SevenTiedAt
set_option linter.all false
namespace Go.Proofs.YthhoebdlfjffkaaGreatDoor
open Go.RowKit Go.Par Go.Sx
set_option maxHeartbeats 2000000 in
set_option maxRecDepth 100000 in
theorem syntax_sy (N : Nat) (hN : N ≤ 1000000) (H : Hp) (f : Ft) (hok : syFt N f) (cs : List Value) (w : World) (h : Rep H (dFt .i64 f) cs) (hA : Agr H w) :
 Calls Tryz.prog 34 #[.agg cs.toArray] w fun r w' => ∃ (y : List Value) (H' : Hp),Rep H' (dFt .u8 f) y ∧ r = .returned (.agg y.toArray) ∧ Grow H w H' w' := by
 obtain ⟨p1,c1,p2,c2,p3,c3,rfl,nf,k1,k2,k3⟩ := ft_open h
 have hcap1 := k1.cap
 have hcap2 := k2.cap
 have hcap3 := k3.cap
 have hfl := hok.flags
 have hll := hok.links
 have hcl := hok.comps
 refine Sx.enter (H := H) Tryz.func34 rfl Tryz.ntmps34 rfl hA ?_
 refine .sr<|.bx Z Z Z fun b1 => .al Fx.zero49 Z fun b2 => .ns<|.yv (.fieldAddr Z Fx.field85_0) Z<|.yv (.load Z Fx.agg9 (.tail _<|.head _) Z) Z<|.yv (.build Z (Fx.bld49_0 _)) Z<|.al Fx.zero49 Z fun b3 => .sW .head Z Z Fx.size49 (by simp [Value.oneCell',strV]) Z<|.nt<|.sq<|.sr<|.yv (.fieldAddr Z Fx.field85_1) Z<|.yv (.load Z Fx.agg81 (.tail _<|.tail _<|.head _) Z) Z<|.yv (.lenSl Fx.sl81 Z) Z<|.m Z Z<|?_
 refine Sx.row0 102 2 ?_
 refine .nt<|.bk<|.lp (X := Nat × Value × List Value) [(1,_),(2,_),(3,_),(22,_),(23,_)] ⟨rfl,rfl,rfl,rfl,rfl,trivial⟩ [_,_] (fun z => [(24,.int .i64 (z.1 : Nat))]) (fun z => H) (fun z => [.row 102 2 z.2.1 z.1 z.2.2,.box b3 [strV f.nm,z.2.1,.slice none 0 0,.slice none 0 0] 49]) (fun z => z.1 ≤ f.flags.length ∧ RepZ H 2 ((f.flags.take z.1).map dFg) z.2.2) (fun z => f.flags.length - z.1) (0,.slice none 0 0,[]) (fun _ s => s) ⟨rfl,trivial⟩ ⟨by simp,RepZ.nil⟩ fun z hC => ?_
 obtain ⟨k,r,xs⟩ := z
 dsimp only at hC ⊢
 obtain ⟨hk0,hz⟩ := hC
 refine .sr<|.yv (.lss Z Z) Z<|.nt<|.sq<|.cd Z (fun h25 => ?_) (fun h25 => ?_)
 ·try simp only [dt] at h25
  have hk : k < f.flags.length := by omega
  obtain ⟨bE,oE,cE,hpE,rE,lE,mE⟩ := k1.elem (map_at (f := dFg) hk)
  cases hpE
  generalize hx : f.flags[k] = x at rE
  obtain ⟨rfl,nx⟩ := fg_open rE
  exact .sk<|.tN<|.sq<|.bk<|.sr<|.yv (.indexSl Fx.sl81 Z Z Z (by omega) (q := oE + k * 2) Z) Z<|.yv (.loadMW Z Fx.agg141 mE Z) Z<|.al Fx.zero141 Z fun b5 => .sW .head Z Z Fx.size141 (by simp [Value.oneCell',strV]) Z<|.nt<|.rg<|.yv (.fieldAddr Z Fx.field49_1) Z<|.yv (.load Z Fx.agg45 (.tail _<|.tail _<|.head _) Z) Z<|.yv (.fieldAddr Z Fx.field141_0) Z<|.yv (.load Z Fx.agg9 (.head _) Z) Z<|.yv (.fieldAddr Z Fx.field141_1) Z<|.yv (.load Z Fx.agg4 (.head _) Z) Z<|.yv (.build Z (Fx.bld102_0_1 _ _)) Z<|.bl Z (Fx.bsl45_1 _ _) Z fun b35 => .ap (news := [strV x.nm,.bool x.init]) Fx.row45 Z (fun _ => (.tail<|.tail<|.head)) Z (.box (.head _) z0) Z (by simp [Value.oneCell',strV]) (by simp [maxLen];omega) (by omega) Z fun r36 _ => .ra (.tail _<|.tail _<|.head _) fun p36 c36 e36 => .yv (.fieldAddr Z Fx.field49_1) Z<|.st (.tail<|.tail<|.tail<|.head) Z Z Fx.size45 (by rw [e36];rfl) (nb Z) Z<|.nl<|.bN<|.tN<|.rg<|.yv (.add Z Z (w6 (by omega))) Z<|.m Z Z<|.nt<|.ag (x := (k,r,xs)) (k + 1,r36,xs ++ [strV x.nm,.bool x.init]) ⟨rfl,trivial⟩ ⟨rfl,rfl,rfl,rfl,rfl,trivial⟩ (fun _ s => (s.pick [2,3,4,5] _ Z Z)) ⟨by dsimp only;omega,by dsimp only;rw [take_snoc hk,hx,List.map_append];exact hz.snoc (fg_shut (x := x) nx) Z⟩ (by dsimp only;omega)
 try simp only [df] at h25
 obtain rfl : k = f.flags.length := by omega
 rw [List.take_length] at hz
 refine Sx.freezeSeq (ds := f.flags.map dFg) (by simp) hz fun H4 p4 c4 u4 e4 h4 => ?_
 subst e4
 refine .ex<|.tE<|.tE<|.bE<|.tN<|.sq<|.sr<|.yv (.fieldAddr Z Fx.field85_2) Z<|.yv (.load Z Fx.agg82 (.tail _<|.tail _<|.head _) Z) Z<|.yv (.lenSl Fx.sl82 Z) Z<|.m Z Z<|?_
 refine Sx.row0 105 3 ?_
 have k24 := k2.up u4.up
 refine .nt<|.bk<|.lp (X := Nat × Value × List Value) [(1,_),(2,_),(3,_),(40,_),(41,_)] ⟨rfl,rfl,rfl,rfl,rfl,trivial⟩ [_,_] (fun z => [(42,.int .i64 (z.1 : Nat))]) (fun z => H4) (fun z => [.row 105 3 z.2.1 z.1 z.2.2,.box b3 [strV f.nm,.slice p4 f.flags.length c4,z.2.1,.slice none 0 0] 49]) (fun z => z.1 ≤ f.links.length ∧ RepZ H4 3 ((f.links.take z.1).map dLk) z.2.2) (fun z => f.links.length - z.1) (0,.slice none 0 0,[]) (fun _ s => s) ⟨rfl,trivial⟩ ⟨by simp,RepZ.nil⟩ fun z hC => ?_
 obtain ⟨k,r,xs⟩ := z
 dsimp only at hC ⊢
 obtain ⟨hk0,hz⟩ := hC
 refine .sr<|.yv (.lss Z Z) Z<|.nt<|.sq<|.cd Z (fun h43 => ?_) (fun h43 => ?_)
 ·try simp only [dt] at h43
  have hk : k < f.links.length := by omega
  obtain ⟨bE,oE,cE,hpE,rE,lE,mE⟩ := k24.elem (map_at (f := dLk) hk)
  cases hpE
  generalize hx : f.links[k] = x at rE
  obtain ⟨rfl,nx,nx2⟩ := lk_open rE
  exact .sk<|.tN<|.sq<|.bk<|.sr<|.yv (.indexSl Fx.sl82 Z Z Z (by omega) (q := oE + k * 3) Z) Z<|.yv (.loadMW Z Fx.agg142 mE Z) Z<|.al Fx.zero142 Z fun b7 => .sW .head Z Z Fx.size142 (by simp [Value.oneCell',strV]) Z<|.nt<|.rg<|.yv (.fieldAddr Z Fx.field49_2) Z<|.yv (.load Z Fx.agg46 (.tail _<|.tail _<|.head _) Z) Z<|.yv (.fieldAddr Z Fx.field142_0) Z<|.yv (.load Z Fx.agg9 (.head _) Z) Z<|.yv (.fieldAddr Z Fx.field142_1) Z<|.yv (.load Z Fx.agg9 (.head _) Z) Z<|.yv (.fieldAddr Z Fx.field142_2) Z<|.yv (.load Z Fx.agg3 (.head _) Z) Z<|.yv (.build Z (Fx.bld105_0_1_2 _ _ _)) Z<|.bl Z (Fx.bsl46_1 _ _ _) Z fun b55 => .ap (news := [strV x.fr,strV x.to,.int .i64 x.lat.toInt]) Fx.row46 Z (fun _ => (.tail<|.tail<|.head)) Z (.box (.head _) z0) Z (by simp [Value.oneCell',strV]) (by simp [maxLen];omega) (by omega) Z fun r56 _ => .ra (.tail _<|.tail _<|.head _) fun p56 c56 e56 => .yv (.fieldAddr Z Fx.field49_2) Z<|.st (.tail<|.tail<|.tail<|.head) Z Z Fx.size46 (by rw [e56];rfl) (nb Z) Z<|.nl<|.bN<|.tN<|.rg<|.yv (.add Z Z (w6 (by omega))) Z<|.m Z Z<|.nt<|.ag (x := (k,r,xs)) (k + 1,r56,xs ++ [strV x.fr,strV x.to,.int .i64 x.lat.toInt]) ⟨rfl,trivial⟩ ⟨rfl,rfl,rfl,rfl,rfl,trivial⟩ (fun _ s => (s.pick [2,3,4,5] _ Z Z)) ⟨by dsimp only;omega,by dsimp only;rw [take_snoc hk,hx,List.map_append];exact hz.snoc (lk_shut (x := x) nx nx2) Z⟩ (by dsimp only;omega)
 try simp only [df] at h43
 obtain rfl : k = f.links.length := by omega
 rw [List.take_length] at hz
 refine Sx.freezeSeq (ds := f.links.map dLk) (by simp) hz fun H5 p5 c5 u5 e5 h5 => ?_
 subst e5
 refine .ex<|.tE<|.tE<|.bE<|.tN<|.sq<|.sr<|.yv (.fieldAddr Z Fx.field85_3) Z<|.yv (.load Z Fx.agg83 (.tail _<|.tail _<|.head _) Z) Z<|.yv (.lenSl Fx.sl83 Z) Z<|.m Z Z<|?_
 refine Sx.row0 110 3 ?_
 have k35 := k3.up (u4.trans u5).up
 have h45 := h4.up u5.up
 refine .nt<|.bk<|.lp (X := Nat × Hp × Value × List Value) [(2,_),(3,_),(60,_),(61,_)] ⟨rfl,rfl,rfl,rfl,trivial⟩ [_,_] (fun z => [(62,.int .i64 (z.1 : Nat))]) (fun z => z.2.1) (fun z => [.row 110 3 z.2.2.1 z.1 z.2.2.2,.box b3 [strV f.nm,.slice p4 f.flags.length c4,.slice p5 f.links.length c5,z.2.2.1] 49]) (fun z => z.1 ≤ f.comps.length ∧ HUp w H5 z.2.1 ∧ RepZ z.2.1 3 ((f.comps.take z.1).map (dCp .u8)) z.2.2.2) (fun z => f.comps.length - z.1) (0,H5,.slice none 0 0,[]) (fun _ s => s) ⟨rfl,trivial⟩ ⟨by simp,.refl,RepZ.nil⟩ fun z hC => ?_
 obtain ⟨k,Ha,rc,xs⟩ := z
 dsimp only at hC ⊢
 obtain ⟨hk0,ua,hz⟩ := hC
 refine .sr<|.yv (.lss Z Z) Z<|.nt<|.sq<|.cd Z (fun h63 => ?_) (fun h63 => ?_)
 ·try simp only [dt] at h63
  have hk : k < f.comps.length := by omega
  obtain ⟨bE,oE,cE,hpE,rE,lE,mE⟩ := (k35.up ua.up).elem (map_at (f := dCp .i64) hk)
  cases hpE
  have okc := hok.all _ (List.getElem_mem hk)
  generalize hx : f.comps[k] = x at rE okc
  obtain ⟨q1,d1,q2,d2,rfl,nx,g1,g2⟩ := cp_open rE
  have hcv := g1.cap
  have hcr := g2.cap
  have hvl := okc.vars
  have hrl := okc.vers
  refine .sk<|.tN<|.sq<|.bk<|.sr<|.yv (.indexSl Fx.sl83 Z Z Z (by omega) (q := oE + k * 3) Z) Z<|.yv (.loadMW Z Fx.agg146 mE Z) Z<|.al Fx.zero146 Z fun b9 => .sW .head Z Z Fx.size146 (by simp [Value.oneCell',strV]) Z<|.ns<|.yv (.fieldAddr Z Fx.field146_0) Z<|.yv (.load Z Fx.agg9 (.head _) Z) Z<|.yv (.build Z (Fx.bld110_0 _)) Z<|.al Fx.zero110 Z fun b10 => .sW .head Z Z Fx.size110 (by simp [Value.oneCell',strV]) Z<|.nt<|.sq<|.sr<|.yv (.fieldAddr Z Fx.field146_1) Z<|.yv (.load Z Fx.agg143 (.tail _<|.head _) Z) Z<|.yv (.lenSl Fx.sl143 Z) Z<|.m Z Z<|?_
  refine Sx.row0 151 3 ?_
  refine .nt<|.bk<|.lp (X := Nat × Value × List Value) [(2,_),(3,_),(9,_),(10,_),(60,_),(61,_),(62,_),(70,_),(71,_)] ⟨rfl,rfl,rfl,rfl,rfl,rfl,rfl,rfl,rfl,trivial⟩ [_,_,_,_,_] (fun z => [(72,.int .i64 (z.1 : Nat))]) (fun z => Ha) (fun z => [.row 151 3 z.2.1 z.1 z.2.2,.box b10 [strV x.nm,z.2.1,.slice none 0 0] 110]) (fun z => z.1 ≤ x.vars.length ∧ RepZ Ha 3 ((x.vars.take z.1).map (dVr .u8)) z.2.2) (fun z => x.vars.length - z.1) (0,.slice none 0 0,[]) (fun _ s => s) ⟨rfl,trivial⟩ ⟨by simp,RepZ.nil⟩ fun z hC => ?_
  obtain ⟨j,rv,ys⟩ := z
  dsimp only at hC ⊢
  obtain ⟨hj0,hzv⟩ := hC
  refine .sr<|.yv (.lss Z Z) Z<|.nt<|.sq<|.cd Z (fun h73 => ?_) (fun h73 => ?_)
  ·try simp only [dt] at h73
   have hj : j < x.vars.length := by omega
   obtain ⟨bF,oF,cF,hpF,rF,lF,mF⟩ := g1.elem (map_at (f := dVr .i64) hj)
   cases hpF
   generalize hv : x.vars[j] = v at rF
   obtain ⟨rfl,nv⟩ := vr_open rF
   exact .sk<|.tN<|.sq<|.bk<|.sr<|.yv (.indexSl Fx.sl143 Z Z Z (by omega) (q := oF + j * 3) Z) Z<|.yv (.loadMW Z Fx.agg148 mF Z) Z<|.al Fx.zero148 Z fun b12 => .sW .head Z Z Fx.size148 (by simp [Value.oneCell',strV]) Z<|.nt<|.rg<|.yv (.fieldAddr Z Fx.field110_1) Z<|.yv (.load Z Fx.agg107 (.tail _<|.tail _<|.head _) Z) Z<|.yv (.fieldAddr Z Fx.field148_0) Z<|.yv (.load Z Fx.agg9 (.head _) Z) Z<|.yv (.fieldAddr Z Fx.field148_1) Z<|.yv (.load Z Fx.agg3 (.head _) Z) Z<|.yv (.conv Z Fx.int3 Fx.int149 (c := (v.ty.toNat : Nat)) (by have := v.ty.toNat_lt;simp only [IntKind.wrap,IntKind.signed,IntKind.bits];simp;omega)) Z<|.yv (.fieldAddr Z Fx.field148_2) Z<|.yv (.load Z Fx.agg2 (.head _) Z) Z<|.yv (.build Z (Fx.bld151_0_1_2 _ _ _)) Z<|.bl Z (Fx.bsl107_1 _ _ _) Z fun b86 => .ap (news := [strV v.nm,.int .u8 v.ty.toNat,.int .i64 v.init.toInt]) Fx.row107 Z (fun _ => (.tail<|.tail<|.head)) Z (.box (.head _) z0) Z (by simp [Value.oneCell',strV]) (by simp [maxLen];omega) (by omega) Z fun r87 _ => .ra (.tail _<|.tail _<|.head _) fun p87 c87 e87 => .yv (.fieldAddr Z Fx.field110_1) Z<|.st (.tail<|.tail<|.tail<|.head) Z Z Fx.size107 (by rw [e87];rfl) (nb Z) Z<|.nl<|.bN<|.tN<|.rg<|.yv (.add Z Z (w6 (by omega))) Z<|.m Z Z<|.nt<|.ag (x := (j,rv,ys)) (j + 1,r87,ys ++ [strV v.nm,.int .u8 v.ty.toNat,.int .i64 v.init.toInt]) ⟨rfl,trivial⟩ ⟨rfl,rfl,rfl,rfl,rfl,rfl,rfl,rfl,rfl,trivial⟩ (fun _ s => (s.pick [2,3,4,5,6,7,8] _ Z Z)) ⟨by dsimp only;omega,by dsimp only;rw [take_snoc hj,hv,List.map_append];exact hzv.snoc (vr_shut (x := v) nv) Z⟩ (by dsimp only;omega)
  try simp only [df] at h73
  obtain rfl : j = x.vars.length := by omega
  rw [List.take_length] at hzv
  refine Sx.freezeSeq (ds := x.vars.map (dVr .u8)) (by simp) hzv fun HV pV cV uV eV hV => ?_
  subst eV
  refine .ex<|.tE<|.tE<|.bE<|.tN<|.sq<|.sr<|.yv (.fieldAddr Z Fx.field146_2) Z<|.yv (.load Z Fx.agg144 (.tail _<|.head _) Z) Z<|.yv (.lenSl Fx.sl144 Z) Z<|.m Z Z<|?_
  refine Sx.row0 155 1 ?_
  refine .nt<|.bk<|.lp (X := Nat × Hp × Value × List Value) [(2,_),(3,_),(10,_),(60,_),(61,_),(62,_),(91,_),(92,_)] ⟨rfl,rfl,rfl,rfl,rfl,rfl,rfl,rfl,trivial⟩ [_,_,_,_,_] (fun z => [(93,.int .i64 (z.1 : Nat))]) (fun z => z.2.1) (fun z => [.row 155 1 z.2.2.1 z.1 z.2.2.2,.box b10 [strV x.nm,.slice pV x.vars.length cV,z.2.2.1] 110]) (fun z => z.1 ≤ x.vers.length ∧ HUp w HV z.2.1 ∧ RepZ z.2.1 1 ((x.vers.take z.1).map (dVs .u8)) z.2.2.2) (fun z => x.vers.length - z.1) (0,HV,.slice none 0 0,[]) (fun _ s => s) ⟨rfl,trivial⟩ ⟨by simp,.refl,RepZ.nil⟩ fun z hC => ?_
  obtain ⟨i,Hb,rs,ws⟩ := z
  dsimp only at hC ⊢
  obtain ⟨hi0,ub,hzs⟩ := hC
  refine .sr<|.yv (.lss Z Z) Z<|.nt<|.sq<|.cd Z (fun h94 => ?_) (fun h94 => ?_)
  ·try simp only [dt] at h94
   have hi : i < x.vers.length := by omega
   obtain ⟨bG,oG,cG,hpG,rG,lG,mG⟩ := (g2.up (uV.trans ub).up).elem (map_at (f := dVs .i64) hi)
   cases hpG
   have okv := okc.all _ (List.getElem_mem hi)
   generalize hxv : x.vers[i] = v at rG okv
   obtain ⟨pv,cv,rfl,gv⟩ := vs_open rG
   have hcw := gv.cap
   have hwl := okv.len
   refine .sk<|.tN<|.sq<|.bk<|.sr<|.yv (.indexSl Fx.sl144 Z Z (i := i) Z hi (q := oG + i * 1) Z) Z<|.yv (.loadM Z Fx.agg152 mG (k := 0) Z Z) Z<|.a Z Z<|.ns<|.al Fx.zero155 Z fun b15 => .nt<|.sq<|.sr<|.m Z Z<|.yv (.lenSl Fx.sl152 Z) Z<|.m Z Z<|?_
   refine Sx.row0 162 3 ?_
   refine .nt<|.bk<|.lp (X := Nat × Hp × Value × List Value) [(2,_),(3,_),(10,_),(15,_),(60,_),(61,_),(62,_),(91,_),(92,_),(93,_),(97,_),(98,_)] ⟨rfl,rfl,rfl,rfl,rfl,rfl,rfl,rfl,rfl,rfl,rfl,rfl,trivial⟩ [_,_,_,_,_,_,_] (fun z => [(99,.int .i64 (z.1 : Nat))]) (fun z => z.2.1) (fun z => [.row 162 3 z.2.2.1 z.1 z.2.2.2,.box b15 [z.2.2.1] 155]) (fun z => z.1 ≤ v.length ∧ HUp w Hb z.2.1 ∧ RepZ z.2.1 3 ((v.take z.1).map (dHd .u8)) z.2.2.2) (fun z => v.length - z.1) (0,Hb,.slice none 0 0,[]) (fun _ s => s) ⟨rfl,trivial⟩ ⟨by simp,.refl,RepZ.nil⟩ fun z hC => ?_
   obtain ⟨j,Hc,rh,zs⟩ := z
   dsimp only at hC ⊢
   obtain ⟨hj0,uc,hzh⟩ := hC
   refine .sr<|.yv (.lss Z Z) Z<|.nt<|.sq<|.cd Z (fun h100 => ?_) (fun h100 => ?_)
   ·try simp only [dt] at h100
    have hj : j < v.length := by omega
    obtain ⟨bI,oI,cI,hpI,rI,lI,mI⟩ := (gv.up uc.up).elem (map_at (f := dHd .i64) hj)
    cases hpI
    have okh := okv.all _ (List.getElem_mem hj)
    generalize hxh : v[j] = y at rI okh
    obtain ⟨t1,w1,t2,w2,rfl,ny,m1,m2⟩ := hd_open rI
    have hyl := okh.ps
    refine .sk<|.tN<|.sq<|.bk<|.sr<|.yv (.indexSl Fx.sl152 Z Z Z (by omega) (q := oI + j * 3) Z) Z<|.yv (.loadMW Z Fx.agg158 mI Z) Z<|.al Fx.zero158 Z fun b17 => .sW .head Z Z Fx.size158 (by simp [Value.oneCell',strV]) Z<|.nt<|?_
    refine Sx.row0 9 1 ?_
    refine .fl (trip := [(_,_,_),(_,_,_),(_,_,_),(_,_,_),(_,_,_),(_,_,_),(_,_,_),(_,_,_),(_,_,_),(_,_,_),(_,_,_),(_,_,_)]) 12 [(0,0),(1,0),(2,0),(3,0),(4,0),(5,0),(7,0),(8,0),(6,3),(9,1),(10,0),(11,1)] (by kernel_rfl) (by kernel_rfl) Z<|.yv (.fieldAddr Z Fx.field155_0) Z<|.yv (.load Z Fx.agg153 (.tail _<|.tail _<|.tail _<|.head _) Z) Z<|.yv (.fieldAddr Z Fx.field158_0) Z<|.yv (.load Z Fx.agg9 (.tail _<|.head _) Z) Z<|.yv (.fieldAddr Z Fx.field158_1) Z<|.yv (.load Z Fx.agg52 (.tail _<|.head _) Z) Z<|.yv (.fieldAddr Z Fx.field158_2) Z<|.yv (.load Z Fx.agg156 (.tail _<|.head _) Z) Z<|.apD0 Fx.row52 Z (fun _ _ => .head) Z m1 (by simp [maxLen];omega) (by omega) Z (fun _ _ => (.yv (.load Z Fx.agg156 (.tail _<|.head _) Z)<|.yv (.fieldAddr Z Fx.field158_2)<|.done (by kernel_rfl)<|.done (by kernel_rfl)<|.yv (.load Z Fx.agg9 (.tail _<|.head _) Z)<|.yv (.fieldAddr Z Fx.field158_0)<|.yv (.load Z Fx.agg153 (.tail _<|.tail _<|.tail _<|.head _) Z)<|.yv (.fieldAddr Z Fx.field155_0)<|.nl)) fun xs109 p109 c109 hz109 => .ct (X := Value) Fx.call60 Z (fun W t => bodyL_sy N hN y.body okh.body Hc _ W m2 t.agr) Z fun y112 H112 hy112 u112 => ?_
    obtain ⟨pB,cB,eB,_⟩ := hy112.sl
    simp only [List.cons.injEq,and_true,List.length_map] at eB
    subst eB
    refine .yv (.build Z (Fx.bld162_0_1_2 _ _ _ _ _ _ _)) Z<|.bl Z (Fx.bsl153_1 _ _ _) Z fun b114 => .fn (tl := [_,_,_]) Z<|.ap (news := [strV y.nm,.slice p109 y.ps.length c109,.slice pB y.body.length cB]) Fx.row153 Z (fun _ => (.tail<|.tail<|.tail<|.head)) Z (.box (.head _) z0) Z (by simp [Value.oneCell',strV]) (by simp [maxLen];omega) (by omega) Z fun r115 _ => .ra (.tail _<|.tail _<|.tail _<|.head _) fun p115 c115 e115 => .yv (.fieldAddr Z Fx.field155_0) Z<|.st (.tail<|.tail<|.tail<|.tail<|.head) Z Z Fx.size153 (by rw [e115];rfl) (nb Z) Z<|?_
    refine At.pm [1,0,2,3,4,5,6,7,8,9,10,11] [_,_,_,_,_,_,_,_,_,_,_,_] rfl rfl ?_
    refine Sx.freezeSeq (ds := y.ps.map dStr) (by simp) (RepZ.up u112.up hz109) fun HP pP cP uP eP hP => ?_
    injection eP with eP1 _ eP2
    subst eP1
    subst eP2
    exact .nl<|.bN<|.tN<|.rg<|.yv (.add Z Z (w6 (by omega))) Z<|.m Z Z<|.nt<|.ag (x := (j,Hc,rh,zs)) (j + 1,HP,r115,zs ++ [strV y.nm,.slice p109 y.ps.length c109,.slice pB y.body.length cB]) ⟨rfl,trivial⟩ ⟨rfl,rfl,rfl,rfl,rfl,rfl,rfl,rfl,rfl,rfl,rfl,rfl,trivial⟩ (fun _ s => (s.pick [2,3,4,5,6,7,8,9,10] _ Z Z)) ⟨by dsimp only;omega,uc.trans (u112.trans uP),by dsimp only;rw [take_snoc hj,hxh,List.map_append];exact (hzh.up (u112.trans uP).up).snoc (hd_shut (x := y) ny hP (hy112.up uP.up)) Z⟩ (by dsimp only;omega)
   try simp only [df] at h100
   obtain rfl : j = v.length := by omega
   rw [List.take_length] at hzh
   refine Sx.freezeSeq (ds := v.map (dHd .u8)) (by simp) hzh fun HH pH cH uH eH hH => ?_
   subst eH
   have uh := uc.trans uH
   exact .ex<|.tE<|.tE<|.bE<|.tN<|.rg<|.yv (.fieldAddr Z Fx.field110_2) Z<|.yv (.load Z Fx.agg108 (.tail _<|.tail _<|.head _) Z) Z<|.yv (.loadW Z Fx.agg155 (.head _) Z) Z<|.bl Z (Fx.bsl108_1 _) Z fun b121 => .ap (news := [.slice pH v.length cH]) Fx.row108 Z (fun _ => (.tail<|.tail<|.head)) Z (.box (.head _) z0) Z (by simp [Value.oneCell',strV]) (by simp [maxLen];omega) (by omega) Z fun r122 _ => .ra (.tail _<|.tail _<|.head _) fun p122 c122 e122 => .yv (.fieldAddr Z Fx.field110_2) Z<|.st (.tail<|.tail<|.tail<|.head) Z Z Fx.size108 (by rw [e122];rfl) (nb Z) Z<|.nl<|.bN<|.tN<|.rg<|.yv (.add Z Z (w6 (by omega))) Z<|.m Z Z<|.nt<|.ag (x := (i,Hb,rs,ws)) (i + 1,HH,r122,ws ++ [.slice pH v.length cH]) ⟨rfl,trivial⟩ ⟨rfl,rfl,rfl,rfl,rfl,rfl,rfl,rfl,trivial⟩ (fun _ s => (s.pick [2,3,4,5,6,7,8] _ Z Z)) ⟨by dsimp only;omega,ub.trans uh,by dsimp only;rw [take_snoc hi,hxv,List.map_append];exact (hzs.up uh.up).snoc hH Z⟩ (by dsimp only;omega)
  try simp only [df] at h94
  obtain rfl : i = x.vers.length := by omega
  rw [List.take_length] at hzs
  refine Sx.freezeSeq (ds := x.vers.map (dVs .u8)) (by simp) hzs fun HS pS cS uS eS hS => ?_
  subst eS
  have uX := uV.trans (ub.trans uS)
  have hVX := hV.up (ub.trans uS).up
  exact .ex<|.tE<|.tE<|.bE<|.tN<|.rg<|.yv (.fieldAddr Z Fx.field49_3) Z<|.yv (.load Z Fx.agg47 (.tail _<|.tail _<|.tail _<|.head _) Z) Z<|.yv (.loadW Z Fx.agg110 (.head _) Z) Z<|.bl Z (Fx.bsl47_1 _ _ _) Z fun b128 => .ap (news := [strV x.nm,.slice pV x.vars.length cV,.slice pS x.vers.length cS]) Fx.row47 Z (fun _ => (.tail<|.tail<|.tail<|.head)) Z (.box (.head _) z0) Z (by simp [Value.oneCell',strV]) (by simp [maxLen];omega) (by omega) Z fun r129 _ => .ra (.tail _<|.tail _<|.tail _<|.head _) fun p129 c129 e129 => .yv (.fieldAddr Z Fx.field49_3) Z<|.st (.tail<|.tail<|.tail<|.tail<|.head) Z Z Fx.size47 (by rw [e129];rfl) (nb Z) Z<|.nl<|.bN<|.tN<|.rg<|.yv (.add Z Z (w6 (by omega))) Z<|.m Z Z<|.nt<|.ag (x := (k,Ha,rc,xs)) (k + 1,HS,r129,xs ++ [strV x.nm,.slice pV x.vars.length cV,.slice pS x.vers.length cS]) ⟨rfl,trivial⟩ ⟨rfl,rfl,rfl,rfl,trivial⟩ (fun _ s => (s.pick [3,4,5,6] _ Z Z)) ⟨by dsimp only;omega,ua.trans uX,by dsimp only;rw [take_snoc hk,hx,List.map_append];exact (hz.up uX.up).snoc (cp_shut (x := x) nx hVX hS) Z⟩ (by dsimp only;omega)
 try simp only [df] at h63
 obtain rfl : k = f.comps.length := by omega
 rw [List.take_length] at hz
 refine Sx.freezeSeq (ds := f.comps.map (dCp .u8)) (by simp) hz fun HZ pZ cZ uZ eZ hZ => ?_
 subst eZ
 refine .ex<|.tE<|.tE<|.bE<|.tN<|.sr<|.yv (.loadW Z Fx.agg49 (.head _) Z) Z<|.sW (.tail<|.head) Z Z Fx.size49 (by simp [Value.oneCell',strV]) Z<|.nt<|.rt<|?_
 exact Sx.ret1 (.inl rfl) rfl (.cell rfl Fx.agg49 (.tail _<|.head _) rfl) fun W t => ⟨_,HZ,ft_shut (x := f) nf (h45.up (ua.trans uZ).up) (h5.up (ua.trans uZ).up) hZ,rfl,(u4.trans (u5.trans (ua.trans uZ))).grow t⟩
end Go.Proofs.YthhoebdlfjffkaaGreatDoor
namespace Go.Proofs.YthhoebdlfjffkaaGreatDoor
section
variable {α : Type} {N : Nat} {p : Pz α} {ok : α → Prop}
theorem Ge.manyFL {w : Str} (h : Ge N 0 p (fun _ => 0) ok) : ∀ f,Ge N 0 (gManyF w p f) List.length (fun l => ∀ x ∈ l,ok x)
 | 0 => fun r b r' hr e => by unfold gManyF at e;cases e
 | f + 1 => .alt (.bind h fun a ha => .bind (Ge.manyFL h f) fun l hl => .pure (by rw [List.length_cons];omega) fun x hx => by
  rcases List.mem_cons.1 hx with rfl | hx
  ·exact ha
  ·exact hl x hx) (.pure (Nat.zero_le _) fun x hx => by cases hx)
theorem Ge.manyL {w : Str} (h : Ge N 0 p (fun _ => 0) ok) : Ge N 0 (gMany w p) List.length (fun l => ∀ x ∈ l,ok x) := fun r b r' hr e => Ge.manyFL h _ r b r' hr e
def lenOk (N : Nat) (ok : α → Prop) (l : List α) : Prop := l.length ≤ N ∧ ∀ x ∈ l,ok x
theorem Ge.manyN {w : Str} (h : Ge N 0 p (fun _ => 0) ok) : Ge N 0 (gMany w p) (fun _ => 0) (lenOk N ok) := fun r b r' hr e => by
 obtain ⟨h1,h2⟩ := Ge.manyL h r b r' hr e
 exact ⟨by dsimp only;omega,by omega,h2⟩
theorem Ge.listL (h : Ge N 0 p (fun _ => 0) ok) : Ge N 0 (gList p) (fun l => l.length + 1) (fun l => ∀ x ∈ l,ok x) :=
 .bind (Ge.nd _) fun _ _ => .alt (.pure (by simp) fun x hx => by cases hx) (.bind h fun a ha => .bind (Ge.manyL h) fun l hl => .bind (Ge.nd _) fun _ _ => .pure (by rw [List.length_cons];omega) fun x hx => by
  rcases List.mem_cons.1 hx with rfl | hx
  ·exact ha
  ·exact hl x hx)
theorem Ge.listN (h : Ge N 0 p (fun _ => 0) ok) : Ge N 0 (gList p) (fun _ => 0) (fun l => l.length + 1 ≤ N ∧ ∀ x ∈ l,ok x) := fun r b r' hr e => by
 obtain ⟨h1,h2⟩ := Ge.listL h r b r' hr e
 dsimp only at h1
 exact ⟨by dsimp only;omega,by omega,h2⟩
end
def nrE (x : Ex) : Prop := Ex.all narrow x = true
theorem Ge.exN {N : Nat} : Ge N 0 gEx (fun _ => 0) nrE := fun r a r' hr e => by
 have := gX_depth (lv := 0) e
 exact ⟨by dsimp only;omega,gX_nar (lv := 0) e⟩
def g3L (N : Nat) (l : List Sm) : Prop := Sm.alls (okS3 N) l = true
def g3S (N : Nat) (s : Sm) : Prop := Sm.all (okS3 N) s = true
theorem g3S_mk {N : Nat} {kd : UInt8} {nm hd : Str} {ex : List Ex} {th el : List Sm} (hl : ex.length ≤ N) (h : ∀ x ∈ ex,nrE x) (h1 : g3L N th) (h2 : g3L N el) : g3S N (.mk kd nm hd ex th el) := by
 unfold g3S
 rw [sall_mk]
 have : okS3 N (.mk kd nm hd ex th el) = true := by
  unfold okS3
  rw [Bool.and_eq_true,decide_eq_true_eq,List.all_eq_true]
  exact ⟨hl,h⟩
 rw [this,h1,h2]
 rfl
section
variable {N : Nat} {b : Pz (List Sm)}
theorem Ge.blk3 {b : Pz (List Sm)} (h : Ge N 0 b Sm.counts (g3L N)) : Ge N 0 (gBlk b) Sm.counts (g3L N) :=
 .bind (Ge.nd _) fun _ _ => .bind h fun l hl => .bind (Ge.nd _) fun _ _ => .pure (by omega) hl
theorem g3L_nil : g3L N [] := by unfold g3L;rfl
theorem Ge.els3 (h : Ge N 0 b Sm.counts (g3L N)) : Ge N 0 (gEls b) Sm.counts (g3L N) := .alt (fun r a r' hr e => by have := Ge.blk3 h r a r' hr e;exact ⟨by omega,this.2⟩) (.pure (Nat.zero_le _) g3L_nil)
theorem Ge.oth3 (h : Ge N 0 b Sm.counts (g3L N)) : Ge N 0 (gOth b) Sm.counts (g3L N) := .alt (fun r a r' hr e => by have := Ge.blk3 h r a r' hr e;exact ⟨by omega,this.2⟩) (.bind (Ge.nd _) fun _ _ => .pure (Nat.zero_le _) g3L_nil)
theorem one_nr {e : Ex} (h : nrE e) : ∀ x ∈ [e],nrE x := fun x hx => by rw [List.mem_singleton.1 hx];exact h
theorem two_nr {e f : Ex} (h : nrE e) (k : nrE f) : ∀ x ∈ [e,f],nrE x := fun x hx => by
 rcases List.mem_cons.1 hx with rfl | hx
 ·exact h
 ·rw [List.mem_singleton.1 hx];exact k
theorem no_nr : ∀ x ∈ ([] : List Ex),nrE x := fun x hx => by cases hx
theorem Ge.st3 (hN : 2 ≤ N) (h : Ge N 0 b Sm.counts (g3L N)) : Ge N 0 (gSt b) Sm.count (g3S N) := by
 have z0 : ([] : List Ex).length ≤ N := Nat.zero_le _
 have z1 : ∀ e : Ex,[e].length ≤ N := fun e => by simp;omega
 have z2 : ∀ e f : Ex,[e,f].length ≤ N := fun e f => by simp;omega
 exact .alt (.bind Ge.exN fun e he => .bind (Ge.blk3 h) fun t ht => .bind (Ge.els3 h) fun l hl => .pure (by rw [scount_mk];omega) (g3S_mk (z1 _) (one_nr he) ht hl))<|.alt (.bind Ge.exN fun e he => .bind (Ge.blk3 h) fun t ht => .pure (by rw [scount_mk];simp [Sm.counts];omega) (g3S_mk (z1 _) (one_nr he) ht g3L_nil))<|.alt (.bind Ge.exN fun e he => .bind (Ge.nd _) fun _ _ => .bind Ge.exN fun f hf => .bind (Ge.oth3 h) fun l hl => .pure (by rw [scount_mk];simp [Sm.counts];omega) (g3S_mk (z2 _ _) (two_nr he hf) g3L_nil hl))<|.alt (.bind Ge.nm fun n _ => .bind (Ge.nd _) fun _ _ => .bind Ge.exN fun f hf => .bind (Ge.oth3 h) fun l hl => .pure (by rw [scount_mk];simp [Sm.counts];omega) (g3S_mk (z1 _) (one_nr hf) g3L_nil hl))<|.alt (.bind Ge.nm fun n _ => .bind (Ge.nd _) fun _ _ => .bind Ge.nm fun g _ => .bind (Ge.listN Ge.exN) fun l hl => .bind (Ge.nd _) fun _ _ => .pure (by rw [scount_mk];simp [Sm.counts]) (g3S_mk (by omega) hl.2 g3L_nil g3L_nil))<|.alt (.bind Ge.exN fun e he => .bind (Ge.nd _) fun _ _ => .bind Ge.nm fun g _ => .bind (Ge.listN Ge.exN) fun l hl => .bind (Ge.nd _) fun _ _ => .pure (by rw [scount_mk];simp [Sm.counts]) (g3S_mk hl.1 (fun x hx => by
  rcases List.mem_cons.1 hx with rfl | hx
  ·exact he
  ·exact hl.2 x hx) g3L_nil g3L_nil))<|.alt (.bind (Ge.nd _) fun _ _ => .pure (by rw [scount_mk];simp [Sm.counts]) (g3S_mk z0 no_nr g3L_nil g3L_nil))<|.alt (.bind Ge.nm fun n _ => .bind (Ge.nd _) fun _ _ => .bind Ge.exN fun e he => .bind (Ge.nd _) fun _ _ => .bind (Ge.nd _) fun _ _ => .pure (by rw [scount_mk];simp [Sm.counts]) (g3S_mk (z1 _) (one_nr he) g3L_nil g3L_nil))<|.bind Ge.nm fun n _ => .alt (.bind Ge.exN fun e he => .bind (Ge.nd _) fun _ _ => .bind (Ge.nd _) fun _ _ => .bind Ge.exN fun f hf => .bind (Ge.nd _) fun _ _ => .pure (by rw [scount_mk];simp [Sm.counts]) (g3S_mk (z2 _ _) (two_nr he hf) g3L_nil g3L_nil))
  (.bind (Ge.nd _) fun _ _ => .bind Ge.exN fun f hf => .bind (Ge.nd _) fun _ _ => .pure (by rw [scount_mk];simp [Sm.counts]) (g3S_mk (z1 _) (one_nr hf) g3L_nil g3L_nil))
theorem Ge.bF3 (hN : 2 ≤ N) : ∀ f,Ge N 0 (gBF f) Sm.counts (g3L N)
 | 0 => fun r b r' hr e => by unfold gBF at e;cases e
 | f + 1 => fun r b r' hr e => by
  unfold gBF at e
  split at e
  ·injection e with e1 e2;subst e1 e2;exact ⟨by simp [Sm.counts],g3L_nil⟩
  ·obtain ⟨s,q,k1,k2⟩ := Rs.bind_ok e
   obtain ⟨l,q2,k3,k4⟩ := Rs.bind_ok k2
   injection k4 with k4 k5
   subst k4 k5
   obtain ⟨h1,h2⟩ := Ge.st3 hN (Ge.bF3 hN f) r s q hr k1
   obtain ⟨h3,h4⟩ := Ge.bF3 hN f q l q2 (by omega) k3
   refine ⟨by simp only [Sm.counts];omega,?_⟩
   unfold g3L g3S at *
   simp [Sm.alls,h2,h4]
theorem Ge.allB3 (hN : 2 ≤ N) : Ge N 0 gB Sm.counts (g3L N) := fun r b r' hr e => Ge.bF3 hN _ r b r' hr e
theorem Ge.blkN3 (hN : 2 ≤ N) : Ge N 0 (gBlk gB) (fun _ => 0) (fun l => g3L N l ∧ Sm.counts l ≤ N) := fun r a r' hr e => by
 obtain ⟨h1,h2⟩ := Ge.blk3 (Ge.allB3 hN) r a r' hr e
 exact ⟨by dsimp only;omega,h2,by omega⟩
theorem Ge.nm0 : Ge N 0 gNm (fun _ => 0) (fun _ => True) := Ge.any Suf.nm
theorem Ge.hd3 (hN : 2 ≤ N) : Ge N 0 gHd (fun _ => 0) (syHd N) :=
 .bind (Ge.any Suf.nm) fun n _ => .bind (Ge.listN Ge.nm0) fun l hl => .bind (Ge.blkN3 hN) fun b hb => .pure (Nat.zero_le _) ⟨by have := hl.1;show l.length ≤ N;omega,hb.2,Nat.le_trans (sdeep_le b) hb.2,hb.1⟩
theorem Ge.vs3 (hN : 2 ≤ N) : Ge N 0 gVs (fun _ => 0) (syV2 N) := fun r a r' hr e => by
 obtain ⟨h1,h2⟩ := Ge.manyN (Ge.hd3 hN) r a r' hr e
 exact ⟨h1,h2.1,h2.2⟩
theorem Ge.vn3 (hN : 2 ≤ N) (w : Str) : Ge N 0 (gVn w) (fun _ => 0) (syV2 N) :=
 .bind (Ge.nn _) fun _ _ => .bind (Ge.nd _) fun _ _ => .bind (Ge.vs3 hN) fun v hv => .bind (Ge.nd _) fun _ _ => .pure (Nat.zero_le _) hv
theorem Ge.vm3 (hN : 2 ≤ N) : Ge N 0 gVm (fun _ => 0) (fun l => l.length ≤ 2 ∧ ∀ v ∈ l,syV2 N v) :=
 .alt (.bind (Ge.vn3 hN _) fun v hv => .alt (.bind (Ge.vn3 hN _) fun w hw => .pure (Nat.zero_le _) ⟨by simp,fun x hx => by
  rcases List.mem_cons.1 hx with rfl | hx
  ·exact hv
  ·rw [List.mem_singleton.1 hx];exact hw⟩) (.pure (Nat.zero_le _) ⟨by simp,fun x hx => by rw [List.mem_singleton.1 hx];exact hv⟩)) (.pure (Nat.zero_le _) ⟨by simp,fun x hx => by cases hx⟩)
theorem Ge.cp3 (hN : 3 ≤ N) : Ge N 0 gCp (fun _ => 0) (syCp N) :=
 .bind (Ge.any Suf.nm) fun n _ => .bind (Ge.nd _) fun _ _ => .bind (Ge.manyN (Ge.any Suf.vr)) fun vs hvs => .bind (Ge.vs3 (by omega)) fun v hv => .bind (Ge.vm3 (by omega)) fun l hl => .bind (Ge.nd _) fun _ _ => .pure (Nat.zero_le _) ⟨hvs.1,by show (v :: l).length ≤ N;rw [List.length_cons];have := hl.1;omega,fun x hx => by
  rcases List.mem_cons.1 hx with rfl | hx
  ·exact hv
  ·exact hl.2 x hx⟩
theorem Ge.ft3 (hN : 3 ≤ N) : Ge N 0 gFt (fun _ => 0) (syFt N) :=
 .bind (Ge.nd _) fun _ _ => .bind (Ge.any Suf.nm) fun n _ => .bind (Ge.nd _) fun _ _ => .bind (Ge.manyN (Ge.any Suf.fg)) fun fs hf => .bind (Ge.manyN (Ge.any Suf.lk)) fun ls hl => .bind (Ge.manyN (Ge.cp3 hN)) fun cs hc => .bind (Ge.nd _) fun _ _ => .pure (Nat.zero_le _) ⟨hf.1,hl.1,hc.1,hc.2⟩
end
theorem sy_of {t : Str} {f : Ft} (hx : vl gFt (sg0 t) f) (h : (sgZ gFt t).e = 0) : syFt 20000 f := by
 obtain ⟨⟨a,ha⟩,_⟩ := sgZ_zero Cz.ft h
 have h0 : (sg0 t).e = 0 := by
  by_cases k : 20000 < t.length
  ·exfalso
   have e0 : sg0 t = ⟨[],3,0⟩ := by unfold sg0;rw [if_pos k]
   unfold sgZ at h
   rw [e0,up_er (by decide)] at h
   unfold Sg.cl at h
   rw [if_pos rfl] at h
   exact absurd (show (3 : Nat) = 0 from h) (by decide)
  ·unfold sg0;rw [if_neg k]
 rw [hx h0 a [] ha]
 refine (Ge.ft3 (N := 20000) (by decide) _ a [] ?_ ha).2
 unfold sg0
 split
 ·simp
 ·have := lexR_len t
  show (lexR t).length ≤ 20000
  omega
end Go.Proofs.YthhoebdlfjffkaaGreatDoor
namespace Go.Proofs.YthhoebdlfjffkaaGreatDoor
open Go.RowKit Go.Par Go.Sx
theorem Fx.call16 : callN Tryz.prog 16 = Bool.true := by kernel_rfl
theorem Fx.call20 : callN Tryz.prog 20 = Bool.true := by kernel_rfl
theorem Fx.call33 : callN Tryz.prog 33 = Bool.true := by kernel_rfl
theorem Fx.call34 : callN Tryz.prog 34 = Bool.true := by kernel_rfl
def zF : Ft := ⟨[],[],[],[]⟩
theorem zf_rep {k : IntKind} (H : Hp) : Rep H (dFt k zF) [.string ⟨#[]⟩,.slice none 0 0,.slice none 0 0,.slice none 0 0] := ft_shut (x := zF) (by decide) (Rep.empty (p := none) (c := 0) (by decide)) (Rep.empty (p := none) (c := 0) (by decide)) (Rep.empty (p := none) (c := 0) (by decide))
noncomputable def pzT (t : Str) (a : Ft) : Ft := if (sgZ gFt t).e = 0 ∧ checkF a = 0 then a else zF
noncomputable def rfT (t : Str) (a : Ft) : Ft := if (sgZ gFt t).e = 0 then a else zF
theorem pzR_rep {H : Hp} {t : Str} {a : Ft} {cs : List Value} (h : Rep H (dFt .u8 a) cs) : Rep H (dFt .u8 (pzT t a)) (pzR t a cs) := by
 unfold pzT pzR
 split
 ·exact h
 ·exact zf_rep H
theorem rfR_rep {H : Hp} {t : Str} {a : Ft} {cs : List Value} (h : Rep H (dFt .i64 a) cs) : Rep H (dFt .i64 (rfT t a)) (rfR t cs) := by
 unfold rfT rfR
 split
 ·exact h
 ·exact zf_rep H
theorem eqf_same (H : Hp) (a : Ft) (ca cb : List Value) (w : World) (ha : Rep H (dFt .u8 a) ca) (hb : Rep H (dFt .u8 a) cb) (hA : Agr H w) : Calls Tryz.prog 20 #[.agg ca.toArray,.agg cb.toArray] w fun r w' => r = .returned (.bool true) ∧ Ext w w' :=
 (equal_any H a a ca cb w ha hb hA).mono fun e W' ⟨h1,h2⟩ => ⟨by rw [h1,eqP_iff.2 rfl],h2⟩
set_option maxRecDepth 100000 in
theorem parsed_any (H : Hp) (G : Gl H) (t : Str) (ht : t.length ≤ 9223372036854775807) (w : World) (hA : Agr H w) : Calls Tryz.prog 16 #[strV t] w fun r w' => r = .returned (.bool true) ∧ Ext w w' := by
 refine Sx.enter (H := H) Tryz.func16 rfl Tryz.ntmps16 rfl hA ?_
 refine .sr<|.a Z Z<|.ns<|.m Z Z<|.cs (X := Ft × List Value × Hp) Fx.call19 Z (fun W s => parse_any G t ht s) Z fun z1 hz1 => ?_
 obtain ⟨a1,c1,H1⟩ := z1
 obtain ⟨hv1,u1,r1⟩ := hz1
 dsimp only at hv1 u1 r1 ⊢
 have r1 := pzR_rep (t := t) r1
 obtain ⟨y2,y3,y4,ey⟩ := ft_len4 r1
 rw [ey] at r1 ⊢
 refine .m Z Z<|.yv (.extract Z Z) Z<|.yv (.extract Z Z) Z<|.yv (.extract Z Z) Z<|.al Fx.zero49 Z fun b3 => .sW .head Z Z Fx.size49 (Rep.one r1) Z<|.a Z Z<|.a Z Z<|.ns<|.m Z Z<|.cs (X := Ft × List Value × Hp) Fx.call33 Z (fun W s => parseR_st t ht s) Z fun z2 hz2 => ?_
 obtain ⟨a2,c2,H2⟩ := z2
 obtain ⟨hv2,u2,r2⟩ := hz2
 dsimp only at hv2 u2 r2 ⊢
 have r2 := rfR_rep (t := t) r2
 obtain ⟨w2,w3,w4,ew⟩ := ft_len4 r2
 rw [ew] at r2 ⊢
 refine .m Z Z<|.yv (.extract Z Z) Z<|.yv (.extract Z Z) Z<|.yv (.extract Z Z) Z<|.al Fx.zero85 Z fun b6 => .sW .head Z Z Fx.size85 (Rep.one r2) Z<|.a Z Z<|.a Z Z<|.nt<|.sq<|.sr<|.m Z Z<|.yv (.neq Z Z) Z<|.nt<|.cd Z (fun h24 => ?_) (fun h24 => ?_)
 ·try simp only [dt] at h24
  have hZ : ¬ (sgZ gFt t).e = 0 := by omega
  have hE : pzE t a1 = (sgZ gFt t).e := if_neg hZ
  have hO : pzO t a1 = (sgZ gFt t).o := if_neg (fun h => hZ h.1)
  have hX : rfO t = (sgZ gFt t).o := if_neg hZ
  rw [show pzT t a1 = zF from if_neg (fun h => hZ h.1)] at r1 ⊢
  refine .sr<|.m Z Z<|.m Z Z<|.yv (.cast (.eql Z Z) (congrArg Value.bool (decide_eq_true (by rw [hE])))) Z<|.m Z Z<|.gd Z Z<|.yv (.move Z) Z<|.gd Z Z<|.yv (.move Z) Z<|.gd Z Z<|.yv (.cast (.eql Z Z) (congrArg Value.bool (decide_eq_true (by rw [hO,hX])))) Z<|.yv (.pickT Z Z) Z<|.m Z Z<|.gd Z Z<|.yv (.loadW Z Fx.agg49 (.tail _<|.head _) Z) Z<|.gd Z Z<|.yv (.build Z Fx.bld49) Z<|.gd Z Z<|.yv (.call Fx.call20 Z (fun W s => eqf_same _ zF _ _ W (r1.up u2.up) (zf_rep _) s.agr)) Z<|.yv (.pickT Z Z) Z<|.a Z Z<|.nt<|.rt<|.tR<|?_
  exact Sx.ret1 (.inl rfl) rfl (.tmp rfl) fun W s => ⟨rfl,s.ext⟩
 try simp only [df] at h24
 have hZ : (sgZ gFt t).e = 0 := by omega
 obtain ⟨_,hZo⟩ := sgZ_zero Cz.ft hZ
 obtain rfl : a1 = a2 := sgZ_ok hv1 hv2 Cz.ft hZ
 rw [show rfT t a1 = a1 from if_pos hZ] at r2 ⊢
 refine .sk<|.tN<|.sr<|.yv (.loadW Z Fx.agg85 (.head _) Z) Z<|.ct (X := List Value) Fx.call34 Z (fun W s => syntax_sy 20000 (by decide) H2 a1 (sy_of hv1 hZ) _ W r2 s.agr) Z fun c3 H3 r3 u3 => ?_
 obtain ⟨z2,z3,z4,rfl⟩ := ft_len4 r3
 refine .al Fx.zero49 Z fun b9 => .sW .head Z Z Fx.size49 (Rep.one r3) Z<|.nt<|.sq<|.sr<|.yv (.loadW Z Fx.agg49 (.head _) Z) Z<|.yv (.call Fx.call35 Z (fun W s => check_any H3 (((G.up u1.up).up u2.up).up u3.up) a1 _ r3 (hok_of hv1 hZ) W s.agr)) Z<|.a Z Z<|.ns<|.m Z Z<|.yv (.neq Z Z) Z<|.nt<|.cd Z (fun h43 => ?_) (fun h43 => ?_)
 ·try simp only [dt] at h43
  have hck : ¬ checkF a1 = 0 := by omega
  have hE : pzE t a1 = checkF a1 := if_pos hZ
  have hO : pzO t a1 = 0 := by unfold pzO;rw [if_neg (fun h => hck h.2),hZo]
  rw [show pzT t a1 = zF from if_neg (fun h => hck h.2)] at r1 ⊢
  refine .sr<|.m Z Z<|.m Z Z<|.yv (.cast (.eql Z Z) (congrArg Value.bool (decide_eq_true (by rw [hE])))) Z<|.m Z Z<|.gd Z Z<|.yv (.move Z) Z<|.gd Z Z<|.yv (.cast (.eql Z Z) (congrArg Value.bool (decide_eq_true (by rw [hO];rfl)))) Z<|.yv (.pickT Z Z) Z<|.m Z Z<|.gd Z Z<|.yv (.loadW Z Fx.agg49 (.tail _<|.tail _<|.head _) Z) Z<|.gd Z Z<|.yv (.build Z Fx.bld49) Z<|.gd Z Z<|.yv (.call Fx.call20 Z (fun W s => eqf_same _ zF _ _ W (r1.up (u2.trans u3).up) (zf_rep _) s.agr)) Z<|.yv (.pickT Z Z) Z<|.a Z Z<|.nt<|.rt<|.tR<|?_
  exact Sx.ret1 (.inl rfl) rfl (.tmp rfl) fun W s => ⟨rfl,s.ext⟩
 try simp only [df] at h43
 have hck : checkF a1 = 0 := by omega
 have hE : pzE t a1 = 0 := by unfold pzE;rw [if_pos hZ,hck]
 have hO : pzO t a1 = 0 := if_pos ⟨hZ,hck⟩
 rw [show pzT t a1 = a1 from if_pos ⟨hZ,hck⟩] at r1 ⊢
 refine .sk<|.tN<|.sr<|.m Z Z<|.yv (.cast (.eql Z Z) (congrArg Value.bool (decide_eq_true (by rw [hE];rfl)))) Z<|.m Z Z<|.gd Z Z<|.yv (.move Z) Z<|.gd Z Z<|.yv (.cast (.eql Z Z) (congrArg Value.bool (decide_eq_true (by rw [hO];rfl)))) Z<|.yv (.pickT Z Z) Z<|.m Z Z<|.gd Z Z<|.yv (.loadW Z Fx.agg49 (.tail _<|.tail _<|.head _) Z) Z<|.gd Z Z<|.yv (.loadW Z Fx.agg49 (.head _) Z) Z<|.gd Z Z<|.yv (.call Fx.call20 Z (fun W s => eqf_same _ a1 _ _ W (r1.up (u2.trans u3).up) r3 s.agr)) Z<|.yv (.pickT Z Z) Z<|.a Z Z<|.nt<|.rt<|?_
 exact Sx.ret1 (.inl rfl) rfl (.tmp rfl) fun W s => ⟨rfl,s.ext⟩
set_option maxRecDepth 100000 in
theorem parserSources_any (H : Hp) (G : Gl H) (t : Str) (w : World) (hA : Agr H w) : Calls Tryz.prog 4 #[strV t] w fun r w' => r = .returned (.bool true) ∧ Ext w w' := by
 refine Sx.enter (H := H) Tryz.func4 rfl Tryz.ntmps4 rfl hA ?_
 refine .sr<|.a Z Z<|.ns<|.yv (.call Fx.call9 Z (fun W s => awake_any H G W s.agr)) Z<|.m Z Z<|.gd Z Z<|.yv (.move Z) Z<|.gd Z Z<|.yv (.call Fx.call10 Z (fun W s => short_any t W)) Z<|.gd Z Z<|.yv (.call Fx.call16 Z (fun W s => parsed_any H G _ (by rw [List.length_take];omega) W s.agr)) Z<|.yv (.pickT Z Z) Z<|.a Z Z<|.nt<|.rt<|?_
 exact Sx.ret1 (.inl rfl) rfl (.tmp rfl) fun W s => ⟨rfl,s.ext⟩
variable {H : Type} {enc : TypeId × Value → H}
theorem wrap {a : Assume} {C : Checked} {os : Os} {f : FuncId} {fn : Func} {s : ChangeSpec} {conds : List PathCond} {apart fresh handsOn again : Bool} {X : World → Array Value → Prop}
 (hX : ∀ (w w' : World) (args : Array Value),w.heap = w'.heap → X w args → X w' args)
 (own : ownKnob C.prog.godebug = none) (started : os.Started) (noInit : C.prog.inits.idxOf? f = none) (hfn : C.prog.funcs[f]? = some fn)
 (witness : ∃ (w : World) (tape : Tape) (i : Input),w.os = os ∧ (w.forCall tape i).Shaped C.prog ∧ i.vars = [] ∧ Input.okWide C.prog (w.forCall tape i) .any w.heap.size f i ∧
  ((s.pre enc C.prog fn conds apart (w.forCall tape i).memory i.args ∧ X (w.forCall tape i).memory i.args) ∧ sizedMet enc C.prog fn (OpenSpec.ofChange s) apart (w.forCall tape i).memory i.args) ∧ a.holds C.prog (lone (Frame.enter C.prog f i.args .normal) [] (w.forCall tape i)))
 (contract : ∀ (W : World) (base : Nat) (args : Array Value) (ds gs : List (DataW H)) (before : List MemPlace),
  (∀ (j : Nat) t v,fn.params[j]? = some t → args[j]? = some v → Value.okWide C.prog W .any base t v) →
  DataW.Whole enc C.prog fn.params.toList s.vars apart W args.toList ds gs before →
  X W args → W.ShapedOpen C.prog →
  Calls C.prog f args W fun e W' => ∃ v,e = .returned v ∧ s.post enc C.prog fn apart fresh handsOn again W args v W') :
 ReturnsInHanded a C os f .any (fun w args => (s.pre enc C.prog fn conds apart w args ∧ X w args) ∧ sizedMet enc C.prog fn (OpenSpec.ofChange s) apart w args) (s.post enc C.prog fn apart fresh handsOn again) := by
 refine returnsInHanded_of_calls own started noInit witness ?_
 intro w tape i _ hsh _ hok hpre _
 obtain ⟨_,_,_,fn',hfn',_,_,_,_,hval⟩ := hok
 have e : fn' = fn := Option.some.inj (hfn'.symm.trans hfn)
 subst e
 obtain ⟨⟨⟨ds,gs,before,hw,_⟩,hx⟩,_⟩ := hpre
 have hw' := DataW.Whole.of_heap (w' := w.forCall tape i) (by rfl) hw
 refine (contract (w.forCall tape i) w.heap.size i.args ds gs before hval hw' (hX _ _ _ (by rfl) hx) hsh).mono fun e W' ⟨v,he,hp⟩ => ?_
 subst he
 exact ChangeSpec.post_blind hp

theorem own : ownKnob Tryz.prog.godebug = none := by kernel_rfl
def laids : List (String × DataW Unit) := [("rootcause/lexer.words",Rows.laid_rootcause_lexer_words),("rootcause/lexer.symbols",Rows.laid_rootcause_lexer_symbols),("rootcause/syntax.shapes",Rows.laid_rootcause_syntax_shapes),("rootcause/syntax.forms",Rows.laid_rootcause_syntax_forms)]
theorem gl_of {W : World} (h : laidMet Tryz.prog laids W) : Gl (allH W) :=
 ⟨laid_mem (t := 201) (.arr 24 (.str [.int .i64,.bool,.int .i64,.strg])) _ (by kernel_rfl) (by kernel_rfl) (by kernel_rfl) (by kernel_rfl) (by kernel_rfl) h.tail.tail,
  laid_mem (t := 257) (.arr 11 (.str [.bool,.bool,.int .i64,.int .i64,.bool,.bool])) _ (by kernel_rfl) (by kernel_rfl) (by kernel_rfl) (by kernel_rfl) (by kernel_rfl) h.tail.tail.tail,
  laid_mem (t := 242) (.arr 39 .strg) _ (by kernel_rfl) (by kernel_rfl) (by kernel_rfl) (by kernel_rfl) (by kernel_rfl) h,
  laid_mem (t := 220) (.arr 25 .strg) _ (by kernel_rfl) (by kernel_rfl) (by kernel_rfl) (by kernel_rfl) (by kernel_rfl) h.tail⟩
theorem laid_met (os : Os) (args : Array Value) : laidMet Tryz.prog laids ((World.laidAll Tryz.prog os laids).forCall (fun _ _ => 0) ⟨#[],args,[]⟩).memory :=
 laidMet_laidAll _ (by kernel_rfl) (by kernel_rfl)
theorem laid_shaped (os : Os) (args : Array Value) : ((World.laidAll Tryz.prog os laids).forCall (fun _ _ => 0) ⟨#[],args,[]⟩).Shaped Tryz.prog :=
 World.shaped_of_ZipB (by kernel_rfl) (by kernel_rfl)
theorem ext_kept {W W' : World} (h : Ext W W') : ∀ may,W.keptBut W' may := fun may => (Ext.below h).frame may
theorem laidOut : laidOutB Tryz.prog = true := by kernel_rfl
end Go.Proofs.YthhoebdlfjffkaaGreatDoor
