/- Texts of the proof, one behind the other. -/
import Derived.Test.YtmbiojpcidccjaaGreatDoorMg
import Derived.Test.YtmbiojpcidccjaaGreatDoorTie
import Derived.ProofKit
import Derived.OpenShut
import Derived.ShutString
import Derived.Lay
import Derived.Stop.LaidErr
import Derived.Stop.Joined
import Derived.Shelf.Vars
import Derived.Lib.LaidTab
import Derived.Lib.SmallJoins
import Derived.SevenTiedAt
set_option linter.all false
namespace Go.Proofs.YtmbiojpcidccjaaGreatDoor
open Go.RowKit Go.Par Go.Sx
theorem boolT_len (q : Bool) : (boolT q).length ≤ 5 := by cases q <;> decide
def okVr (v : Vr) : Prop := (v.ty.toNat = 1 ∧ v.init.toInt ≠ -9223372036854775808) ∨ (v.ty.toNat = 2 ∧ (v.init.toInt = 0 ∨ v.init.toInt = 1)) ∨ (v.ty.toNat = 3 ∧ v.init.toInt = 0)
theorem okVr_num {v : Vr} (h : okVr v) : -9223372036854775808 < v.init.toInt := by
 have := v.init.le_toInt
 rcases h with h | h | h <;> omega
theorem vrT_eq {n : Nat} {v : Vr} (h : okVr v) : vrT n v = if v.ty.toNat = 3 then lineT n [[118,97,114,32],v.nm,[58,32,116,97,98,108,101,59]] else if v.ty.toNat = 2 then lineT n [[118,97,114,32],v.nm,[58,32,98,111,111,108,32,61,32],boolT (decide (v.init.toInt = 1)),[59]] else lineT n [[118,97,114,32],v.nm,[58,32,105,110,116,32,61,32],Lib.itoa v.init.toInt,[59]] := by
 have e1 : v.ty = 1 ↔ v.ty.toNat = 1 := ⟨fun e => by rw [e];rfl,fun e => UInt8.toNat_inj.1 e⟩
 have e2 : v.ty = 2 ↔ v.ty.toNat = 2 := ⟨fun e => by rw [e];rfl,fun e => UInt8.toNat_inj.1 e⟩
 have e3 : v.ty = 3 ↔ v.ty.toNat = 3 := ⟨fun e => by rw [e];rfl,fun e => UInt8.toNat_inj.1 e⟩
 unfold vrT
 rcases h with h | h | h
 ·rw [if_pos (e1.2 h.1),if_neg (by omega),if_neg (by omega)]
 ·rw [if_neg (fun e => by have := e1.1 e;omega),if_pos (e2.2 h.1),if_neg (by omega),if_pos h.1]
 ·rw [if_neg (fun e => by have := e1.1 e;omega),if_neg (fun e => by have := e2.1 e;omega),if_pos (e3.2 h.1),if_pos h.1]
theorem rep_tail {H : Hp} {z b off n c : Nat} {ds : List D} (h : Rep H (.seq z ds) [.slice (some ⟨b,off,none⟩) n c]) (hl : 1 ≤ n) : ∃ pD cD,(.slice (some (if c = 1 then (⟨b,off,none⟩ : Addr) else ⟨b,off + 1 * z,none⟩)) (n - 1) (c - 1) : Value) = .slice pD (n - 1) cD ∧ Rep H (.seq z (ds.drop 1)) [.slice pD (n - 1) cD] := ⟨_,_,rfl,rep_drop h hl⟩
def okPr (f : Ft) : Prop := f.links.all lkB = true ∧ ∀ c ∈ f.comps,(∀ v ∈ c.vars,okVr v) ∧ 1 ≤ c.vers.length ∧ ∀ v ∈ c.vers,v.all tokRH = true
set_option maxHeartbeats 4000000 in
set_option maxRecDepth 100000 in
theorem printR_any (H : Hp) (f : Ft) (hok : okPr f) (hl : (ftT f).length ≤ 10000000000000) (cs : List Value) (w : World) (h : Rep H (dFt .i64 f) cs) (hA : Agr H w) :
 Calls Tryz.prog 12 #[.agg cs.toArray] w fun r w' => r = .returned (strV (ftT f)) ∧ Ext w w' := by
 obtain ⟨p1,c1,p2,c2,p3,c3,rfl,n00,k1,k2,k3⟩ := ft_open h
 obtain ⟨hflk,hcs⟩ := hok
 have hcap1 := k1.cap
 have hcap2 := k2.cap
 have hcap3 := k3.cap
 rw [ftT] at hl
 simp only [LL] at hl
 refine Sx.enter (H := H) Tryz.func12 rfl Tryz.ntmps12 rfl hA ?_
 refine .sr<|.bx Z Z Z fun b1 => .a Z Z<|.ns<|.yv (.fieldAddr Z Fx.field32_0) Z<|.yv (.load Z Fx.agg9 (.head _) Z) Z<|.yv (.app Z Z (by (try simp only [LL]);omega)) Z<|.yv (.app Z Z (by (try simp only [LL]);omega)) Z<|.yv (.cast (.call Fx.call31 Z (fun W s => lineR_any _ 0 _ (by omega) (by (try simp only [LL]);omega) W s.agr)) (show strV (lineT 0 [_]) = strV (lineT 0 [[102,108,101,101,116,32],f.nm,[32,123]] ++ ((f.flags.take 0).map fgT).flatten) by simp only [List.take_zero,List.map_nil];simp only [LT])) Z<|.a Z Z<|.nt<|.sq<|.sr<|.yv (.fieldAddr Z Fx.field32_1) Z<|.yv (.load Z Fx.agg28 (.head _) Z) Z<|.yv (.lenSl Fx.sl28 Z) Z<|.m Z Z<|.nt<|.bk<|.lp (X := Nat) [(1,_),(21,_),(22,_)] ⟨rfl,rfl,rfl,trivial⟩ [_] (fun k => [(3,strV (lineT 0 [[102,108,101,101,116,32],f.nm,[32,123]] ++ ((f.flags.take k).map fgT).flatten)),(23,.int .i64 (k : Nat))]) (fun k => H) (fun k => []) (fun k => k ≤ f.flags.length) (fun k => f.flags.length - k) 0 (fun _ s => s) ⟨rfl,rfl,trivial⟩ (by omega) fun k hC => ?_
 refine .sr<|.yv (.lss Z Z) Z<|.nt<|.sq<|.cd Z (fun h24 => ?_) (fun h24 => ?_)
 ·try simp only [dt] at h24
  have hk : k < f.flags.length := by omega
  obtain ⟨bE,oE,cE,hpE,rE,lE,mE⟩ := k1.elem (map_at (f := dFg) hk)
  cases hpE
  have hle := mflat_take (g := fgT) f.flags (k + 1)
  have hsu := mflat_succ (g := fgT) hk
  rw [hsu,List.length_append] at hle
  generalize hx : f.flags[k] = v at rE hle hsu
  obtain ⟨rfl,nv⟩ := fg_open rE
  rw [fgT] at hle hsu
  simp only [LL] at hle
  have hbo := boolT_len v.init
  exact .sk<|.tN<|.sq<|.bk<|.sr<|.yv (.indexSl Fx.sl28 Z Z Z (by omega) (q := oE + k * 2) Z) Z<|.yv (.loadMW Z Fx.agg84 mE Z) Z<|.al Fx.zero84 Z fun b5 => .sW .head Z Z Fx.size84 (by simp [Value.oneCell',strV]) Z<|.nt<|.fl (trip := [(_,_,_),(_,_,_),(_,_,_),(_,_,_),(_,_,_),(_,_,_),(_,_,_),(_,_,_),(_,_,_),(_,_,_),(_,_,_),(_,_,_)]) 12 [(0,0),(1,0),(2,0),(3,0),(4,0),(5,0),(6,0),(7,0),(8,0),(9,0),(10,0),(11,0)] (by kernel_rfl) (by kernel_rfl) Z<|.m Z Z<|.yv (.fieldAddr Z Fx.field84_0) Z<|.yv (.load Z Fx.agg9 (.head _) Z) Z<|.yv (.app Z Z (by (try simp only [LL]);omega)) Z<|.yv (.app Z Z (by (try simp only [LL]);omega)) Z<|.yv (.fieldAddr Z Fx.field84_1) Z<|.yv (.load Z Fx.agg4 (.head _) Z) Z<|.yv (.call Fx.call32 Z (fun W s => truthR_any H _ W s.agr)) Z<|.yv (.app Z Z (by (try simp only [LL]);omega)) Z<|.yv (.app Z Z (by (try simp only [LL]);omega)) Z<|.yv (.call Fx.call31 Z (fun W s => lineR_any _ 1 _ (by omega) (by (try simp only [LL]);omega) W s.agr)) Z<|.yv (.cast (.app Z Z (by (try simp only [LL]);omega)) (by rw [hsu];simp only [LT];rfl)) Z<|.fn (tl := [_]) Z<|.a Z Z<|.nl<|.bN<|.tN<|.rg<|.yv (.add Z Z (w6 (by omega))) Z<|.m Z Z<|.nt<|.ag (k + 1) ⟨rfl,rfl,trivial⟩ ⟨rfl,rfl,rfl,trivial⟩ (fun _ s => s.pick [1] [_] Z Z) (by omega) (by omega)
 try simp only [df] at h24
 obtain rfl : k = f.flags.length := by omega
 rw [List.take_length]
 rw [show lineT 0 [[102,108,101,101,116,32],f.nm,[32,123]] ++ (f.flags.map fgT).flatten = lineT 0 [[102,108,101,101,116,32],f.nm,[32,123]] ++ (f.flags.map fgT).flatten ++ ((f.links.take 0).map lkT).flatten by simp]
 refine .ex<|.tE<|.tE<|.bE<|.tN<|.sq<|.sr<|.yv (.fieldAddr Z Fx.field32_2) Z<|.yv (.load Z Fx.agg29 (.head _) Z) Z<|.yv (.lenSl Fx.sl29 Z) Z<|.m Z Z<|.nt<|.bk<|.lp (X := Nat) [(1,_),(41,_),(42,_)] ⟨rfl,rfl,rfl,trivial⟩ [_] (fun k => [(3,strV (lineT 0 [[102,108,101,101,116,32],f.nm,[32,123]] ++ (f.flags.map fgT).flatten ++ ((f.links.take k).map lkT).flatten)),(43,.int .i64 (k : Nat))]) (fun k => H) (fun k => []) (fun k => k ≤ f.links.length) (fun k => f.links.length - k) 0 (fun _ s => s) ⟨rfl,rfl,trivial⟩ (by omega) fun k hC => ?_
 refine .sr<|.yv (.lss Z Z) Z<|.nt<|.sq<|.cd Z (fun h44 => ?_) (fun h44 => ?_)
 ·try simp only [dt] at h44
  have hk : k < f.links.length := by omega
  obtain ⟨bE,oE,cE,hpE,rE,lE,mE⟩ := k2.elem (map_at (f := dLk) hk)
  cases hpE
  have hlb := lall_at hk hflk
  simp only [lkB,Bool.and_eq_true,decide_eq_true_eq] at hlb
  have hle := mflat_take (g := lkT) f.links (k + 1)
  have hsu := mflat_succ (g := lkT) hk
  rw [hsu,List.length_append] at hle
  generalize hx : f.links[k] = v at rE hle hsu hlb
  obtain ⟨rfl,nv,nv2⟩ := lk_open rE
  rw [lkT] at hle hsu
  simp only [LL] at hle
  have hit := itoa_len v.lat
  exact .sk<|.tN<|.sq<|.bk<|.sr<|.yv (.indexSl Fx.sl29 Z Z Z (by omega) (q := oE + k * 3) Z) Z<|.yv (.loadMW Z Fx.agg86 mE Z) Z<|.al Fx.zero86 Z fun b7 => .sW .head Z Z Fx.size86 (by simp [Value.oneCell',strV]) Z<|.nt<|.fl (trip := [(_,_,_),(_,_,_),(_,_,_),(_,_,_),(_,_,_),(_,_,_),(_,_,_),(_,_,_),(_,_,_),(_,_,_),(_,_,_),(_,_,_),(_,_,_),(_,_,_),(_,_,_),(_,_,_)]) 16 [(0,0),(1,0),(2,0),(3,0),(4,0),(5,0),(6,0),(7,0),(8,0),(9,0),(10,0),(11,0),(12,0),(13,0),(14,0),(15,0)] (by kernel_rfl) (by kernel_rfl) Z<|.m Z Z<|.yv (.fieldAddr Z Fx.field86_0) Z<|.yv (.load Z Fx.agg9 (.head _) Z) Z<|.yv (.app Z Z (by (try simp only [LL]);omega)) Z<|.yv (.app Z Z (by (try simp only [LL]);omega)) Z<|.yv (.fieldAddr Z Fx.field86_1) Z<|.yv (.load Z Fx.agg9 (.head _) Z) Z<|.yv (.app Z Z (by (try simp only [LL]);omega)) Z<|.yv (.app Z Z (by (try simp only [LL]);omega)) Z<|.yv (.fieldAddr Z Fx.field86_2) Z<|.yv (.load Z Fx.agg3 (.head _) Z) Z<|.yv (.call Fx.call33 Z (fun W s => number_any H _ (by omega) (by omega) W s.agr)) Z<|.yv (.app Z Z (by (try simp only [LL]);omega)) Z<|.yv (.app Z Z (by (try simp only [LL]);omega)) Z<|.yv (.call Fx.call31 Z (fun W s => lineR_any _ 1 _ (by omega) (by (try simp only [LL]);omega) W s.agr)) Z<|.yv (.cast (.app Z Z (by (try simp only [LL]);omega)) (by rw [hsu];simp only [LT];rfl)) Z<|.fn (tl := [_]) Z<|.a Z Z<|.nl<|.bN<|.tN<|.rg<|.yv (.add Z Z (w6 (by omega))) Z<|.m Z Z<|.nt<|.ag (k + 1) ⟨rfl,rfl,trivial⟩ ⟨rfl,rfl,rfl,trivial⟩ (fun _ s => s.pick [1] [_] Z Z) (by omega) (by omega)
 try simp only [df] at h44
 obtain rfl : k = f.links.length := by omega
 rw [List.take_length]
 rw [show lineT 0 [[102,108,101,101,116,32],f.nm,[32,123]] ++ (f.flags.map fgT).flatten ++ (f.links.map lkT).flatten = lineT 0 [[102,108,101,101,116,32],f.nm,[32,123]] ++ (f.flags.map fgT).flatten ++ (f.links.map lkT).flatten ++ ((f.comps.take 0).map cpT).flatten by simp]
 refine .ex<|.tE<|.tE<|.bE<|.tN<|.sq<|.sr<|.yv (.fieldAddr Z Fx.field32_3) Z<|.yv (.load Z Fx.agg30 (.head _) Z) Z<|.yv (.lenSl Fx.sl30 Z) Z<|.m Z Z<|.nt<|.bk<|.lp (X := Nat) [(65,_),(66,_)] ⟨rfl,rfl,trivial⟩ [_] (fun k => [(3,strV (lineT 0 [[102,108,101,101,116,32],f.nm,[32,123]] ++ (f.flags.map fgT).flatten ++ (f.links.map lkT).flatten ++ ((f.comps.take k).map cpT).flatten)),(67,.int .i64 (k : Nat))]) (fun k => H) (fun k => []) (fun k => k ≤ f.comps.length) (fun k => f.comps.length - k) 0 (fun _ s => s) ⟨rfl,rfl,trivial⟩ (by omega) fun k hC => ?_
 refine .sr<|.yv (.lss Z Z) Z<|.nt<|.sq<|.cd Z (fun h68 => ?_) (fun h68 => ?_)
 ·try simp only [dt] at h68
  have hk : k < f.comps.length := by omega
  obtain ⟨bE,oE,cE,hpE,rE,lE,mE⟩ := k3.elem (map_at (f := dCp .i64) hk)
  cases hpE
  have hc := hcs _ (List.getElem_mem hk)
  have hle := mflat_take (g := cpT) f.comps (k + 1)
  have hsu := mflat_succ (g := cpT) hk
  rw [hsu,List.length_append] at hle
  generalize hx : f.comps[k] = c at rE hle hsu hc
  obtain ⟨q1,d1,q2,d2,rfl,nc,g1,g2⟩ := cp_open rE
  obtain ⟨hv1,hv2,hv3⟩ := hc
  have hcv := g1.cap
  have hcr := g2.cap
  rw [cpT] at hle hsu
  simp only [LL] at hle
  refine .sk<|.tN<|.sq<|.bk<|.sr<|.yv (.indexSl Fx.sl30 Z Z Z (by omega) (q := oE + k * 3) Z) Z<|.yv (.loadMW Z Fx.agg91 mE Z) Z<|.al Fx.zero91 Z fun b9 => .sW .head Z Z Fx.size91 (by simp [Value.oneCell',strV]) Z<|.ns<|.m Z Z<|.yv (.fieldAddr Z Fx.field91_0) Z<|.yv (.load Z Fx.agg9 (.head _) Z) Z<|.yv (.app Z Z (by (try simp only [LL]);omega)) Z<|.yv (.app Z Z (by (try simp only [LL]);omega)) Z<|.yv (.call Fx.call31 Z (fun W s => lineR_any _ 1 _ (by omega) (by (try simp only [LL]);omega) W s.agr)) Z<|.yv (.cast (.app Z Z (by (try simp only [LL]);omega)) (show _ = strV (lineT 0 [[102,108,101,101,116,32],f.nm,[32,123]] ++ (f.flags.map fgT).flatten ++ (f.links.map lkT).flatten ++ ((f.comps.take k).map cpT).flatten ++ lineT 1 [[99,111,109,112,111,110,101,110,116,32],c.nm,[32,123]] ++ ((c.vars.take 0).map (vrT 2)).flatten) by simp only [List.take_zero,List.map_nil];simp only [LT];rfl)) Z<|.a Z Z<|.nt<|.sq<|.sr<|.yv (.fieldAddr Z Fx.field91_1) Z<|.yv (.load Z Fx.agg88 (.head _) Z) Z<|.yv (.lenSl Fx.sl88 Z) Z<|.m Z Z<|.nt<|.bk<|.lp (X := Nat) [(9,_),(65,_),(66,_),(67,_),(79,_),(80,_)] ⟨rfl,rfl,rfl,rfl,rfl,rfl,trivial⟩ [_,_] (fun j => [(3,strV (lineT 0 [[102,108,101,101,116,32],f.nm,[32,123]] ++ (f.flags.map fgT).flatten ++ (f.links.map lkT).flatten ++ ((f.comps.take k).map cpT).flatten ++ lineT 1 [[99,111,109,112,111,110,101,110,116,32],c.nm,[32,123]] ++ ((c.vars.take j).map (vrT 2)).flatten)),(81,.int .i64 (j : Nat))]) (fun j => H) (fun j => []) (fun j => j ≤ c.vars.length) (fun j => c.vars.length - j) 0 (fun _ s => s) ⟨rfl,rfl,trivial⟩ (by omega) fun j hC => ?_
  refine .sr<|.yv (.lss Z Z) Z<|.nt<|.sq<|.cd Z (fun h82 => ?_) (fun h82 => ?_)
  ·try simp only [dt] at h82
   have hj : j < c.vars.length := by omega
   obtain ⟨bF,oF,cF,hpF,rF,lF,mF⟩ := g1.elem (map_at (f := dVr .i64) hj)
   cases hpF
   have hvv := hv1 _ (List.getElem_mem hj)
   have hlj := mflat_take (g := vrT 2) c.vars (j + 1)
   have hsj := mflat_succ (g := vrT 2) hj
   rw [hsj,List.length_append] at hlj
   generalize hxw : c.vars[j] = vr at rF hlj hsj hvv
   obtain ⟨rfl,nv⟩ := vr_open rF
   rw [vrT_eq hvv] at hlj hsj
   have hit := itoa_len vr.init
   have hbo := boolT_len (decide (vr.init.toInt = 1))
   have hnum := okVr_num hvv
   have hnu2 := vr.init.toInt_lt
   refine .sk<|.tN<|.sq<|.bk<|.sr<|.yv (.indexSl Fx.sl88 Z Z Z (by omega) (q := oF + j * 3) Z) Z<|.yv (.loadMW Z Fx.agg93 mF Z) Z<|.al Fx.zero93 Z fun b11 => .sW .head Z Z Fx.size93 (by simp [Value.oneCell',strV]) Z<|.ns<|.yv (.fieldAddr Z Fx.field93_2) Z<|.yv (.load Z Fx.agg2 (.head _) Z) Z<|.yv (.call Fx.call33 Z (fun W s => number_any H _ (by omega) (by omega) W s.agr)) Z<|.yv (.app Z Z (by (try simp only [LL]);omega)) Z<|.a Z Z<|.nt<|.sq<|.sr<|.yv (.fieldAddr Z Fx.field93_1) Z<|.yv (.load Z Fx.agg3 (.head _) Z) Z<|.yv (.eql Z Z) Z<|.nt<|.cd Z (fun h91 => ?_) (fun h91 => ?_)
   ·try simp only [dt] at h91
    have e2 : vr.ty.toNat = 2 := by omega
    refine .rg<|.yv (.fieldAddr Z Fx.field93_2) Z<|.yv (.load Z Fx.agg2 (.head _) Z) Z<|.yv (.eql Z Z) Z<|.yv (.call Fx.call32 Z (fun W s => truthR_any H _ W s.agr)) Z<|.yv (.app Z Z (by (try simp only [LL]);omega)) Z<|.a Z Z<|.nt<|.sq<|.sr<|.yv (.fieldAddr Z Fx.field93_1) Z<|.yv (.load Z Fx.agg3 (.head _) Z) Z<|.yv (.eql Z Z) Z<|.nt<|.cd Z (fun h99 => ?_) (fun h99 => ?_)
    ·try simp only [dt] at h99
     have e3 : vr.ty.toNat = 3 := by omega
     rw [if_pos e3] at hlj hsj
     simp only [LL] at hlj
     exact .rg<|.a Z Z<|.nt<|.rg<|.m Z Z<|.yv (.fieldAddr Z Fx.field93_0) Z<|.yv (.load Z Fx.agg9 (.head _) Z) Z<|.yv (.app Z Z (by (try simp only [LL]);omega)) Z<|.yv (.app Z Z (by (try simp only [LL]);omega)) Z<|.m Z Z<|.yv (.app Z Z (by (try simp only [LL]);omega)) Z<|.yv (.app Z Z (by (try simp only [LL]);omega)) Z<|.yv (.call Fx.call31 Z (fun W s => lineR_any _ 2 _ (by omega) (by (try simp only [LL]);omega) W s.agr)) Z<|.yv (.cast (.app Z Z (by (try simp only [LL]);omega)) (by first | exact absurd (by omega : False) id | rw [hsj];simp only [LT];rfl)) Z<|.a Z Z<|.nl<|.bN<|.tN<|.rg<|.yv (.add Z Z (w6 (by omega))) Z<|.m Z Z<|.nt<|.ag (j + 1) ⟨rfl,rfl,trivial⟩ ⟨rfl,rfl,rfl,rfl,rfl,rfl,trivial⟩ (fun _ s => s.pick [1,2] [_,_] Z Z) (by omega) (by omega)
    try simp only [df] at h99
    have e3 : ¬ vr.ty.toNat = 3 := by omega
    rw [if_neg e3] at hlj hsj
    first | rw [if_pos e2] at hlj hsj | rw [if_neg e2] at hlj hsj
    simp only [LL] at hlj
    exact .sk<|.tN<|.rg<|.m Z Z<|.yv (.fieldAddr Z Fx.field93_0) Z<|.yv (.load Z Fx.agg9 (.head _) Z) Z<|.yv (.app Z Z (by (try simp only [LL]);omega)) Z<|.yv (.app Z Z (by (try simp only [LL]);omega)) Z<|.m Z Z<|.yv (.app Z Z (by (try simp only [LL]);omega)) Z<|.yv (.app Z Z (by (try simp only [LL]);omega)) Z<|.yv (.call Fx.call31 Z (fun W s => lineR_any _ 2 _ (by omega) (by (try simp only [LL]);omega) W s.agr)) Z<|.yv (.cast (.app Z Z (by (try simp only [LL]);omega)) (by first | exact absurd (by omega : False) id | rw [hsj];simp only [LT];rfl)) Z<|.a Z Z<|.nl<|.bN<|.tN<|.rg<|.yv (.add Z Z (w6 (by omega))) Z<|.m Z Z<|.nt<|.ag (j + 1) ⟨rfl,rfl,trivial⟩ ⟨rfl,rfl,rfl,rfl,rfl,rfl,trivial⟩ (fun _ s => s.pick [1,2] [_,_] Z Z) (by omega) (by omega)
   try simp only [df] at h91
   have e2 : ¬ vr.ty.toNat = 2 := by omega
   refine .sk<|.tN<|.sq<|.sr<|.yv (.fieldAddr Z Fx.field93_1) Z<|.yv (.load Z Fx.agg3 (.head _) Z) Z<|.yv (.eql Z Z) Z<|.nt<|.cd Z (fun h99 => ?_) (fun h99 => ?_)
   ·try simp only [dt] at h99
    have e3 : vr.ty.toNat = 3 := by omega
    rw [if_pos e3] at hlj hsj
    simp only [LL] at hlj
    exact .rg<|.a Z Z<|.nt<|.rg<|.m Z Z<|.yv (.fieldAddr Z Fx.field93_0) Z<|.yv (.load Z Fx.agg9 (.head _) Z) Z<|.yv (.app Z Z (by (try simp only [LL]);omega)) Z<|.yv (.app Z Z (by (try simp only [LL]);omega)) Z<|.m Z Z<|.yv (.app Z Z (by (try simp only [LL]);omega)) Z<|.yv (.app Z Z (by (try simp only [LL]);omega)) Z<|.yv (.call Fx.call31 Z (fun W s => lineR_any _ 2 _ (by omega) (by (try simp only [LL]);omega) W s.agr)) Z<|.yv (.cast (.app Z Z (by (try simp only [LL]);omega)) (by first | exact absurd (by omega : False) id | rw [hsj];simp only [LT];rfl)) Z<|.a Z Z<|.nl<|.bN<|.tN<|.rg<|.yv (.add Z Z (w6 (by omega))) Z<|.m Z Z<|.nt<|.ag (j + 1) ⟨rfl,rfl,trivial⟩ ⟨rfl,rfl,rfl,rfl,rfl,rfl,trivial⟩ (fun _ s => s.pick [1,2] [_,_] Z Z) (by omega) (by omega)
   try simp only [df] at h99
   have e3 : ¬ vr.ty.toNat = 3 := by omega
   rw [if_neg e3] at hlj hsj
   first | rw [if_pos e2] at hlj hsj | rw [if_neg e2] at hlj hsj
   simp only [LL] at hlj
   exact .sk<|.tN<|.rg<|.m Z Z<|.yv (.fieldAddr Z Fx.field93_0) Z<|.yv (.load Z Fx.agg9 (.head _) Z) Z<|.yv (.app Z Z (by (try simp only [LL]);omega)) Z<|.yv (.app Z Z (by (try simp only [LL]);omega)) Z<|.m Z Z<|.yv (.app Z Z (by (try simp only [LL]);omega)) Z<|.yv (.app Z Z (by (try simp only [LL]);omega)) Z<|.yv (.call Fx.call31 Z (fun W s => lineR_any _ 2 _ (by omega) (by (try simp only [LL]);omega) W s.agr)) Z<|.yv (.cast (.app Z Z (by (try simp only [LL]);omega)) (by first | exact absurd (by omega : False) id | rw [hsj];simp only [LT];rfl)) Z<|.a Z Z<|.nl<|.bN<|.tN<|.rg<|.yv (.add Z Z (w6 (by omega))) Z<|.m Z Z<|.nt<|.ag (j + 1) ⟨rfl,rfl,trivial⟩ ⟨rfl,rfl,rfl,rfl,rfl,rfl,trivial⟩ (fun _ s => s.pick [1,2] [_,_] Z Z) (by omega) (by omega)
  try simp only [df] at h82
  obtain rfl : j = c.vars.length := by omega
  rw [List.take_length]
  have h0 : 0 < c.vers.length := by omega
  obtain ⟨bG,oG,cG,hpG,rG,lG,mG⟩ := g2.elem (map_at (f := dVs .i64) h0)
  cases hpG
  obtain ⟨pD,cD,eD,hD⟩ := rep_tail g2 (by omega)
  rw [← List.map_drop] at hD
  have hv0 := hv3 _ (List.getElem_mem h0)
  have hs0 : vssT 2 0 (c.vers.take (0 + 1)) = hdsT 2 c.vers[0] := by rw [vssT_succ h0,vsT,if_pos rfl];rfl
  have hl0 := vssT_take 2 c.vers (0 + 1)
  rw [hs0] at hl0
  generalize hxv : c.vers[0] = v0 at rG hs0 hl0 hv0
  obtain ⟨pv,cv,rfl,gv⟩ := vs_open rG
  refine .ex<|.tE<|.tE<|.bE<|.tN<|.sr<|.m Z Z<|.yv (.fieldAddr Z Fx.field91_2) Z<|.yv (.load Z Fx.agg89 (.head _) Z) Z<|.yv (.indexSl Fx.sl89 Z Z (i := 0) Z (by omega) (q := oG + 0 * 1) Z) Z<|.yv (.loadM Z Fx.agg97 mG (k := 0) Z Z) Z<|.yv (.call Fx.call34 Z (fun W s => handlersT_any H v0 _ _ 2 W gv hv0 (by omega) s.agr)) Z<|.yv (.cast (.app Z Z (by (try simp only [LL]);omega)) (by rw [hs0];simp only [LT];rfl)) Z<|.a Z Z<|.nt<|.sq<|.sr<|.yv (.fieldAddr Z Fx.field91_2) Z<|.yv (.load Z Fx.agg89 (.head _) Z) Z<|.yv (.cast (.cutLo Fx.sl89 Z Z (lo := 1) Z (by omega) g2.len.2.1) eD) Z<|.yv (.lenSl Fx.sl89 Z) Z<|.m Z Z<|.nt<|.bk<|.lp (X := Nat) [(65,_),(66,_),(67,_),(120,_),(121,_)] ⟨rfl,rfl,rfl,rfl,rfl,trivial⟩ [_,_] (fun i => [(3,strV (lineT 0 [[102,108,101,101,116,32],f.nm,[32,123]] ++ (f.flags.map fgT).flatten ++ (f.links.map lkT).flatten ++ ((f.comps.take k).map cpT).flatten ++ lineT 1 [[99,111,109,112,111,110,101,110,116,32],c.nm,[32,123]] ++ (c.vars.map (vrT 2)).flatten ++ vssT 2 0 (c.vers.take (i + 1)))),(122,.int .i64 (i : Nat))]) (fun i => H) (fun i => []) (fun i => i ≤ c.vers.length - 1) (fun i => c.vers.length - 1 - i) 0 (fun _ s => s) ⟨rfl,rfl,trivial⟩ (by omega) fun i hC => ?_
  refine .sr<|.yv (.lss Z Z) Z<|.nt<|.sq<|.cd Z (fun h123 => ?_) (fun h123 => ?_)
  ·try simp only [dt] at h123
   have hi : i < c.vers.length - 1 := by omega
   have hi2 : i + 1 < c.vers.length := by omega
   obtain ⟨bI,oI,cI,hpI,rI,lI,mI⟩ := hD.elem (map_at (f := dVs .i64) (show i < (c.vers.drop 1).length by rw [List.length_drop];omega))
   cases hpI
   have e1i : (c.vers.drop 1)[i]'(by rw [List.length_drop];omega) = c.vers[i + 1] := by simp [Nat.add_comm]
   rw [e1i] at rI
   have hvi := hv3 _ (List.getElem_mem hi2)
   have hsi := vssT_succ (n := 2) hi2
   rw [vsT,if_neg (by omega),show (2 : Nat) + 1 = 3 from rfl] at hsi
   have hli := vssT_take 2 c.vers (i + 1 + 1)
   rw [hsi] at hli
   simp only [LL] at hli
   generalize hxi : c.vers[i + 1] = v2 at rI hvi hsi hli
   obtain ⟨pw,cw,rfl,gw⟩ := vs_open rI
   have hin := Lib.itoa_length_le ((i + 1 + 1 : Nat) : Int) (by omega) (by omega)
   exact .sk<|.tN<|.sq<|.bk<|.sr<|.m Z Z<|.yv (.indexSl Fx.sl89 Z Z (i := i) Z (by omega) (q := oI + i * 1) Z) Z<|.yv (.loadM Z Fx.agg97 mI (k := 0) Z Z) Z<|.a Z Z<|.a Z Z<|.nt<|.rg<|.m Z Z<|.m Z Z<|.yv (.add Z Z (c := ((i + 1 + 1 : Nat) : Int)) ((w6 (by omega)).trans (by omega))) Z<|.yv (.call Fx.call33 Z (fun W s => number_any H _ (by omega) (by omega) W s.agr)) Z<|.yv (.app Z Z (by (try simp only [LL]);omega)) Z<|.yv (.app Z Z (by (try simp only [LL]);omega)) Z<|.yv (.call Fx.call31 Z (fun W s => lineR_any _ 2 _ (by omega) (by (try simp only [LL]);omega) W s.agr)) Z<|.m Z Z<|.yv (.call Fx.call34 Z (fun W s => handlersT_any H v2 _ _ 3 W gw hvi (by omega) s.agr)) Z<|.yv (.app Z Z (by (try simp only [LL]);omega)) Z<|.yv (.call Fx.call31 Z (fun W s => lineR_any _ 2 _ (by omega) (by (try simp only [LL]);omega) W s.agr)) Z<|.yv (.app Z Z (by (try simp only [LL]);omega)) Z<|.yv (.cast (.app Z Z (by (try simp only [LL]);omega)) (by rw [hsi];simp only [LT];rfl)) Z<|.a Z Z<|.nl<|.bN<|.tN<|.rg<|.yv (.add Z Z (w6 (by omega))) Z<|.m Z Z<|.nt<|.ag (i + 1) ⟨rfl,rfl,trivial⟩ ⟨rfl,rfl,rfl,rfl,rfl,trivial⟩ (fun _ s => s) (by omega) (by omega)
  try simp only [df] at h123
  obtain rfl : i = c.vers.length - 1 := by omega
  rw [show c.vers.length - 1 + 1 = c.vers.length by omega,List.take_length]
  exact .ex<|.tE<|.tE<|.bE<|.tN<|.rg<|.m Z Z<|.yv (.call Fx.call31 Z (fun W s => lineR_any _ 1 _ (by omega) (by (try simp only [LL]);omega) W s.agr)) Z<|.yv (.cast (.app Z Z (by (try simp only [LL]);omega)) (by rw [hsu];simp only [LT];rfl)) Z<|.a Z Z<|.nl<|.bN<|.tN<|.rg<|.yv (.add Z Z (w6 (by omega))) Z<|.m Z Z<|.nt<|.ag (k + 1) ⟨rfl,rfl,trivial⟩ ⟨rfl,rfl,trivial⟩ (fun _ s => s.pick [1] [_] Z Z) (by omega) (by omega)
 try simp only [df] at h68
 obtain rfl : k = f.comps.length := by omega
 rw [List.take_length]
 refine .ex<|.tE<|.tE<|.bE<|.tN<|.sr<|.m Z Z<|.yv (.call Fx.call31 Z (fun W s => lineR_any _ 0 _ (by omega) (by (try simp only [LL]);omega) W s.agr)) Z<|.yv (.app Z Z (by (try simp only [LL]);omega)) Z<|.a Z Z<|.nt<|.rt<|?_
 refine Sx.ret1 (.inl rfl) rfl (.tmp rfl) fun W s => ⟨?_,s.ext⟩
 first
  | (rw [ftT];simp only [LT];rfl)
theorem txt_len2 (op : UInt8) (nm : Str) (n : Int64) (ls : List (Nat × Str)) (A : Nat) (hA : 2 ≤ A) (hn : nm.length ≤ 12) (h : ∀ x ∈ ls,x.2.length ≤ A) : (txt op nm n ls).length ≤ 2 * A + 22 := by
 have hg : ∀ i,(ls.getD i (0,[])).2.length ≤ A := fun i => by
  rw [List.getD_eq_getElem?_getD]
  cases e : ls[i]? with
  | none => simp
  | some x => simpa using h x (List.mem_of_getElem? e)
 have h0 := hg 0
 have h1 := hg 1
 have ht := shape_tx op
 have hi := itoa_len n
 have o1 := opT_len (shapeOf op).lv (ls.getD 0 (0,[]))
 have o2 := opT_len (lftT (shapeOf op).lv) (ls.getD 0 (0,[]))
 have o3 := opT_len ((shapeOf op).lv + 1) (ls.getD 1 (0,[]))
 unfold txt
 split
 ·omega
 split
 ·simp only [List.length_append];omega
 split
 ·simp only [List.length_append,List.length_cons,List.length_nil];omega
 split
 ·simp only [List.length_append];omega
 split
 ·omega
 ·simp only [List.length_append];omega
theorem text_len2 (e : Ex) : ∀ d,e.depth ≤ d → Ex.all namE e = true → Ex.all frmE e = true → e.text.length + 22 ≤ 46 * 2 ^ d := by
 induction e using Ex.ind with | _ op nm n args ih
 intro d hd h1 h2
 rw [depth_mk] at hd
 rw [all_mk,Bool.and_eq_true] at h1 h2
 obtain ⟨d,rfl⟩ : ∃ k,d = k + 1 := ⟨d - 1,by omega⟩
 have hp : 0 < 2 ^ d := Nat.pow_pos (by omega)
 have h := txt_len2 op nm n (args.map fun e => ((shapeOf e.op).lv,Ex.text e)) (46 * 2 ^ d - 22) (by omega) (nm_len h1.1 h2.1) fun x hx => by
  obtain ⟨a,ha,rfl⟩ := List.mem_map.1 hx
  have := deeps_mem ha
  have := ih a ha d (by omega) (alls_mem ha h1.2) (alls_mem ha h2.2)
  dsimp only
  omega
 rw [text_mk,Nat.pow_succ]
 omega
theorem join_len {M : Nat} : ∀ (l : List Str),(∀ x ∈ l,x.length ≤ M) → (joinT l).length ≤ (M + 2) * l.length
 | [],_ => by simp [joinT,Lib.join_nil]
 | a :: r,h => by
  unfold joinT
  rw [Lib.join_cons,List.length_append,Lib.joinTail_length]
  have h1 := h a (.head _)
  have h2 : Lib.lens r ≤ M * r.length := by
   have h3 : ∀ x ∈ r,x.length ≤ M := fun x hx => h x (.tail _ hx)
   clear h h1
   induction r with
   | nil => simp [Lib.lens]
   | cons b t ih =>
    have h4 := h3 b (.head _)
    have h5 := ih fun x hx => h3 x (.tail _ hx)
    simp only [Lib.lens,List.map_cons,List.sum_cons,List.length_cons,Nat.mul_add] at h5 ⊢
    omega
  simp only [List.length_cons,List.length_nil,Nat.mul_add,Nat.add_mul]
  omega
theorem getD_len {es : List Str} {A : Nat} (h : ∀ x ∈ es,x.length ≤ A) (i : Nat) : (es.getD i []).length ≤ A := by
 rw [List.getD_eq_getElem?_getD]
 cases e : es[i]? with
 | none => simp
 | some x => simpa using h x (List.mem_of_getElem? e)
theorem stT_len (n : Nat) (kd : UInt8) (nm hd : Str) (es : List Str) (T : Str) (q : Bool) (E : Str) (A : Nat) (h1 : nm.length ≤ 12) (h2 : hd.length ≤ 12) (h3 : es.length ≤ 5) (h4 : ∀ x ∈ es,x.length ≤ A) : (stT n kd nm hd es T q E).length ≤ T.length + E.length + 6 * n + 6 * A + 200 := by
 have g0 := getD_len h4 0
 have g1 := getD_len h4 1
 have j1 := join_len es h4
 have j2 := join_len (es.drop 1) (fun x hx => h4 x (List.mem_of_mem_drop hx))
 rw [List.length_drop] at j2
 have j3 : (A + 2) * es.length ≤ (A + 2) * 5 := Nat.mul_le_mul_left _ h3
 have j4 : (A + 2) * (es.length - 1) ≤ (A + 2) * 5 := Nat.mul_le_mul_left _ (by omega)
 have j5 : (A + 2) * 5 = 5 * A + 10 := by omega
 unfold stT
 repeat' split
 all_goals (try unfold diskT)
 all_goals (try split)
 all_goals (simp only [LL];omega)
def gdS (s : Sm) : Bool := (smaS s && namS s) && frmS s
theorem frm_names {kd : UInt8} {nm hd : Str} {ex : List Ex} {th el : List Sm} (h1 : namS (.mk kd nm hd ex th el) = true) (h2 : frmS (.mk kd nm hd ex th el) = true) : nm.length ≤ 12 ∧ hd.length ≤ 12 := by
 simp only [namS,Bool.and_eq_true,Bool.or_eq_true,Bool.not_eq_true'] at h1
 simp only [frmS,Bool.and_eq_true,Bool.or_eq_true,decide_eq_true_eq] at h2
 obtain ⟨⟨⟨⟨_,k1⟩,k2⟩,_⟩,_⟩ := (⟨⟨⟨⟨h2.1.1.1.1.1.1,h2.1.1.1.1.2⟩,h2.1.1.1.2⟩,h2.1.1.2⟩,h2.2⟩ : ((((_ ∧ _) ∧ _) ∧ _) ∧ _))
 constructor
 ·rcases h1.1.1 with h | h
  ·rcases k1 with k | k
   ·rw [h] at k;cases k
   ·simp [k]
  ·exact name_len h
 ·rcases h1.1.2 with h | h
  ·rcases k2 with k | k
   ·rw [h] at k;cases k
   ·simp [k]
  ·exact name_len h
theorem texts_len : ∀ (l : List Sm) (n : Nat),Sm.alls gdS l = true → n + Sm.deeps l ≤ 100 → (Sm.texts n l).length ≤ 80000 * Sm.counts l := by
 refine Sm.lists fun l ih => ?_
 induction l with
 | nil => intro n _ _;simp [Sm.texts]
 | cons s t iht =>
  intro n hl hn
  obtain ⟨kd,nm,hd,ex,th,el⟩ := s
  have h0 := ih _ (.head _)
  simp only [Sm.th,Sm.el] at h0
  simp only [Sm.alls,sall_mk,Bool.and_eq_true] at hl
  obtain ⟨⟨⟨hg,h1⟩,h2⟩,h3⟩ := hl
  simp only [gdS,Bool.and_eq_true] at hg
  obtain ⟨⟨k1,k2⟩,k3⟩ := hg
  have hnm := frm_names k2 k3
  obtain ⟨_,_,k4,k5⟩ := frm_len k3
  have k6 := form_hi kd
  simp only [Sm.deeps,sdepth_mk] at hn
  have q1 := h0.1 (n + 1) h1 (by omega)
  have q2 := h0.2 (n + 1) h2 (by omega)
  have q3 := iht (fun x hx => ih x (.tail _ hx)) n h3 (by omega)
  have hE : ∀ x ∈ ex.map Ex.text,x.length ≤ 11754 := fun x hx => by
   obtain ⟨a,ha,rfl⟩ := List.mem_map.1 hx
   simp only [smaS,List.all_eq_true,decide_eq_true_eq] at k1
   simp only [namS,Bool.and_eq_true] at k2
   have := text_len2 a 8 (k1 a ha) (alls_mem ha k2.2) (alls_mem ha k5)
   omega
  have q4 := stT_len n kd nm hd (ex.map Ex.text) (Sm.texts (n + 1) th) (decide (el.length = 0)) (Sm.texts (n + 1) el) 11754 hnm.1 hnm.2 (by rw [List.length_map];omega) hE
  simp only [Sm.texts,stext_mk,List.length_append,Sm.counts,scount_mk]
  omega
theorem flat_len {α : Type} {g : α → Str} {M : Nat} : ∀ (l : List α),(∀ x ∈ l,(g x).length ≤ M) → ((l.map g).flatten).length ≤ M * l.length
 | [],_ => by simp
 | a :: r,h => by
  have h1 := h a (.head _)
  have h2 := flat_len r fun x hx => h x (.tail _ hx)
  simp only [List.map_cons,List.flatten_cons,List.length_append,List.length_cons,Nat.mul_add,Nat.mul_one]
  omega
theorem salls_gd {h : Hd} (h1 : smaH h = true) (h2 : namH h = true) (h3 : frmH h = true) : Sm.alls gdS h.body = true := by
 simp only [smaH,Bool.and_eq_true] at h1
 simp only [namH,Bool.and_eq_true] at h2
 exact salls_and _ (salls_and _ h1.2 h2.2) h3
theorem hdT_len {h : Hd} (n : Nat) (hn : n ≤ 10) (h1 : smaH h = true) (h2 : namH h = true) (h3 : frmH h = true) : (hdT n h).length ≤ 3300000 := by
 have hg := salls_gd h1 h2 h3
 simp only [smaH,Bool.and_eq_true,Bool.not_eq_true',Bool.or_eq_false_iff,decide_eq_false_iff_not] at h1
 simp only [namH,Bool.and_eq_true,List.all_eq_true] at h2
 have k1 := name_len h2.1.1
 have k2 := join_len h.ps (fun x hx => name_len (h2.1.2 x hx))
 have k3 := texts_len h.body (n + 1) hg (by omega)
 have k4 : 80000 * Sm.counts h.body ≤ 80000 * 40 := Nat.mul_le_mul_left _ (by omega)
 have k5 : (12 + 2) * h.ps.length ≤ (12 + 2) * 4 := Nat.mul_le_mul_left _ (by omega)
 simp only [hdT,List.length_append,lineT_len,List.flatten_cons,List.flatten_nil,List.length_nil,List.length_cons]
 omega
theorem hdsT_len {N : Nat} {v : List Hd} (n : Nat) (hn : n ≤ 10) (hN : v.length ≤ N) (h1 : v.all smaH = true) (h2 : v.all namH = true) (h3 : v.all frmH = true) : (hdsT n v).length ≤ 3300000 * N :=
 Nat.le_trans (flat_len v fun x hx => hdT_len n hn (List.all_eq_true.1 h1 x hx) (List.all_eq_true.1 h2 x hx) (List.all_eq_true.1 h3 x hx)) (Nat.mul_le_mul_left _ hN)
theorem vssT_len {N : Nat} : ∀ (l : List (List Hd)) (i : Nat),i + l.length ≤ 1000 → (∀ v ∈ l,v.length ≤ N ∧ v.all smaH = true ∧ v.all namH = true ∧ v.all frmH = true) → (vssT 2 i l).length ≤ (3300000 * N + 200) * l.length
 | [],_,_,_ => by simp [vssT]
 | v :: r,i,hi,h => by
  obtain ⟨k0,k1,k2,k3⟩ := h v (.head _)
  simp only [List.length_cons] at hi
  have h2 := vssT_len r (i + 1) (by omega) fun x hx => h x (.tail _ hx)
  have h3 : (vsT 2 i v).length ≤ 3300000 * N + 200 := by
   have a1 := hdsT_len (N := N) 2 (by omega) k0 k1 k2 k3
   have a2 := hdsT_len (N := N) 3 (by omega) k0 k1 k2 k3
   have a3 := Lib.itoa_length_le ((i + 1 : Nat) : Int) (by omega) (by omega)
   unfold vsT
   split
   ·omega
   ·simp only [show (2 : Nat) + 1 = 3 from rfl,List.length_append,lineT_len,List.flatten_cons,List.flatten_nil,List.length_nil,List.length_cons]
    omega
  simp only [vssT,List.length_append,List.length_cons,Nat.mul_add,Nat.mul_one]
  omega
theorem frm_okVr {v : Vr} (h : frmV v = true) : okVr v := by
 have h2 := frmV_eq v
 rw [h] at h2
 unfold okVr
 exact Decidable.not_not.1 (of_decide_eq_false h2.symm)
theorem vrT_len {v : Vr} (h1 : nameB v.nm = true) (h2 : frmV v = true) : (vrT 2 v).length ≤ 100 := by
 have k1 := name_len h1
 have k2 := itoa_len v.init
 have k3 := boolT_len (decide (v.init.toInt = 1))
 rw [vrT_eq (frm_okVr h2)]
 split
 ·simp only [LL];omega
 split
 ·simp only [LL];omega
 ·simp only [LL];omega
theorem check_parts {f : Ft} (h : checkF f = 0) : smlF f = true ∧ namF f = true ∧ frmF f = true := by
 unfold checkF at h
 split at h
 ·cases h
 split at h
 ·cases h
 split at h
 ·cases h
 rename_i h1 h2 h3
 exact ⟨by simpa using h1,by simpa using h2,by simpa using h3⟩
theorem tokR_good {h : Hd} (h1 : smaH h = true) (h2 : namH h = true) (h3 : frmH h = true) : tokRH h = true := by
 have hg := salls_gd h1 h2 h3
 simp only [smaH,Bool.and_eq_true,Bool.not_eq_true',Bool.or_eq_false_iff,decide_eq_false_iff_not] at h1
 simp only [tokRH,Bool.and_eq_true,decide_eq_true_eq]
 refine ⟨by omega,all_imp (q := gdS) ?_ _ hg⟩
 rintro ⟨kd,nm,hd,ex,th,el⟩ hs
 simp only [gdS,Bool.and_eq_true] at hs
 obtain ⟨⟨k1,k2⟩,k3⟩ := hs
 rw [tokR,k3,Bool.true_and,List.all_eq_true]
 intro x hx
 have k4 := (frm_len k3).2.2.2
 simp only [smaS,List.all_eq_true,decide_eq_true_eq] at k1
 simp only [namS,Bool.and_eq_true] at k2
 have := text_len8 (k1 x hx) (alls_mem hx k2.2) (alls_mem hx k4)
 simp only [decide_eq_true_eq];omega
theorem okPr_of {f : Ft} (h : checkF f = 0) : okPr f := by
 obtain ⟨h1,h2,h3⟩ := check_parts h
 simp only [smlF,namF,frmF,Bool.and_eq_true] at h1 h2 h3
 have k1 := h1.2.2
 have k2 := h2.2
 have k3 := h3.2
 rw [evH_eq] at k1 k2 k3
 simp only [cpAll,List.all_eq_true] at k1 k2 k3
 refine ⟨h3.1.1,fun c hc => ⟨fun v hv => frm_okVr (List.all_eq_true.1 (List.all_eq_true.1 h3.1.2 c hc) v hv),?_,fun v hv => List.all_eq_true.2 fun x hx => tokR_good (k1 c hc v hv x hx) (k2 c hc v hv x hx) (k3 c hc v hv x hx)⟩⟩
 have := List.all_eq_true.1 h1.2.1 c hc
 simp only [smlC,Bool.and_eq_true,decide_eq_true_eq] at this
 omega
theorem ftT_len {f : Ft} (hok : okFt 50000 f) (h : checkF f = 0) : (ftT f).length ≤ 10000000000000 := by
 obtain ⟨h1,h2,h3⟩ := check_parts h
 simp only [smlF,limF,namF,frmF,Bool.and_eq_true,decide_eq_true_eq,List.all_eq_true] at h1 h2 h3
 have k1 := h1.2.2
 have k2 := h2.2
 have k3 := h3.2
 rw [evH_eq] at k1 k2 k3
 simp only [cpAll,List.all_eq_true] at k1 k2 k3
 have n0 := name_len h2.1.1.1.1
 have n1 := flat_len (g := fgT) (M := 100) f.flags fun x hx => by
  have := name_len (h2.1.1.1.2 x hx)
  have := boolT_len x.init
  simp only [fgT,lineT_len,List.flatten_cons,List.flatten_nil,List.length_append,List.length_nil,List.length_cons];omega
 have n2 := flat_len (g := lkT) (M := 200) f.links fun x hx => by
  have a := h2.1.1.2 x hx
  have a1 := name_len a.1
  have a2 := name_len a.2
  have := itoa_len x.lat
  simp only [lkT,lineT_len,List.flatten_cons,List.flatten_nil,List.length_append,List.length_nil,List.length_cons];omega
 have n3 := flat_len (g := cpT) (M := 500000000000) f.comps fun c hc => by
  have a := h2.1.2 c hc
  have a1 := name_len a.1
  have b := h1.2.1 c hc
  simp only [smlC,Bool.and_eq_true,decide_eq_true_eq] at b
  have a2 := flat_len (g := vrT 2) (M := 100) c.vars fun v hv => vrT_len (a.2 v hv) (h3.1.2 c hc v hv)
  have a3 := vssT_len (N := 50000) c.vers 0 (by omega) fun v hv => ⟨((hok.all c hc).all v hv).len,List.all_eq_true.2 (k1 c hc v hv),List.all_eq_true.2 (k2 c hc v hv),List.all_eq_true.2 (k3 c hc v hv)⟩
  simp only [cpT,lineT_len,List.flatten_cons,List.flatten_nil,List.length_append,List.length_nil,List.length_cons];omega
 simp only [ftT,lineT_len,List.flatten_cons,List.flatten_nil,List.length_append,List.length_nil,List.length_cons]
 omega
set_option maxHeartbeats 2000000 in
set_option maxRecDepth 100000 in
theorem bodyL_any (N : Nat) (hN : N ≤ 1000000) : ∀ (l : List Sm),okL N l → ∀ (H : Hp) (v : Value) (w : World),Rep H (.seq 6 (l.map (dSm .i64))) [v] → Agr H w →
 Calls Tryz.prog 27 #[v] w fun r w' => ∃ (y : Value) (H' : Hp),Rep H' (.seq 6 (l.map (dSm .u8))) [y] ∧ r = .returned y ∧ Grow H w H' w' := by
 refine Sm.lists fun l ih => ?_
 intro hok H v w hs hA
 obtain ⟨p,c,e,_⟩ := hs.sl
 simp only [List.cons.injEq,and_true,List.length_map] at e
 subst e
 have hcap := hs.cap
 have hll := hok.len
 refine Sx.enter (H := H) Tryz.func27 rfl Tryz.ntmps27 rfl hA ?_
 refine .sr<|.a Z Z<|.ns<|.a Z Z<|?_
 refine Sx.row0 71 6 ?_
 refine .nt<|.sq<|.sr<|.m Z Z<|.yv (.lenSl Fx.sl98 Z) Z<|.m Z Z<|.nt<|.bk<|.lp (X := Nat × Hp × Value × List Value) [(9,_),(10,_)] ⟨rfl,rfl,trivial⟩ [] (fun z => [(3,z.2.2.1),(11,.int .i64 (z.1 : Nat))]) (fun z => z.2.1) (fun z => [.row 71 6 z.2.2.1 z.1 z.2.2.2]) (fun z => z.1 ≤ l.length ∧ HUp w H z.2.1 ∧ RepZ z.2.1 6 ((l.take z.1).map (dSm .u8)) z.2.2.2) (fun z => l.length - z.1) (0,H,.slice none 0 0,[]) (fun _ s => s) ⟨rfl,rfl,trivial⟩ ⟨by simp,.refl,RepZ.nil⟩ fun z hC => ?_
 obtain ⟨k,H1,r,xs⟩ := z
 dsimp only at hC ⊢
 obtain ⟨hk0,u1,hz⟩ := hC
 refine .sr<|.yv (.lss Z Z) Z<|.nt<|.sq<|.cd Z (fun h12 => ?_) (fun h12 => ?_)
 ·try simp only [dt] at h12
  have hk : k < l.length := by omega
  obtain ⟨bE,oE,cE,hpE,rE,lE,mE⟩ := (hs.up u1.up).elem (map_at (f := dSm .i64) hk)
  cases hpE
  have hi := ih _ (List.getElem_mem hk)
  have hka := hok.at hk
  generalize hx : l[k] = x at rE hi hka
  obtain ⟨kd,nm,hd,ex,th,el⟩ := x
  obtain ⟨p1,c1,p2,c2,p3,c3,rfl,hs1,hs2,hs3,hn1,hn2⟩ := sm_open rE
  simp only [Sm.th,Sm.el] at hi
  obtain ⟨k1,k2,k3,k4,k5,k6,k7⟩ := okL_one.1 hka
  have hit := hi.1 ⟨by omega,by omega,k6⟩
  have hie := hi.2 ⟨by omega,by omega,k7⟩
  have hcap1 := hs1.cap
  refine .sk<|.tN<|.sq<|.bk<|.sr<|.yv (.indexSl Fx.sl98 Z Z Z (by omega) (q := oE + k * 6) Z) Z<|.yv (.loadMW Z Fx.agg150 mE Z) Z<|.al Fx.zero150 Z fun b5 => .sW .head Z Z Fx.size150 (by simp [Value.oneCell',strV]) Z<|.nt<|.sq<|.ft (p := .light _ _ (.light _ _ (.light _ _ (.light _ _ (.light _ _ (.light _ _ (.light _ _ (.light _ _ (.light _ _ (.light _ _ (.light _ _ (.alt _ _ _ (.alt _ _ _ (.light _ _ (.alt _ _ _ (.done) (.no))) (.alt _ _ _ (.alt _ _ _ (.light _ _ (.done)) (.no)) (.no))) (.alt _ _ _ (.alt _ _ _ (.alt _ _ _ (.light _ _ (.done)) (.no)) (.no)) (.no)))))))))))))) 15 (.light 0 (.light 1 (.light 2 (.light 3 (.light 4 (.light 5 (.light 6 (.light 7 (.light 8 (.light 10 (.light 11 (.alt 9 0 (.alt 12 0 (.light 13 (.alt 14 0 (.done) (.no))) (.alt 14 0 (.alt 12 0 (.light 13 (.done)) (.no)) (.no))) (.alt 14 0 (.alt 9 0 (.alt 12 0 (.light 13 (.done)) (.no)) (.no)) (.no)))))))))))))) (by kernel_rfl) (by kernel_rfl) Z<|.yv (.fieldAddr Z Fx.field150_0) Z<|.yv (.load Z Fx.agg3 (.head _) Z) Z<|.yv (.conv Z Fx.int3 Fx.int67 (c := (kd.toNat : Nat)) (by have := kd.toNat_lt;simp only [IntKind.wrap,IntKind.signed,IntKind.bits];simp;omega)) Z<|.yv (.fieldAddr Z Fx.field150_1) Z<|.yv (.load Z Fx.agg9 (.head _) Z) Z<|.yv (.fieldAddr Z Fx.field150_2) Z<|.yv (.load Z Fx.agg9 (.head _) Z) Z<|.yv (.fieldAddr Z Fx.field150_4) Z<|.yv (.load Z Fx.agg98 (.head _) Z) Z<|.yv (.fieldAddr Z Fx.field150_5) Z<|.yv (.load Z Fx.agg98 (.head _) Z) Z<|.h ?_ (.h ?_ .nn)
  ·
   refine .ct (X := Value) Fx.call27 Z (fun W s => hit H1 _ W hs2 s.agr) Z fun y24 H24 hy24 u24 => ?_
   obtain ⟨q24,d24,e24,_⟩ := hy24.sl
   simp only [List.cons.injEq,and_true,List.length_map] at e24
   subst e24
   refine .h ?_ (.h ?_ .nn)
   ·
    refine .ct (X := Value) Fx.call27 Z (fun W s => hie H24 _ W (hs3.up u24.up) s.agr) Z fun y27 H27 hy27 u27 => ?_
    obtain ⟨q27,d27,e27,_⟩ := hy27.sl
    simp only [List.cons.injEq,and_true,List.length_map] at e27
    subst e27
    have u5 := u24.trans u27
    have hs1b := hs1.up u5.up
    have hy24b := hy24.up u27.up
    refine .yv (.build Z (Fx.bld71_0_1_2_4_5 _ _ _ _ _ _ _ _ _)) Z<|.h1<|.al Fx.zero71 Z fun b6 => .fn (tl := [_]) Z<|.sW .head Z Z Fx.size71 (by simp [Value.oneCell',strV]) Z<|.nt<|.sq<|.sr<|.yv (.fieldAddr Z Fx.field150_3) Z<|.yv (.load Z Fx.agg49 (.tail _<|.head _) Z) Z<|.yv (.lenSl Fx.sl49 Z) Z<|.m Z Z<|?_
    refine Sx.row0 60 4 ?_
    refine .nt<|.bk<|.lp (X := Nat × Hp × Value × List Value) [(3,_),(6,_),(9,_),(10,_),(11,_),(30,_),(31,_)] ⟨rfl,rfl,rfl,rfl,rfl,rfl,rfl,trivial⟩ [_,_] (fun z => [(32,.int .i64 (z.1 : Nat))]) (fun z => z.2.1) (fun z => [.row 60 4 z.2.2.1 z.1 z.2.2.2,.box b6 [.int .u8 kd.toNat,strV nm,strV hd,z.2.2.1,.slice q24 th.length d24,.slice q27 el.length d27] 71]) (fun z => z.1 ≤ ex.length ∧ HUp w H27 z.2.1 ∧ RepZ z.2.1 4 ((ex.take z.1).map (dEx .u8)) z.2.2.2) (fun z => ex.length - z.1) (0,H27,.slice none 0 0,[]) (fun _ s => s) ⟨rfl,trivial⟩ ⟨by simp,.refl,RepZ.nil⟩ fun z hC => ?_
    obtain ⟨j,H3,re,ys⟩ := z
    dsimp only at hC ⊢
    obtain ⟨hj0,u3,hze⟩ := hC
    refine .sr<|.yv (.lss Z Z) Z<|.nt<|.sq<|.cd Z (fun h33 => ?_) (fun h33 => ?_)
    ·try simp only [dt] at h33
     have hj : j < ex.length := by omega
     obtain ⟨bF,oF,cF,hpF,rF,lF,mF⟩ := (hs1b.up u3.up).elem (map_at (f := dEx .i64) hj)
     cases hpF
     have hnj : Ex.all narrow ex[j] = true := by
      have := List.all_eq_true.1 k5 _ (List.getElem_mem hj)
      simp only [okE,Bool.and_eq_true] at this
      exact this.2
     refine .sk<|.tN<|.sq<|.bk<|.sr<|.yv (.indexSl Fx.sl49 Z Z Z (by omega) (q := oF + j * 4) Z) Z<|.yv (.loadMW Z Fx.agg51 mF lF) Z<|.al Fx.zero51 Z fun b8 => .sV .head Z Z Fx.size51 lF rF.one Z<|.nt<|.fl (trip := [(_,_,_),(_,_,_),(_,_,_),(_,_,_),(_,_,_)]) 5 [(0,0),(1,0),(2,0),(3,1),(4,1)] (by kernel_rfl) (by kernel_rfl) Z<|.yv (.fieldAddr Z Fx.field71_3) Z<|.yv (.load Z Fx.agg58 (.tail _<|.tail _<|.head _) Z) Z<|.yv (.loadW Z Fx.agg51 (.head _) lF) Z<|.ct (X := List Value) Fx.call19 Z (fun W s => expr_any _ hnj H3 cF W rF s.agr) Z fun x39 H39 hx39 u39 => ?_
     generalize hxj : ex[j] = xj at hx39
     obtain ⟨op2,nm2,n2,args2⟩ := xj
     obtain ⟨pz,cz,rfl,hz2,hnm2⟩ := ex_open hx39
     exact .bl Z (Fx.bsl58_1 _ _ _ _) Z fun b40 => .fn (tl := [_,_,_]) Z<|.ap (news := [.int .u8 op2.toNat,strV nm2,.int .i64 n2.toInt,.slice pz args2.length cz]) Fx.row58 Z (fun _ => (.tail<|.tail<|.head)) Z (.box (.head _) z0) Z (by simp [Value.oneCell',strV]) (by simp [maxLen];omega) (by omega) Z fun r41 _ => .ra (.tail _<|.tail _<|.head _) fun p41 c41 e41 => .yv (.fieldAddr Z Fx.field71_3) Z<|.st (.tail<|.tail<|.tail<|.head) Z Z Fx.size58 (by rw [e41];rfl) (nb Z) Z<|.nl<|.bN<|.tN<|.rg<|.yv (.add Z Z (w6 (by omega))) Z<|.m Z Z<|.nt<|.ag (x := (j,H3,re,ys)) (j + 1,H39,r41,ys ++ [.int .u8 op2.toNat,strV nm2,.int .i64 n2.toInt,.slice pz args2.length cz]) ⟨rfl,trivial⟩ ⟨rfl,rfl,rfl,rfl,rfl,rfl,rfl,trivial⟩ (fun _ s => (s.pick [2,3,4,5] _ Z Z)) ⟨by dsimp only;omega,u3.trans u39,by dsimp only;rw [take_snoc hj,hxj,List.map_append];exact (hze.up u39.up).snoc hx39 Z⟩ (by dsimp only;omega)
    try simp only [df] at h33
    obtain rfl : j = ex.length := by omega
    rw [List.take_length] at hze
    refine Sx.freezeSeq (ds := ex.map (dEx .u8)) (by simp) hze fun H3 pX cX u6 eX hX => ?_
    subst eX
    have uX := u5.trans (u3.trans u6)
    have hy24X := hy24b.up (u3.trans u6).up
    have hy27X := hy27.up (u3.trans u6).up
    exact .ex<|.tE<|.tE<|.bE<|.tN<|.rg<|.m Z Z<|.yv (.loadW Z Fx.agg71 (.head _) Z) Z<|.bl Z (Fx.bsl69_1 _ _ _ _ _ _) Z fun b46 => .ap (news := [.int .u8 kd.toNat,strV nm,strV hd,.slice pX ex.length cX,.slice q24 th.length d24,.slice q27 el.length d27]) Fx.row69 Z (fun _ => (.tail<|.tail<|.tail<|.head)) Z (.box (.head _) z0) Z (by simp [Value.oneCell',strV]) (by simp [maxLen];omega) (by omega) Z fun r47 _ => .a Z Z<|.nl<|.bN<|.tN<|.rg<|.yv (.add Z Z (w6 (by omega))) Z<|.m Z Z<|.nt<|.ag (x := (k,H1,r,xs)) (k + 1,H3,r47,xs ++ [.int .u8 kd.toNat,strV nm,strV hd,.slice pX ex.length cX,.slice q24 th.length d24,.slice q27 el.length d27]) ⟨rfl,rfl,trivial⟩ ⟨rfl,rfl,trivial⟩ (fun _ s => (s.pick [3] _ Z Z)) ⟨by dsimp only;omega,u1.trans uX,by dsimp only;rw [take_snoc hk,hx,List.map_append];exact (hz.up uX.up).snoc (sm_shut (by omega) (by omega) hX hy24X hy27X) Z⟩ (by dsimp only;omega)
   refine .al Fx.zero71 Z fun b6 => .h1<|.ct (X := Value) Fx.call27 Z (fun W s => hie H24 _ W (hs3.up u24.up) s.agr) Z fun y27 H27 hy27 u27 => ?_
   obtain ⟨q27,d27,e27,_⟩ := hy27.sl
   simp only [List.cons.injEq,and_true,List.length_map] at e27
   subst e27
   have u5 := u24.trans u27
   have hs1b := hs1.up u5.up
   have hy24b := hy24.up u27.up
   refine .yv (.build Z (Fx.bld71_0_1_2_4_5 _ _ _ _ _ _ _ _ _)) Z<|.fn (tl := [_]) Z<|.sW .head Z Z Fx.size71 (by simp [Value.oneCell',strV]) Z<|.nt<|.sq<|.sr<|.yv (.fieldAddr Z Fx.field150_3) Z<|.yv (.load Z Fx.agg49 (.tail _<|.head _) Z) Z<|.yv (.lenSl Fx.sl49 Z) Z<|.m Z Z<|?_
   refine Sx.row0 60 4 ?_
   refine .nt<|.bk<|.lp (X := Nat × Hp × Value × List Value) [(3,_),(6,_),(9,_),(10,_),(11,_),(30,_),(31,_)] ⟨rfl,rfl,rfl,rfl,rfl,rfl,rfl,trivial⟩ [_,_] (fun z => [(32,.int .i64 (z.1 : Nat))]) (fun z => z.2.1) (fun z => [.row 60 4 z.2.2.1 z.1 z.2.2.2,.box b6 [.int .u8 kd.toNat,strV nm,strV hd,z.2.2.1,.slice q24 th.length d24,.slice q27 el.length d27] 71]) (fun z => z.1 ≤ ex.length ∧ HUp w H27 z.2.1 ∧ RepZ z.2.1 4 ((ex.take z.1).map (dEx .u8)) z.2.2.2) (fun z => ex.length - z.1) (0,H27,.slice none 0 0,[]) (fun _ s => s) ⟨rfl,trivial⟩ ⟨by simp,.refl,RepZ.nil⟩ fun z hC => ?_
   obtain ⟨j,H3,re,ys⟩ := z
   dsimp only at hC ⊢
   obtain ⟨hj0,u3,hze⟩ := hC
   refine .sr<|.yv (.lss Z Z) Z<|.nt<|.sq<|.cd Z (fun h33 => ?_) (fun h33 => ?_)
   ·try simp only [dt] at h33
    have hj : j < ex.length := by omega
    obtain ⟨bF,oF,cF,hpF,rF,lF,mF⟩ := (hs1b.up u3.up).elem (map_at (f := dEx .i64) hj)
    cases hpF
    have hnj : Ex.all narrow ex[j] = true := by
     have := List.all_eq_true.1 k5 _ (List.getElem_mem hj)
     simp only [okE,Bool.and_eq_true] at this
     exact this.2
    refine .sk<|.tN<|.sq<|.bk<|.sr<|.yv (.indexSl Fx.sl49 Z Z Z (by omega) (q := oF + j * 4) Z) Z<|.yv (.loadMW Z Fx.agg51 mF lF) Z<|.al Fx.zero51 Z fun b8 => .sV .head Z Z Fx.size51 lF rF.one Z<|.nt<|.fl (trip := [(_,_,_),(_,_,_),(_,_,_),(_,_,_),(_,_,_)]) 5 [(0,0),(1,0),(2,0),(3,1),(4,1)] (by kernel_rfl) (by kernel_rfl) Z<|.yv (.fieldAddr Z Fx.field71_3) Z<|.yv (.load Z Fx.agg58 (.tail _<|.tail _<|.head _) Z) Z<|.yv (.loadW Z Fx.agg51 (.head _) lF) Z<|.ct (X := List Value) Fx.call19 Z (fun W s => expr_any _ hnj H3 cF W rF s.agr) Z fun x39 H39 hx39 u39 => ?_
    generalize hxj : ex[j] = xj at hx39
    obtain ⟨op2,nm2,n2,args2⟩ := xj
    obtain ⟨pz,cz,rfl,hz2,hnm2⟩ := ex_open hx39
    exact .bl Z (Fx.bsl58_1 _ _ _ _) Z fun b40 => .fn (tl := [_,_,_]) Z<|.ap (news := [.int .u8 op2.toNat,strV nm2,.int .i64 n2.toInt,.slice pz args2.length cz]) Fx.row58 Z (fun _ => (.tail<|.tail<|.head)) Z (.box (.head _) z0) Z (by simp [Value.oneCell',strV]) (by simp [maxLen];omega) (by omega) Z fun r41 _ => .ra (.tail _<|.tail _<|.head _) fun p41 c41 e41 => .yv (.fieldAddr Z Fx.field71_3) Z<|.st (.tail<|.tail<|.tail<|.head) Z Z Fx.size58 (by rw [e41];rfl) (nb Z) Z<|.nl<|.bN<|.tN<|.rg<|.yv (.add Z Z (w6 (by omega))) Z<|.m Z Z<|.nt<|.ag (x := (j,H3,re,ys)) (j + 1,H39,r41,ys ++ [.int .u8 op2.toNat,strV nm2,.int .i64 n2.toInt,.slice pz args2.length cz]) ⟨rfl,trivial⟩ ⟨rfl,rfl,rfl,rfl,rfl,rfl,rfl,trivial⟩ (fun _ s => (s.pick [2,3,4,5] _ Z Z)) ⟨by dsimp only;omega,u3.trans u39,by dsimp only;rw [take_snoc hj,hxj,List.map_append];exact (hze.up u39.up).snoc hx39 Z⟩ (by dsimp only;omega)
   try simp only [df] at h33
   obtain rfl : j = ex.length := by omega
   rw [List.take_length] at hze
   refine Sx.freezeSeq (ds := ex.map (dEx .u8)) (by simp) hze fun H3 pX cX u6 eX hX => ?_
   subst eX
   have uX := u5.trans (u3.trans u6)
   have hy24X := hy24b.up (u3.trans u6).up
   have hy27X := hy27.up (u3.trans u6).up
   exact .ex<|.tE<|.tE<|.bE<|.tN<|.rg<|.m Z Z<|.yv (.loadW Z Fx.agg71 (.head _) Z) Z<|.bl Z (Fx.bsl69_1 _ _ _ _ _ _) Z fun b46 => .ap (news := [.int .u8 kd.toNat,strV nm,strV hd,.slice pX ex.length cX,.slice q24 th.length d24,.slice q27 el.length d27]) Fx.row69 Z (fun _ => (.tail<|.tail<|.tail<|.head)) Z (.box (.head _) z0) Z (by simp [Value.oneCell',strV]) (by simp [maxLen];omega) (by omega) Z fun r47 _ => .a Z Z<|.nl<|.bN<|.tN<|.rg<|.yv (.add Z Z (w6 (by omega))) Z<|.m Z Z<|.nt<|.ag (x := (k,H1,r,xs)) (k + 1,H3,r47,xs ++ [.int .u8 kd.toNat,strV nm,strV hd,.slice pX ex.length cX,.slice q24 th.length d24,.slice q27 el.length d27]) ⟨rfl,rfl,trivial⟩ ⟨rfl,rfl,trivial⟩ (fun _ s => (s.pick [3] _ Z Z)) ⟨by dsimp only;omega,u1.trans uX,by dsimp only;rw [take_snoc hk,hx,List.map_append];exact (hz.up uX.up).snoc (sm_shut (by omega) (by omega) hX hy24X hy27X) Z⟩ (by dsimp only;omega)
  refine .al Fx.zero71 Z fun b6 => .h1<|.ct (X := Value) Fx.call27 Z (fun W s => hit H1 _ W hs2 s.agr) Z fun y24 H24 hy24 u24 => ?_
  obtain ⟨q24,d24,e24,_⟩ := hy24.sl
  simp only [List.cons.injEq,and_true,List.length_map] at e24
  subst e24
  refine .h1<|.ct (X := Value) Fx.call27 Z (fun W s => hie H24 _ W (hs3.up u24.up) s.agr) Z fun y27 H27 hy27 u27 => ?_
  obtain ⟨q27,d27,e27,_⟩ := hy27.sl
  simp only [List.cons.injEq,and_true,List.length_map] at e27
  subst e27
  have u5 := u24.trans u27
  have hs1b := hs1.up u5.up
  have hy24b := hy24.up u27.up
  refine .yv (.build Z (Fx.bld71_0_1_2_4_5 _ _ _ _ _ _ _ _ _)) Z<|.fn (tl := [_]) Z<|.sW .head Z Z Fx.size71 (by simp [Value.oneCell',strV]) Z<|.nt<|.sq<|.sr<|.yv (.fieldAddr Z Fx.field150_3) Z<|.yv (.load Z Fx.agg49 (.tail _<|.head _) Z) Z<|.yv (.lenSl Fx.sl49 Z) Z<|.m Z Z<|?_
  refine Sx.row0 60 4 ?_
  refine .nt<|.bk<|.lp (X := Nat × Hp × Value × List Value) [(3,_),(6,_),(9,_),(10,_),(11,_),(30,_),(31,_)] ⟨rfl,rfl,rfl,rfl,rfl,rfl,rfl,trivial⟩ [_,_] (fun z => [(32,.int .i64 (z.1 : Nat))]) (fun z => z.2.1) (fun z => [.row 60 4 z.2.2.1 z.1 z.2.2.2,.box b6 [.int .u8 kd.toNat,strV nm,strV hd,z.2.2.1,.slice q24 th.length d24,.slice q27 el.length d27] 71]) (fun z => z.1 ≤ ex.length ∧ HUp w H27 z.2.1 ∧ RepZ z.2.1 4 ((ex.take z.1).map (dEx .u8)) z.2.2.2) (fun z => ex.length - z.1) (0,H27,.slice none 0 0,[]) (fun _ s => s) ⟨rfl,trivial⟩ ⟨by simp,.refl,RepZ.nil⟩ fun z hC => ?_
  obtain ⟨j,H3,re,ys⟩ := z
  dsimp only at hC ⊢
  obtain ⟨hj0,u3,hze⟩ := hC
  refine .sr<|.yv (.lss Z Z) Z<|.nt<|.sq<|.cd Z (fun h33 => ?_) (fun h33 => ?_)
  ·try simp only [dt] at h33
   have hj : j < ex.length := by omega
   obtain ⟨bF,oF,cF,hpF,rF,lF,mF⟩ := (hs1b.up u3.up).elem (map_at (f := dEx .i64) hj)
   cases hpF
   have hnj : Ex.all narrow ex[j] = true := by
    have := List.all_eq_true.1 k5 _ (List.getElem_mem hj)
    simp only [okE,Bool.and_eq_true] at this
    exact this.2
   refine .sk<|.tN<|.sq<|.bk<|.sr<|.yv (.indexSl Fx.sl49 Z Z Z (by omega) (q := oF + j * 4) Z) Z<|.yv (.loadMW Z Fx.agg51 mF lF) Z<|.al Fx.zero51 Z fun b8 => .sV .head Z Z Fx.size51 lF rF.one Z<|.nt<|.fl (trip := [(_,_,_),(_,_,_),(_,_,_),(_,_,_),(_,_,_)]) 5 [(0,0),(1,0),(2,0),(3,1),(4,1)] (by kernel_rfl) (by kernel_rfl) Z<|.yv (.fieldAddr Z Fx.field71_3) Z<|.yv (.load Z Fx.agg58 (.tail _<|.tail _<|.head _) Z) Z<|.yv (.loadW Z Fx.agg51 (.head _) lF) Z<|.ct (X := List Value) Fx.call19 Z (fun W s => expr_any _ hnj H3 cF W rF s.agr) Z fun x39 H39 hx39 u39 => ?_
   generalize hxj : ex[j] = xj at hx39
   obtain ⟨op2,nm2,n2,args2⟩ := xj
   obtain ⟨pz,cz,rfl,hz2,hnm2⟩ := ex_open hx39
   exact .bl Z (Fx.bsl58_1 _ _ _ _) Z fun b40 => .fn (tl := [_,_,_]) Z<|.ap (news := [.int .u8 op2.toNat,strV nm2,.int .i64 n2.toInt,.slice pz args2.length cz]) Fx.row58 Z (fun _ => (.tail<|.tail<|.head)) Z (.box (.head _) z0) Z (by simp [Value.oneCell',strV]) (by simp [maxLen];omega) (by omega) Z fun r41 _ => .ra (.tail _<|.tail _<|.head _) fun p41 c41 e41 => .yv (.fieldAddr Z Fx.field71_3) Z<|.st (.tail<|.tail<|.tail<|.head) Z Z Fx.size58 (by rw [e41];rfl) (nb Z) Z<|.nl<|.bN<|.tN<|.rg<|.yv (.add Z Z (w6 (by omega))) Z<|.m Z Z<|.nt<|.ag (x := (j,H3,re,ys)) (j + 1,H39,r41,ys ++ [.int .u8 op2.toNat,strV nm2,.int .i64 n2.toInt,.slice pz args2.length cz]) ⟨rfl,trivial⟩ ⟨rfl,rfl,rfl,rfl,rfl,rfl,rfl,trivial⟩ (fun _ s => (s.pick [2,3,4,5] _ Z Z)) ⟨by dsimp only;omega,u3.trans u39,by dsimp only;rw [take_snoc hj,hxj,List.map_append];exact (hze.up u39.up).snoc hx39 Z⟩ (by dsimp only;omega)
  try simp only [df] at h33
  obtain rfl : j = ex.length := by omega
  rw [List.take_length] at hze
  refine Sx.freezeSeq (ds := ex.map (dEx .u8)) (by simp) hze fun H3 pX cX u6 eX hX => ?_
  subst eX
  have uX := u5.trans (u3.trans u6)
  have hy24X := hy24b.up (u3.trans u6).up
  have hy27X := hy27.up (u3.trans u6).up
  exact .ex<|.tE<|.tE<|.bE<|.tN<|.rg<|.m Z Z<|.yv (.loadW Z Fx.agg71 (.head _) Z) Z<|.bl Z (Fx.bsl69_1 _ _ _ _ _ _) Z fun b46 => .ap (news := [.int .u8 kd.toNat,strV nm,strV hd,.slice pX ex.length cX,.slice q24 th.length d24,.slice q27 el.length d27]) Fx.row69 Z (fun _ => (.tail<|.tail<|.tail<|.head)) Z (.box (.head _) z0) Z (by simp [Value.oneCell',strV]) (by simp [maxLen];omega) (by omega) Z fun r47 _ => .a Z Z<|.nl<|.bN<|.tN<|.rg<|.yv (.add Z Z (w6 (by omega))) Z<|.m Z Z<|.nt<|.ag (x := (k,H1,r,xs)) (k + 1,H3,r47,xs ++ [.int .u8 kd.toNat,strV nm,strV hd,.slice pX ex.length cX,.slice q24 th.length d24,.slice q27 el.length d27]) ⟨rfl,rfl,trivial⟩ ⟨rfl,rfl,trivial⟩ (fun _ s => (s.pick [3] _ Z Z)) ⟨by dsimp only;omega,u1.trans uX,by dsimp only;rw [take_snoc hk,hx,List.map_append];exact (hz.up uX.up).snoc (sm_shut (by omega) (by omega) hX hy24X hy27X) Z⟩ (by dsimp only;omega)
 try simp only [df] at h12
 obtain rfl : k = l.length := by omega
 rw [List.take_length] at hz
 refine .ex<|.tE<|.tE<|.bE<|.tN<|.sr<|.m Z Z<|.a Z Z<|.nt<|.rt<|?_
 refine Sx.freezeSeq (ds := l.map (dSm .u8)) (by simp) hz fun HZ pZ cZ uZ eZ hZ => ?_
 exact Sx.ret1 (.inl rfl) rfl (.tmp rfl) fun W t => ⟨r,HZ,hZ,rfl,(u1.trans uZ).grow t⟩
set_option maxHeartbeats 2000000 in
set_option maxRecDepth 100000 in
theorem syntax_any (N : Nat) (hN : N ≤ 1000000) (H : Hp) (f : Ft) (hok : okFt N f) (cs : List Value) (w : World) (h : Rep H (dFt .i64 f) cs) (hA : Agr H w) :
 Calls Tryz.prog 10 #[.agg cs.toArray] w fun r w' => ∃ (y : List Value) (H' : Hp),Rep H' (dFt .u8 f) y ∧ r = .returned (.agg y.toArray) ∧ Grow H w H' w' := by
 obtain ⟨p1,c1,p2,c2,p3,c3,rfl,nf,k1,k2,k3⟩ := ft_open h
 have hcap1 := k1.cap
 have hcap2 := k2.cap
 have hcap3 := k3.cap
 have hfl := hok.flags
 have hll := hok.links
 have hcl := hok.comps
 refine Sx.enter (H := H) Tryz.func10 rfl Tryz.ntmps10 rfl hA ?_
 refine .sr<|.bx Z Z Z fun b1 => .al Fx.zero40 Z fun b2 => .ns<|.yv (.fieldAddr Z Fx.field32_0) Z<|.yv (.load Z Fx.agg9 (.tail _<|.head _) Z) Z<|.yv (.build Z (Fx.bld40_0 _)) Z<|.al Fx.zero40 Z fun b3 => .sW .head Z Z Fx.size40 (by simp [Value.oneCell',strV]) Z<|.nt<|.sq<|.sr<|.yv (.fieldAddr Z Fx.field32_1) Z<|.yv (.load Z Fx.agg28 (.tail _<|.tail _<|.head _) Z) Z<|.yv (.lenSl Fx.sl28 Z) Z<|.m Z Z<|?_
 refine Sx.row0 65 2 ?_
 refine .nt<|.bk<|.lp (X := Nat × Value × List Value) [(1,_),(2,_),(3,_),(22,_),(23,_)] ⟨rfl,rfl,rfl,rfl,rfl,trivial⟩ [_,_] (fun z => [(24,.int .i64 (z.1 : Nat))]) (fun z => H) (fun z => [.row 65 2 z.2.1 z.1 z.2.2,.box b3 [strV f.nm,z.2.1,.slice none 0 0,.slice none 0 0] 40]) (fun z => z.1 ≤ f.flags.length ∧ RepZ H 2 ((f.flags.take z.1).map dFg) z.2.2) (fun z => f.flags.length - z.1) (0,.slice none 0 0,[]) (fun _ s => s) ⟨rfl,trivial⟩ ⟨by simp,RepZ.nil⟩ fun z hC => ?_
 obtain ⟨k,r,xs⟩ := z
 dsimp only at hC ⊢
 obtain ⟨hk0,hz⟩ := hC
 refine .sr<|.yv (.lss Z Z) Z<|.nt<|.sq<|.cd Z (fun h25 => ?_) (fun h25 => ?_)
 ·try simp only [dt] at h25
  have hk : k < f.flags.length := by omega
  obtain ⟨bE,oE,cE,hpE,rE,lE,mE⟩ := k1.elem (map_at (f := dFg) hk)
  cases hpE
  generalize hx : f.flags[k] = x at rE
  obtain ⟨rfl,nx⟩ := fg_open rE
  exact .sk<|.tN<|.sq<|.bk<|.sr<|.yv (.indexSl Fx.sl28 Z Z Z (by omega) (q := oE + k * 2) Z) Z<|.yv (.loadMW Z Fx.agg84 mE Z) Z<|.al Fx.zero84 Z fun b5 => .sW .head Z Z Fx.size84 (by simp [Value.oneCell',strV]) Z<|.nt<|.rg<|.yv (.fieldAddr Z Fx.field40_1) Z<|.yv (.load Z Fx.agg36 (.tail _<|.tail _<|.head _) Z) Z<|.yv (.fieldAddr Z Fx.field84_0) Z<|.yv (.load Z Fx.agg9 (.head _) Z) Z<|.yv (.fieldAddr Z Fx.field84_1) Z<|.yv (.load Z Fx.agg4 (.head _) Z) Z<|.yv (.build Z (Fx.bld65_0_1 _ _)) Z<|.bl Z (Fx.bsl36_1 _ _) Z fun b35 => .ap (news := [strV x.nm,.bool x.init]) Fx.row36 Z (fun _ => (.tail<|.tail<|.head)) Z (.box (.head _) z0) Z (by simp [Value.oneCell',strV]) (by simp [maxLen];omega) (by omega) Z fun r36 _ => .ra (.tail _<|.tail _<|.head _) fun p36 c36 e36 => .yv (.fieldAddr Z Fx.field40_1) Z<|.st (.tail<|.tail<|.tail<|.head) Z Z Fx.size36 (by rw [e36];rfl) (nb Z) Z<|.nl<|.bN<|.tN<|.rg<|.yv (.add Z Z (w6 (by omega))) Z<|.m Z Z<|.nt<|.ag (x := (k,r,xs)) (k + 1,r36,xs ++ [strV x.nm,.bool x.init]) ⟨rfl,trivial⟩ ⟨rfl,rfl,rfl,rfl,rfl,trivial⟩ (fun _ s => (s.pick [2,3,4,5] _ Z Z)) ⟨by dsimp only;omega,by dsimp only;rw [take_snoc hk,hx,List.map_append];exact hz.snoc (fg_shut (x := x) nx) Z⟩ (by dsimp only;omega)
 try simp only [df] at h25
 obtain rfl : k = f.flags.length := by omega
 rw [List.take_length] at hz
 refine Sx.freezeSeq (ds := f.flags.map dFg) (by simp) hz fun H4 p4 c4 u4 e4 h4 => ?_
 subst e4
 refine .ex<|.tE<|.tE<|.bE<|.tN<|.sq<|.sr<|.yv (.fieldAddr Z Fx.field32_2) Z<|.yv (.load Z Fx.agg29 (.tail _<|.tail _<|.head _) Z) Z<|.yv (.lenSl Fx.sl29 Z) Z<|.m Z Z<|?_
 refine Sx.row0 87 3 ?_
 have k24 := k2.up u4.up
 refine .nt<|.bk<|.lp (X := Nat × Value × List Value) [(1,_),(2,_),(3,_),(40,_),(41,_)] ⟨rfl,rfl,rfl,rfl,rfl,trivial⟩ [_,_] (fun z => [(42,.int .i64 (z.1 : Nat))]) (fun z => H4) (fun z => [.row 87 3 z.2.1 z.1 z.2.2,.box b3 [strV f.nm,.slice p4 f.flags.length c4,z.2.1,.slice none 0 0] 40]) (fun z => z.1 ≤ f.links.length ∧ RepZ H4 3 ((f.links.take z.1).map dLk) z.2.2) (fun z => f.links.length - z.1) (0,.slice none 0 0,[]) (fun _ s => s) ⟨rfl,trivial⟩ ⟨by simp,RepZ.nil⟩ fun z hC => ?_
 obtain ⟨k,r,xs⟩ := z
 dsimp only at hC ⊢
 obtain ⟨hk0,hz⟩ := hC
 refine .sr<|.yv (.lss Z Z) Z<|.nt<|.sq<|.cd Z (fun h43 => ?_) (fun h43 => ?_)
 ·try simp only [dt] at h43
  have hk : k < f.links.length := by omega
  obtain ⟨bE,oE,cE,hpE,rE,lE,mE⟩ := k24.elem (map_at (f := dLk) hk)
  cases hpE
  generalize hx : f.links[k] = x at rE
  obtain ⟨rfl,nx,nx2⟩ := lk_open rE
  exact .sk<|.tN<|.sq<|.bk<|.sr<|.yv (.indexSl Fx.sl29 Z Z Z (by omega) (q := oE + k * 3) Z) Z<|.yv (.loadMW Z Fx.agg86 mE Z) Z<|.al Fx.zero86 Z fun b7 => .sW .head Z Z Fx.size86 (by simp [Value.oneCell',strV]) Z<|.nt<|.rg<|.yv (.fieldAddr Z Fx.field40_2) Z<|.yv (.load Z Fx.agg37 (.tail _<|.tail _<|.head _) Z) Z<|.yv (.fieldAddr Z Fx.field86_0) Z<|.yv (.load Z Fx.agg9 (.head _) Z) Z<|.yv (.fieldAddr Z Fx.field86_1) Z<|.yv (.load Z Fx.agg9 (.head _) Z) Z<|.yv (.fieldAddr Z Fx.field86_2) Z<|.yv (.load Z Fx.agg3 (.head _) Z) Z<|.yv (.build Z (Fx.bld87_0_1_2 _ _ _)) Z<|.bl Z (Fx.bsl37_1 _ _ _) Z fun b55 => .ap (news := [strV x.fr,strV x.to,.int .i64 x.lat.toInt]) Fx.row37 Z (fun _ => (.tail<|.tail<|.head)) Z (.box (.head _) z0) Z (by simp [Value.oneCell',strV]) (by simp [maxLen];omega) (by omega) Z fun r56 _ => .ra (.tail _<|.tail _<|.head _) fun p56 c56 e56 => .yv (.fieldAddr Z Fx.field40_2) Z<|.st (.tail<|.tail<|.tail<|.head) Z Z Fx.size37 (by rw [e56];rfl) (nb Z) Z<|.nl<|.bN<|.tN<|.rg<|.yv (.add Z Z (w6 (by omega))) Z<|.m Z Z<|.nt<|.ag (x := (k,r,xs)) (k + 1,r56,xs ++ [strV x.fr,strV x.to,.int .i64 x.lat.toInt]) ⟨rfl,trivial⟩ ⟨rfl,rfl,rfl,rfl,rfl,trivial⟩ (fun _ s => (s.pick [2,3,4,5] _ Z Z)) ⟨by dsimp only;omega,by dsimp only;rw [take_snoc hk,hx,List.map_append];exact hz.snoc (lk_shut (x := x) nx nx2) Z⟩ (by dsimp only;omega)
 try simp only [df] at h43
 obtain rfl : k = f.links.length := by omega
 rw [List.take_length] at hz
 refine Sx.freezeSeq (ds := f.links.map dLk) (by simp) hz fun H5 p5 c5 u5 e5 h5 => ?_
 subst e5
 refine .ex<|.tE<|.tE<|.bE<|.tN<|.sq<|.sr<|.yv (.fieldAddr Z Fx.field32_3) Z<|.yv (.load Z Fx.agg30 (.tail _<|.tail _<|.head _) Z) Z<|.yv (.lenSl Fx.sl30 Z) Z<|.m Z Z<|?_
 refine Sx.row0 80 3 ?_
 have k35 := k3.up (u4.trans u5).up
 have h45 := h4.up u5.up
 refine .nt<|.bk<|.lp (X := Nat × Hp × Value × List Value) [(2,_),(3,_),(60,_),(61,_)] ⟨rfl,rfl,rfl,rfl,trivial⟩ [_,_] (fun z => [(62,.int .i64 (z.1 : Nat))]) (fun z => z.2.1) (fun z => [.row 80 3 z.2.2.1 z.1 z.2.2.2,.box b3 [strV f.nm,.slice p4 f.flags.length c4,.slice p5 f.links.length c5,z.2.2.1] 40]) (fun z => z.1 ≤ f.comps.length ∧ HUp w H5 z.2.1 ∧ RepZ z.2.1 3 ((f.comps.take z.1).map (dCp .u8)) z.2.2.2) (fun z => f.comps.length - z.1) (0,H5,.slice none 0 0,[]) (fun _ s => s) ⟨rfl,trivial⟩ ⟨by simp,.refl,RepZ.nil⟩ fun z hC => ?_
 obtain ⟨k,Ha,rc,xs⟩ := z
 dsimp only at hC ⊢
 obtain ⟨hk0,ua,hz⟩ := hC
 refine .sr<|.yv (.lss Z Z) Z<|.nt<|.sq<|.cd Z (fun h63 => ?_) (fun h63 => ?_)
 ·try simp only [dt] at h63
  have hk : k < f.comps.length := by omega
  obtain ⟨bE,oE,cE,hpE,rE,lE,mE⟩ := (k35.up ua.up).elem (map_at (f := dCp .i64) hk)
  cases hpE
  have okc := hok.all _ (List.getElem_mem hk)
  generalize hx : f.comps[k] = x at rE okc
  obtain ⟨q1,d1,q2,d2,rfl,nx,g1,g2⟩ := cp_open rE
  have hcv := g1.cap
  have hcr := g2.cap
  have hvl := okc.vars
  have hrl := okc.vers
  refine .sk<|.tN<|.sq<|.bk<|.sr<|.yv (.indexSl Fx.sl30 Z Z Z (by omega) (q := oE + k * 3) Z) Z<|.yv (.loadMW Z Fx.agg91 mE Z) Z<|.al Fx.zero91 Z fun b9 => .sW .head Z Z Fx.size91 (by simp [Value.oneCell',strV]) Z<|.ns<|.yv (.fieldAddr Z Fx.field91_0) Z<|.yv (.load Z Fx.agg9 (.head _) Z) Z<|.yv (.build Z (Fx.bld80_0 _)) Z<|.al Fx.zero80 Z fun b10 => .sW .head Z Z Fx.size80 (by simp [Value.oneCell',strV]) Z<|.nt<|.sq<|.sr<|.yv (.fieldAddr Z Fx.field91_1) Z<|.yv (.load Z Fx.agg88 (.tail _<|.head _) Z) Z<|.yv (.lenSl Fx.sl88 Z) Z<|.m Z Z<|?_
  refine Sx.row0 96 3 ?_
  refine .nt<|.bk<|.lp (X := Nat × Value × List Value) [(2,_),(3,_),(9,_),(10,_),(60,_),(61,_),(62,_),(70,_),(71,_)] ⟨rfl,rfl,rfl,rfl,rfl,rfl,rfl,rfl,rfl,trivial⟩ [_,_,_,_,_] (fun z => [(72,.int .i64 (z.1 : Nat))]) (fun z => Ha) (fun z => [.row 96 3 z.2.1 z.1 z.2.2,.box b10 [strV x.nm,z.2.1,.slice none 0 0] 80]) (fun z => z.1 ≤ x.vars.length ∧ RepZ Ha 3 ((x.vars.take z.1).map (dVr .u8)) z.2.2) (fun z => x.vars.length - z.1) (0,.slice none 0 0,[]) (fun _ s => s) ⟨rfl,trivial⟩ ⟨by simp,RepZ.nil⟩ fun z hC => ?_
  obtain ⟨j,rv,ys⟩ := z
  dsimp only at hC ⊢
  obtain ⟨hj0,hzv⟩ := hC
  refine .sr<|.yv (.lss Z Z) Z<|.nt<|.sq<|.cd Z (fun h73 => ?_) (fun h73 => ?_)
  ·try simp only [dt] at h73
   have hj : j < x.vars.length := by omega
   obtain ⟨bF,oF,cF,hpF,rF,lF,mF⟩ := g1.elem (map_at (f := dVr .i64) hj)
   cases hpF
   generalize hv : x.vars[j] = v at rF
   obtain ⟨rfl,nv⟩ := vr_open rF
   exact .sk<|.tN<|.sq<|.bk<|.sr<|.yv (.indexSl Fx.sl88 Z Z Z (by omega) (q := oF + j * 3) Z) Z<|.yv (.loadMW Z Fx.agg93 mF Z) Z<|.al Fx.zero93 Z fun b12 => .sW .head Z Z Fx.size93 (by simp [Value.oneCell',strV]) Z<|.nt<|.rg<|.yv (.fieldAddr Z Fx.field80_1) Z<|.yv (.load Z Fx.agg78 (.tail _<|.tail _<|.head _) Z) Z<|.yv (.fieldAddr Z Fx.field93_0) Z<|.yv (.load Z Fx.agg9 (.head _) Z) Z<|.yv (.fieldAddr Z Fx.field93_1) Z<|.yv (.load Z Fx.agg3 (.head _) Z) Z<|.yv (.conv Z Fx.int3 Fx.int94 (c := (v.ty.toNat : Nat)) (by have := v.ty.toNat_lt;simp only [IntKind.wrap,IntKind.signed,IntKind.bits];simp;omega)) Z<|.yv (.fieldAddr Z Fx.field93_2) Z<|.yv (.load Z Fx.agg2 (.head _) Z) Z<|.yv (.build Z (Fx.bld96_0_1_2 _ _ _)) Z<|.bl Z (Fx.bsl78_1 _ _ _) Z fun b86 => .ap (news := [strV v.nm,.int .u8 v.ty.toNat,.int .i64 v.init.toInt]) Fx.row78 Z (fun _ => (.tail<|.tail<|.head)) Z (.box (.head _) z0) Z (by simp [Value.oneCell',strV]) (by simp [maxLen];omega) (by omega) Z fun r87 _ => .ra (.tail _<|.tail _<|.head _) fun p87 c87 e87 => .yv (.fieldAddr Z Fx.field80_1) Z<|.st (.tail<|.tail<|.tail<|.head) Z Z Fx.size78 (by rw [e87];rfl) (nb Z) Z<|.nl<|.bN<|.tN<|.rg<|.yv (.add Z Z (w6 (by omega))) Z<|.m Z Z<|.nt<|.ag (x := (j,rv,ys)) (j + 1,r87,ys ++ [strV v.nm,.int .u8 v.ty.toNat,.int .i64 v.init.toInt]) ⟨rfl,trivial⟩ ⟨rfl,rfl,rfl,rfl,rfl,rfl,rfl,rfl,rfl,trivial⟩ (fun _ s => (s.pick [2,3,4,5,6,7,8] _ Z Z)) ⟨by dsimp only;omega,by dsimp only;rw [take_snoc hj,hv,List.map_append];exact hzv.snoc (vr_shut (x := v) nv) Z⟩ (by dsimp only;omega)
  try simp only [df] at h73
  obtain rfl : j = x.vars.length := by omega
  rw [List.take_length] at hzv
  refine Sx.freezeSeq (ds := x.vars.map (dVr .u8)) (by simp) hzv fun HV pV cV uV eV hV => ?_
  subst eV
  refine .ex<|.tE<|.tE<|.bE<|.tN<|.sq<|.sr<|.yv (.fieldAddr Z Fx.field91_2) Z<|.yv (.load Z Fx.agg89 (.tail _<|.head _) Z) Z<|.yv (.lenSl Fx.sl89 Z) Z<|.m Z Z<|?_
  refine Sx.row0 76 1 ?_
  refine .nt<|.bk<|.lp (X := Nat × Hp × Value × List Value) [(2,_),(3,_),(10,_),(60,_),(61,_),(62,_),(91,_),(92,_)] ⟨rfl,rfl,rfl,rfl,rfl,rfl,rfl,rfl,trivial⟩ [_,_,_,_,_] (fun z => [(93,.int .i64 (z.1 : Nat))]) (fun z => z.2.1) (fun z => [.row 76 1 z.2.2.1 z.1 z.2.2.2,.box b10 [strV x.nm,.slice pV x.vars.length cV,z.2.2.1] 80]) (fun z => z.1 ≤ x.vers.length ∧ HUp w HV z.2.1 ∧ RepZ z.2.1 1 ((x.vers.take z.1).map (dVs .u8)) z.2.2.2) (fun z => x.vers.length - z.1) (0,HV,.slice none 0 0,[]) (fun _ s => s) ⟨rfl,trivial⟩ ⟨by simp,.refl,RepZ.nil⟩ fun z hC => ?_
  obtain ⟨i,Hb,rs,ws⟩ := z
  dsimp only at hC ⊢
  obtain ⟨hi0,ub,hzs⟩ := hC
  refine .sr<|.yv (.lss Z Z) Z<|.nt<|.sq<|.cd Z (fun h94 => ?_) (fun h94 => ?_)
  ·try simp only [dt] at h94
   have hi : i < x.vers.length := by omega
   obtain ⟨bG,oG,cG,hpG,rG,lG,mG⟩ := (g2.up (uV.trans ub).up).elem (map_at (f := dVs .i64) hi)
   cases hpG
   have okv := okc.all _ (List.getElem_mem hi)
   generalize hxv : x.vers[i] = v at rG okv
   obtain ⟨pv,cv,rfl,gv⟩ := vs_open rG
   have hcw := gv.cap
   have hwl := okv.len
   refine .sk<|.tN<|.sq<|.bk<|.sr<|.yv (.indexSl Fx.sl89 Z Z (i := i) Z hi (q := oG + i * 1) Z) Z<|.yv (.loadM Z Fx.agg97 mG (k := 0) Z Z) Z<|.a Z Z<|.ns<|.al Fx.zero76 Z fun b15 => .nt<|.sq<|.sr<|.m Z Z<|.yv (.lenSl Fx.sl97 Z) Z<|.m Z Z<|?_
   refine Sx.row0 73 3 ?_
   refine .nt<|.bk<|.lp (X := Nat × Hp × Value × List Value) [(2,_),(3,_),(10,_),(15,_),(60,_),(61,_),(62,_),(91,_),(92,_),(93,_),(97,_),(98,_)] ⟨rfl,rfl,rfl,rfl,rfl,rfl,rfl,rfl,rfl,rfl,rfl,rfl,trivial⟩ [_,_,_,_,_,_,_] (fun z => [(99,.int .i64 (z.1 : Nat))]) (fun z => z.2.1) (fun z => [.row 73 3 z.2.2.1 z.1 z.2.2.2,.box b15 [z.2.2.1] 76]) (fun z => z.1 ≤ v.length ∧ HUp w Hb z.2.1 ∧ RepZ z.2.1 3 ((v.take z.1).map (dHd .u8)) z.2.2.2) (fun z => v.length - z.1) (0,Hb,.slice none 0 0,[]) (fun _ s => s) ⟨rfl,trivial⟩ ⟨by simp,.refl,RepZ.nil⟩ fun z hC => ?_
   obtain ⟨j,Hc,rh,zs⟩ := z
   dsimp only at hC ⊢
   obtain ⟨hj0,uc,hzh⟩ := hC
   refine .sr<|.yv (.lss Z Z) Z<|.nt<|.sq<|.cd Z (fun h100 => ?_) (fun h100 => ?_)
   ·try simp only [dt] at h100
    have hj : j < v.length := by omega
    obtain ⟨bI,oI,cI,hpI,rI,lI,mI⟩ := (gv.up uc.up).elem (map_at (f := dHd .i64) hj)
    cases hpI
    have okh := okv.all _ (List.getElem_mem hj)
    generalize hxh : v[j] = y at rI okh
    obtain ⟨t1,w1,t2,w2,rfl,ny,m1,m2⟩ := hd_open rI
    have hyl := okh.ps
    refine .sk<|.tN<|.sq<|.bk<|.sr<|.yv (.indexSl Fx.sl97 Z Z Z (by omega) (q := oI + j * 3) Z) Z<|.yv (.loadMW Z Fx.agg100 mI Z) Z<|.al Fx.zero100 Z fun b17 => .sW .head Z Z Fx.size100 (by simp [Value.oneCell',strV]) Z<|.nt<|?_
    refine Sx.row0 9 1 ?_
    refine .fl (trip := [(_,_,_),(_,_,_),(_,_,_),(_,_,_),(_,_,_),(_,_,_),(_,_,_),(_,_,_),(_,_,_),(_,_,_),(_,_,_),(_,_,_)]) 12 [(0,0),(1,0),(2,0),(3,0),(4,0),(5,0),(7,0),(8,0),(6,3),(9,1),(10,0),(11,1)] (by kernel_rfl) (by kernel_rfl) Z<|.yv (.fieldAddr Z Fx.field76_0) Z<|.yv (.load Z Fx.agg74 (.tail _<|.tail _<|.tail _<|.head _) Z) Z<|.yv (.fieldAddr Z Fx.field100_0) Z<|.yv (.load Z Fx.agg9 (.tail _<|.head _) Z) Z<|.yv (.fieldAddr Z Fx.field100_1) Z<|.yv (.load Z Fx.agg66 (.tail _<|.head _) Z) Z<|.yv (.fieldAddr Z Fx.field100_2) Z<|.yv (.load Z Fx.agg98 (.tail _<|.head _) Z) Z<|.apD0 Fx.row66 Z (fun _ _ => .head) Z m1 (by simp [maxLen];omega) (by omega) Z (fun _ _ => (.yv (.load Z Fx.agg98 (.tail _<|.head _) Z)<|.yv (.fieldAddr Z Fx.field100_2)<|.done (by kernel_rfl)<|.done (by kernel_rfl)<|.yv (.load Z Fx.agg9 (.tail _<|.head _) Z)<|.yv (.fieldAddr Z Fx.field100_0)<|.yv (.load Z Fx.agg74 (.tail _<|.tail _<|.tail _<|.head _) Z)<|.yv (.fieldAddr Z Fx.field76_0)<|.nl)) fun xs109 p109 c109 hz109 => .ct (X := Value) Fx.call27 Z (fun W t => bodyL_any N hN y.body okh.body Hc _ W m2 t.agr) Z fun y112 H112 hy112 u112 => ?_
    obtain ⟨pB,cB,eB,_⟩ := hy112.sl
    simp only [List.cons.injEq,and_true,List.length_map] at eB
    subst eB
    refine .yv (.build Z (Fx.bld73_0_1_2 _ _ _ _ _ _ _)) Z<|.bl Z (Fx.bsl74_1 _ _ _) Z fun b114 => .fn (tl := [_,_,_]) Z<|.ap (news := [strV y.nm,.slice p109 y.ps.length c109,.slice pB y.body.length cB]) Fx.row74 Z (fun _ => (.tail<|.tail<|.tail<|.head)) Z (.box (.head _) z0) Z (by simp [Value.oneCell',strV]) (by simp [maxLen];omega) (by omega) Z fun r115 _ => .ra (.tail _<|.tail _<|.tail _<|.head _) fun p115 c115 e115 => .yv (.fieldAddr Z Fx.field76_0) Z<|.st (.tail<|.tail<|.tail<|.tail<|.head) Z Z Fx.size74 (by rw [e115];rfl) (nb Z) Z<|?_
    refine At.pm [1,0,2,3,4,5,6,7,8,9,10,11] [_,_,_,_,_,_,_,_,_,_,_,_] rfl rfl ?_
    refine Sx.freezeSeq (ds := y.ps.map dStr) (by simp) (RepZ.up u112.up hz109) fun HP pP cP uP eP hP => ?_
    obtain ⟨rfl,rfl⟩ := sl_inj eP
    exact .nl<|.bN<|.tN<|.rg<|.yv (.add Z Z (w6 (by omega))) Z<|.m Z Z<|.nt<|.ag (x := (j,Hc,rh,zs)) (j + 1,HP,r115,zs ++ [strV y.nm,.slice p109 y.ps.length c109,.slice pB y.body.length cB]) ⟨rfl,trivial⟩ ⟨rfl,rfl,rfl,rfl,rfl,rfl,rfl,rfl,rfl,rfl,rfl,rfl,trivial⟩ (fun _ s => (s.pick [2,3,4,5,6,7,8,9,10] _ Z Z)) ⟨by dsimp only;omega,uc.trans (u112.trans uP),by dsimp only;rw [take_snoc hj,hxh,List.map_append];exact (hzh.up (u112.trans uP).up).snoc (hd_shut (x := y) ny hP (hy112.up uP.up)) Z⟩ (by dsimp only;omega)
   try simp only [df] at h100
   obtain rfl : j = v.length := by omega
   rw [List.take_length] at hzh
   refine Sx.freezeSeq (ds := v.map (dHd .u8)) (by simp) hzh fun HH pH cH uH eH hH => ?_
   subst eH
   have uh := uc.trans uH
   exact .ex<|.tE<|.tE<|.bE<|.tN<|.rg<|.yv (.fieldAddr Z Fx.field80_2) Z<|.yv (.load Z Fx.agg77 (.tail _<|.tail _<|.head _) Z) Z<|.yv (.loadW Z Fx.agg76 (.head _) Z) Z<|.bl Z (Fx.bsl77_1 _) Z fun b121 => .ap (news := [.slice pH v.length cH]) Fx.row77 Z (fun _ => (.tail<|.tail<|.head)) Z (.box (.head _) z0) Z (by simp [Value.oneCell',strV]) (by simp [maxLen];omega) (by omega) Z fun r122 _ => .ra (.tail _<|.tail _<|.head _) fun p122 c122 e122 => .yv (.fieldAddr Z Fx.field80_2) Z<|.st (.tail<|.tail<|.tail<|.head) Z Z Fx.size77 (by rw [e122];rfl) (nb Z) Z<|.nl<|.bN<|.tN<|.rg<|.yv (.add Z Z (w6 (by omega))) Z<|.m Z Z<|.nt<|.ag (x := (i,Hb,rs,ws)) (i + 1,HH,r122,ws ++ [.slice pH v.length cH]) ⟨rfl,trivial⟩ ⟨rfl,rfl,rfl,rfl,rfl,rfl,rfl,rfl,trivial⟩ (fun _ s => (s.pick [2,3,4,5,6,7,8] _ Z Z)) ⟨by dsimp only;omega,ub.trans uh,by dsimp only;rw [take_snoc hi,hxv,List.map_append];exact (hzs.up uh.up).snoc hH Z⟩ (by dsimp only;omega)
  try simp only [df] at h94
  obtain rfl : i = x.vers.length := by omega
  rw [List.take_length] at hzs
  refine Sx.freezeSeq (ds := x.vers.map (dVs .u8)) (by simp) hzs fun HS pS cS uS eS hS => ?_
  subst eS
  have uX := uV.trans (ub.trans uS)
  have hVX := hV.up (ub.trans uS).up
  exact .ex<|.tE<|.tE<|.bE<|.tN<|.rg<|.yv (.fieldAddr Z Fx.field40_3) Z<|.yv (.load Z Fx.agg38 (.tail _<|.tail _<|.tail _<|.head _) Z) Z<|.yv (.loadW Z Fx.agg80 (.head _) Z) Z<|.bl Z (Fx.bsl38_1 _ _ _) Z fun b128 => .ap (news := [strV x.nm,.slice pV x.vars.length cV,.slice pS x.vers.length cS]) Fx.row38 Z (fun _ => (.tail<|.tail<|.tail<|.head)) Z (.box (.head _) z0) Z (by simp [Value.oneCell',strV]) (by simp [maxLen];omega) (by omega) Z fun r129 _ => .ra (.tail _<|.tail _<|.tail _<|.head _) fun p129 c129 e129 => .yv (.fieldAddr Z Fx.field40_3) Z<|.st (.tail<|.tail<|.tail<|.tail<|.head) Z Z Fx.size38 (by rw [e129];rfl) (nb Z) Z<|.nl<|.bN<|.tN<|.rg<|.yv (.add Z Z (w6 (by omega))) Z<|.m Z Z<|.nt<|.ag (x := (k,Ha,rc,xs)) (k + 1,HS,r129,xs ++ [strV x.nm,.slice pV x.vars.length cV,.slice pS x.vers.length cS]) ⟨rfl,trivial⟩ ⟨rfl,rfl,rfl,rfl,trivial⟩ (fun _ s => (s.pick [3,4,5,6] _ Z Z)) ⟨by dsimp only;omega,ua.trans uX,by dsimp only;rw [take_snoc hk,hx,List.map_append];exact (hz.up uX.up).snoc (cp_shut (x := x) nx hVX hS) Z⟩ (by dsimp only;omega)
 try simp only [df] at h63
 obtain rfl : k = f.comps.length := by omega
 rw [List.take_length] at hz
 refine Sx.freezeSeq (ds := f.comps.map (dCp .u8)) (by simp) hz fun HZ pZ cZ uZ eZ hZ => ?_
 subst eZ
 refine .ex<|.tE<|.tE<|.bE<|.tN<|.sr<|.yv (.loadW Z Fx.agg40 (.head _) Z) Z<|.sW (.tail<|.head) Z Z Fx.size40 (by simp [Value.oneCell',strV]) Z<|.nt<|.rt<|?_
 exact Sx.ret1 (.inl rfl) rfl (.cell rfl Fx.agg40 (.tail _<|.head _) rfl) fun W t => ⟨_,HZ,ft_shut (x := f) nf (h45.up (ua.trans uZ).up) (h5.up (ua.trans uZ).up) hZ,rfl,(u4.trans (u5.trans (ua.trans uZ))).grow t⟩
theorem Fx.call7 : callN Tryz.prog 7 = Bool.true := by kernel_rfl
theorem Fx.call8 : callN Tryz.prog 8 = Bool.true := by kernel_rfl
theorem Fx.call10 : callN Tryz.prog 10 = Bool.true := by kernel_rfl
theorem Fx.call11 : callN Tryz.prog 11 = Bool.true := by kernel_rfl
theorem okS1_of {N : Nat} : ∀ s,okS2 N s = true → okS1 s = true
 | .mk _ _ _ ex _ _,h => by
  simp only [okS2,Bool.and_eq_true,List.all_eq_true] at h
  simp only [okS1,List.all_eq_true,decide_eq_true_eq]
  intro e he
  have := h.2 e he
  simp only [okE,Bool.and_eq_true,decide_eq_true_eq] at this
  omega
theorem evH_ok {N : Nat} (hN : N ≤ 1000000) {f : Ft} (h : okFt N f) : evH okH f = true := by
 simp only [evH,List.all_eq_true]
 intro c hc v hv x hx
 have k := ((h.all c hc).all v hv).all x hx
 have k1 := k.body.cnt
 have k2 := k.body.dep
 simp only [okH,Bool.and_eq_true,decide_eq_true_eq]
 exact ⟨⟨by omega,by omega⟩,salls_imp okS1_of _ k.body.all⟩
theorem Fx.call12 : callN Tryz.prog 12 = Bool.true := by kernel_rfl
set_option maxRecDepth 100000 in
theorem syntaxPrints_any (H : Hp) (G : Gl H) (g : Gt H) (p : Pln) (l : List Sp) (cs : List Value) (v0 : Value) (h : Rep H (dPln p) cs) (hl : Rep H (.seq 5 (l.map dSp)) [v0]) (w : World) (hA : Agr H w) :
 Calls Tryz.prog 4 #[.agg cs.toArray,v0] w fun r w' => r = .returned (.bool true) ∧ Ext w w' := by
 obtain ⟨p1,c1,p2,c2,rfl,_,_⟩ := pln_open h
 refine Sx.enter (H := H) Tryz.func4 rfl Tryz.ntmps4 rfl hA ?_
 refine .sr<|.bx Z Z Z fun b2 => .a Z Z<|.nt<|.sq<|.sr<|.yv (.call Fx.call7 Z (fun W t => awake_any H G g W t.agr)) Z<|.yv (.not Z) Z<|.nt<|.cF Z<|.sk<|.tN<|.sr<|.yv (.loadW Z Fx.agg25 (.head _) Z) Z<|.m Z Z<|.ct (X := List Value) Fx.call8 Z (fun W t => spoilt_any H p l _ v0 W h hl t.agr) Z fun x1 H1 hc1 u1 => ?_
 obtain ⟨f,hf,hok⟩ := hc1
 refine .al Fx.zero32 Z fun b5 => .sV .head Z Z Fx.size32 (ft_len hf) hf.one Z<|.ns<|.a Z Z<|.nt<|.sq<|.sr<|.yv (.loadW Z Fx.agg32 (.head _) (ft_len hf)) Z<|.yv (.call Fx.call11 Z (fun W t => checkR_f 50000 (by decide) H1 f hok x1 W hf t.agr)) Z<|.yv (.eql Z Z) Z<|.nt<|.cd Z (fun h14 => ?_) (fun h14 => ?_)
 ·try simp only [dt] at h14
  have hck : checkF f = 0 := by omega
  refine .rg<|.yv (.loadW Z Fx.agg32 (.head _) (ft_len hf)) Z<|.yv (.call Fx.call12 Z (fun W t => printR_any H1 f (okPr_of hck) (ftT_len hok hck) x1 W hf t.agr)) Z<|.a Z Z<|.ns<|.yv (.loadW Z Fx.agg32 (.head _) (ft_len hf)) Z<|.ct (X := List Value) Fx.call10 Z (fun W t => syntax_any 50000 (by decide) H1 f hok x1 W hf t.agr) Z fun y1 H2 hy1 u2 => ?_
  have v2 := u1.up.trans u2.up
  refine .yv (.cast (.call Fx.call13 Z (fun W t => print_any H2 (G.up v2) (g.up v2) f y1 hy1 (evH_ok (by decide) hok) (fun h => ftT_len hok h) W t.agr)) (by first | (rw [if_pos hck];exact rfl) | (rw [if_neg hck];exact rfl))) Z<|.m Z Z<|.yv (.eqS Z Z) Z<|.a Z Z<|.nt<|.rt<|?_
  exact Sx.ret1 (.inl rfl) rfl (.tmp rfl) fun W t => ⟨congrArg (fun q => Ending.returned (.bool q)) (by first | rfl | simp),((u1.trans u2).grow t).ext⟩
 try simp only [df] at h14
 have hck : ¬ checkF f = 0 := by omega
 refine .sk<|.tN<|.sr<|.yv (.loadW Z Fx.agg32 (.head _) (ft_len hf)) Z<|.ct (X := List Value) Fx.call10 Z (fun W t => syntax_any 50000 (by decide) H1 f hok x1 W hf t.agr) Z fun y1 H2 hy1 u2 => ?_
 have v2 := u1.up.trans u2.up
 refine .yv (.cast (.call Fx.call13 Z (fun W t => print_any H2 (G.up v2) (g.up v2) f y1 hy1 (evH_ok (by decide) hok) (fun h => ftT_len hok h) W t.agr)) (by first | (rw [if_pos hck];exact rfl) | (rw [if_neg hck];exact rfl))) Z<|.m Z Z<|.yv (.eqS Z Z) Z<|.a Z Z<|.nt<|.rt<|?_
 exact Sx.ret1 (.inl rfl) rfl (.tmp rfl) fun W t => ⟨congrArg (fun q => Ending.returned (.bool q)) (by first | rfl | simp),((u1.trans u2).grow t).ext⟩
variable {H : Type} {enc : TypeId × Value → H}
theorem wrap {a : Assume} {C : Checked} {os : Os} {f : FuncId} {fn : Func} {s : ChangeSpec} {conds : List PathCond} {apart fresh handsOn again : Bool} {X : World → Array Value → Prop}
 (hX : ∀ (w w' : World) (args : Array Value),w.heap = w'.heap → X w args → X w' args)
 (own : ownKnob C.prog.godebug = none) (started : os.Started) (noInit : C.prog.inits.idxOf? f = none) (hfn : C.prog.funcs[f]? = some fn)
 (witness : ∃ (w : World) (tape : Tape) (i : Input),w.os = os ∧ (w.forCall tape i).Shaped C.prog ∧ i.vars = [] ∧ Input.okWide C.prog (w.forCall tape i) .any w.heap.size f i ∧
  ((s.pre enc C.prog fn conds apart (w.forCall tape i).memory i.args ∧ X (w.forCall tape i).memory i.args) ∧ sizedMet enc C.prog fn (OpenSpec.ofChange s) apart (w.forCall tape i).memory i.args) ∧ a.holds C.prog (lone (Frame.enter C.prog f i.args .normal) [] (w.forCall tape i)))
 (contract : ∀ (W : World) (base : Nat) (args : Array Value) (ds gs : List (DataW H)) (before : List MemPlace),
  (∀ (j : Nat) t v,fn.params[j]? = some t → args[j]? = some v → Value.okWide C.prog W .any base t v) →
  DataW.Whole enc C.prog fn.params.toList s.vars apart W args.toList ds gs before →
  X W args → W.ShapedOpen C.prog →
  Calls C.prog f args W fun e W' => ∃ v,e = .returned v ∧ s.post enc C.prog fn apart fresh handsOn again W args v W') :
 ReturnsInHanded a C os f .any (fun w args => (s.pre enc C.prog fn conds apart w args ∧ X w args) ∧ sizedMet enc C.prog fn (OpenSpec.ofChange s) apart w args) (s.post enc C.prog fn apart fresh handsOn again) := by
 refine returnsInHanded_of_calls own started noInit witness ?_
 intro w tape i _ hsh _ hok hpre _
 obtain ⟨_,_,_,fn',hfn',_,_,_,_,hval⟩ := hok
 have e : fn' = fn := Option.some.inj (hfn'.symm.trans hfn)
 subst e
 obtain ⟨⟨⟨ds,gs,before,hw,_⟩,hx⟩,_⟩ := hpre
 have hw' := DataW.Whole.of_heap (w' := w.forCall tape i) (by rfl) hw
 refine (contract (w.forCall tape i) w.heap.size i.args ds gs before hval hw' (hX _ _ _ (by rfl) hx) hsh).mono fun e W' ⟨v,he,hp⟩ => ?_
 subst he
 exact ChangeSpec.post_blind hp

theorem own : ownKnob Tryz.prog.godebug = none := by kernel_rfl
def laids : List (String × DataW Unit) := [("math/bits.deBruijn32tab",Rows.laid_math_bits_deBruijn32tab),("math/bits.deBruijn64tab",Rows.laid_math_bits_deBruijn64tab),("internal/strconv.uint64pow10",Rows.laid_internal_strconv_uint64pow10),("rootcause/lexer.words",Rows.laid_rootcause_lexer_words),("rootcause/lexer.symbols",Rows.laid_rootcause_lexer_symbols),("rootcause/syntax.shapes",Rows.laid_rootcause_syntax_shapes),("rootcause/syntax.forms",Rows.laid_rootcause_syntax_forms)]
theorem gTab : Tryz.prog.globalNamed "internal/strconv.uint64pow10" = some 4 := by kernel_rfl
theorem gTabT : (Tryz.prog.globals[4]?).map (·.type) = some 237 := by kernel_rfl
theorem cellsTab : Tryz.prog.cellsOf 237 = 20 := by kernel_rfl
theorem cellsTabE : Tryz.prog.cellsOf 139 = 1 := by kernel_rfl
theorem tabEq : (Rows.laid_internal_strconv_uint64pow10 : DataW Unit) = Lib.tabData .u64 Lib.pow10Tab := by kernel_rfl
theorem gt_of {W : World} (h : laidMet Tryz.prog laids W) : Gt (allH W) := by
 intro W' hA
 have h1 : Lib.TabIs Tryz.prog W "internal/strconv.uint64pow10" .u64 Lib.pow10Tab := Lib.tabIs_of_head gTab gTabT Tryz.underlying237 Tryz.underlying139 cellsTabE cellsTab (tabEq ▸ h.tail.tail)
 unfold Lib.TabIs World.var? at *
 rw [gTab] at *
 simp only [Option.bind_some] at *
 split at h1
 ·rename_i cs T m hb
  rw [hA 4 _ hb]
  exact h1
 ·cases h1
theorem gl_of {W : World} (h : laidMet Tryz.prog laids W) : Gl (allH W) :=
 ⟨laid_mem (t := 213) (.arr 24 (.str [.int .i64,.bool,.int .i64,.strg])) _ (by kernel_rfl) (by kernel_rfl) (by kernel_rfl) (by kernel_rfl) (by kernel_rfl) h.tail.tail.tail.tail.tail,
  laid_mem (t := 218) (.arr 11 (.str [.bool,.bool,.int .i64,.int .i64,.bool,.bool])) _ (by kernel_rfl) (by kernel_rfl) (by kernel_rfl) (by kernel_rfl) (by kernel_rfl) h.tail.tail.tail.tail.tail.tail,
  laid_mem (t := 233) (.arr 39 .strg) _ (by kernel_rfl) (by kernel_rfl) (by kernel_rfl) (by kernel_rfl) (by kernel_rfl) h.tail.tail.tail,
  laid_mem (t := 216) (.arr 25 .strg) _ (by kernel_rfl) (by kernel_rfl) (by kernel_rfl) (by kernel_rfl) (by kernel_rfl) h.tail.tail.tail.tail⟩
theorem laid_met (os : Os) (args : Array Value) : laidMet Tryz.prog laids ((World.laidAll Tryz.prog os laids).forCall (fun _ _ => 0) ⟨#[],args,[]⟩).memory :=
 laidMet_laidAll _ (by kernel_rfl) (by kernel_rfl)
theorem laid_shaped (os : Os) (args : Array Value) : ((World.laidAll Tryz.prog os laids).forCall (fun _ _ => 0) ⟨#[],args,[]⟩).Shaped Tryz.prog :=
 World.shaped_of_ZipB (by kernel_rfl) (by kernel_rfl)
theorem ext_kept {W W' : World} (h : Ext W W') : ∀ may,W.keptBut W' may := fun may => (Ext.below h).frame may
theorem laidOut : laidOutB Tryz.prog = true := by kernel_rfl
end Go.Proofs.YtmbiojpcidccjaaGreatDoor
