/- Texts of the proof, one behind the other. -/
import Derived.Test.YthhoebdlfjffkaaGreatDoorMf
set_option linter.all false
namespace Go.Proofs.YthhoebdlfjffkaaGreatDoor
open Go.RowKit Go.Par Go.Sx
theorem sfx_mu {q : Sg} {ts : List Tk} (hts : ts.length ≤ 600000) (h : q.r <:+ ts) : q.mu ≤ 700000 := by
 have := h.length_le
 unfold Sg.mu
 split <;> omega
def vmW (i : Nat) : Str := if i = 0 then [50] else [51]
def gVmR (i : Nat) : Pz (List (List Hd)) := if i = 0 then gVm else if i = 1 then gAlt [118,101,114,115,105,111,110] (gBind (gVn [51]) fun w => gPure [w]) (gPure []) else gPure []
theorem gVmR_eq {i : Nat} (h : i < 2) : gVmR i = gAlt [118,101,114,115,105,111,110] (gBind (gVn (vmW i)) fun v => gBind (gVmR (i + 1)) fun l => gPure (v :: l)) (gPure []) := by
 rcases (show i = 0 ∨ i = 1 by omega) with rfl | rfl
 ·show gVm = gAlt [118,101,114,115,105,111,110] (gBind (gVn [50]) fun v => gBind (gAlt [118,101,114,115,105,111,110] (gBind (gVn [51]) fun w => gPure [w]) (gPure [])) fun l => gPure (v :: l)) (gPure [])
  simp only [gAlt_bind,gBind_assoc,gPure_bind]
  rfl
 ·show gAlt [118,101,114,115,105,111,110] (gBind (gVn [51]) fun w => gPure [w]) (gPure []) = gAlt [118,101,114,115,105,111,110] (gBind (gVn [51]) fun v => gBind (gPure []) fun l => gPure (v :: l)) (gPure [])
  simp only [gPure_bind]
theorem vmW_or (i : Nat) : vmW i = [50] ∨ vmW i = [51] := by
 unfold vmW
 split
 ·exact .inl Z
 ·exact .inr Z
theorem vm_at {i : Nat} (h : i < 2) : ([.string ⟨#[50]⟩,.string ⟨#[51]⟩] : List Value)[i]? = some (strV (vmW i)) := by
 rcases (show i = 0 ∨ i = 1 by omega) with rfl | rfl <;> rfl
structure VmI (n : Nat) (q : Sg) (i : Nat) (l : List (List Hd)) (q1 : Sg) : Prop where
 eq : up n (gVmR i) q1 = up n gVm q
 val : ∀ l',vl (gVmR i) q1 l' → vl gVm q (l ++ l')
theorem VmI.start {n : Nat} {q : Sg} : VmI n q 0 [] q := ⟨rfl,fun _ h => h⟩
theorem VmI.step {n i : Nat} {q q1 : Sg} {l : List (List Hd)} {a : List Hd} (h : VmI n q i l q1) (hi : i < 2) (hac : ac [118,101,114,115,105,111,110] q1 = true) (hv : vl (gVn (vmW i)) q1.tl a) : VmI n q (i + 1) (l ++ [a]) (up n (gVn (vmW i)) q1.tl) := by
 refine ⟨?_,fun l' hl' => ?_⟩
 ·rw [← h.eq,gVmR_eq hi,up_altT hac,up_bind (Cz.vn _) hv,up_map]
 ·rw [List.append_assoc]
  refine h.val _ ?_
  rw [gVmR_eq hi]
  exact vl_altT hac (vl_bind (n := n) hv (vl_map hl'))
theorem VmI.no {n i : Nat} {q q1 : Sg} {l : List (List Hd)} (h : VmI n q i l q1) (hi : i < 2) (hac : ac [118,101,114,115,105,111,110] q1 = false) : up n gVm q = q1 ∧ vl gVm q l := by
 refine ⟨by rw [← h.eq,gVmR_eq hi,up_altF hac,up_pure],?_⟩
 have := h.val [] (by rw [gVmR_eq hi];exact vl_altF hac vl_pure)
 rwa [List.append_nil] at this
theorem VmI.end {n : Nat} {q q1 : Sg} {l : List (List Hd)} (h : VmI n q 2 l q1) : up n gVm q = q1 ∧ vl gVm q l := by
 have e : gVmR 2 = gPure [] := rfl
 refine ⟨by rw [← h.eq,e,up_pure],?_⟩
 have := h.val [] (by rw [e];exact vl_pure)
 rwa [List.append_nil] at this
set_option maxRecDepth 100000 in
theorem component_st {b n : Nat} {ts : List Tk} (hts : ts.length ≤ 600000) {tp : Option Addr} {tc : Nat} {t0 t1 t2 : Value} : ItemC 77 gCp (dCp .u8) 110 3 (fun _ => t0) (fun _ => t1) (fun _ => t2) (fun v => v) b n ts tp tc := by
 intro H w0 W bs q v k xs K hq hk s
 refine Sx.enterS Tryz.func77 rfl Tryz.ntmps77 rfl s ?_
 refine .sr<|.al Fx.zero110 Z fun b2 => ?_
 refine Sx.row0 151 3 ?_
 refine .ns<|.m Z Z<|.cs (X := Str) Fx.call74 Z (fun W s => name_st K hq  (s.pickT (hd := [_,_,_,_]) (tl := bs) (hd' := [_,_,_,_]) [3,0,1,2] Z Z)) Z fun nm hnm => .yv (.fieldAddr Z Fx.field110_0) Z<|.st (.tail<|.tail<|.head) Z Z Fx.size9 Z (nb Z) Z<|.ns<|.m Z Z<|.cs (X := Unit) Fx.call73 Z (fun W s => expect_nd K (Suf.nm.up hq) [123] (by decide +kernel) (s.pickT (hd := [_,_,_,_]) (tl := bs) (hd' := [_,_,_,_]) [0,1,2,3] Z Z)) Z fun _ _ => .nt<|.sq<|.bk<|.lp (X := List Vr × Nat × Option Addr × Nat × List Value × Hp × Sg) [(0,_),(2,_)] ⟨rfl,rfl,trivial⟩ (_ :: bs) (fun z => []) (fun z => z.2.2.2.2.2.1) (fun z => [.row 151 3 (.slice z.2.2.1 z.2.1 z.2.2.2.1) z.2.1 z.2.2.2.2.1,.box b [.slice tp ts.length tc,.int .i64 (posN ts z.2.2.2.2.2.2 : Nat),.int .i64 (n : Nat),t0,t1,t2,v,.int .i64 (z.2.2.2.2.2.2.o : Nat),.int .i64 (z.2.2.2.2.2.2.e : Nat)] 99,.box b2 [strV nm,.slice z.2.2.1 z.2.1 z.2.2.2.1,.slice none 0 0] 110]) (fun z => MnI n [118,97,114] gVr (up n (gNd [123]) (up n gNm q)) z.1 z.2.2.2.2.2.2 ∧ z.2.1 = z.1.length ∧ HUp w0 H z.2.2.2.2.2.1 ∧ RepZ z.2.2.2.2.2.1 3 (z.1.map (dVr .u8)) z.2.2.2.2.1 ∧ z.2.2.2.2.2.2.r <:+ ts) (fun z => z.2.2.2.2.2.2.mu) ([],0,none,0,[],H,(up n (gNd [123]) (up n gNm q))) (fun _ s => (s.pickT (hd := [_,_,_,_]) (tl := bs) (hd' := [_,_,_,_]) [1,0,2,3] Z Z)) trivial ⟨MnI.start,rfl,.refl,RepZ.nil,(Suf.nd _).up (Suf.nm.up hq)⟩ fun z hC => ?_
 obtain ⟨lv,kv,pv,cv,xv,H1,q1⟩ := z
 obtain ⟨hI,hkv,u1,hzv,hq1⟩ := hC
 dsimp only at hI hkv u1 hzv hq1 ⊢
 have K1 := K.up u1.up
 have hlen := hI.len
 have hmx := sfx_mu hts ((Suf.nd [123]).up (n := n) (Suf.nm.up (n := n) hq))
 refine .sq<|.sr<|.m Z Z<|.cs (X := Unit) Fx.call72 Z (fun W s => accept_ac K1 hq1 [118,97,114] (by decide +kernel) (s.pickT (hd := [_,_,_,_]) (tl := bs) (hd' := [_,_,_,_]) [1,0,2,3] Z Z)) Z fun _ _ => .nt<|.cd Z (fun h11 => ?_) (fun h11 => ?_)
 ·rw [acS_T h11]
  exact .sk<|.tN<|.bk<|.fl (trip := [(_,_,_),(_,_,_),(_,_,_),(_,_,_),(_,_,_),(_,_,_)]) 6 [(0,0),(1,0),(2,0),(3,3),(4,1),(5,3)] (by kernel_rfl) (by kernel_rfl) Z<|.yv (.fieldAddr Z Fx.field110_1) Z<|.yv (.load Z Fx.agg107 (.tail _<|.tail _<|.head _) Z) Z<|.m Z Z<|.c3 (X := Vr) Fx.call121 Z (fun W s => variable_st K1 (Suf.tl hq1) (s.pickT (hd := [_,_,_,_]) (tl := bs) (hd' := [_,_,_,_]) [0,1,2,3] Z Z)) Z (fun _ _ => (.done (by kernel_rfl)<|.yv (.load Z Fx.agg107 (.tail _<|.tail _<|.head _) Z)<|.yv (.fieldAddr Z Fx.field110_1)<|.nl)) fun vr hvr => .blF Z (Fx.bsl107_1 _ _ _) Z fun b16 H2 u2 m2 => .apD Fx.row107 Z (fun _ _ => (.tail<|.head)) Z (Rep.mk (n := 1) (c := 1) (ds := [dVr .u8 vr]) m2 (.single (vr_shut hvr.2) Z) Z (Nat.le_refl _) (by decide)) (by simp only [maxLen];omega) (by omega) Z (fun _ _ => (.done (by kernel_rfl)<|.done (by kernel_rfl)<|.done (by kernel_rfl)<|.nl)) fun xs17 p17 c17 hz17 => .fn (tl := [_,_]) Z<|.yv (.fieldAddr Z Fx.field110_1) Z<|.st (.tail<|.tail<|.head) Z Z Fx.size107 Z (nb Z) Z<|.nl<|.bN<|.tN<|.ag (x := (lv,kv,pv,cv,xv,H1,q1)) (lv ++ [vr],kv + 1,p17,c17,xv ++ xs17,H2,up n gVr q1.tl) trivial ⟨rfl,rfl,trivial⟩ (fun _ s => (s.pickT (hd := [_,_,_,_]) (tl := bs) (hd' := [_,_,_,_]) [1,0,2,3] Z Z)) ⟨(hI.step Shs.vr.le Cz.vr h11 hvr.1).1,by simp [hkv],u1.trans u2,by dsimp only;rw [List.map_append];exact (hzv.up u2.up).app hz17,Suf.vr.up (Suf.tl hq1)⟩ (hI.step Shs.vr.le Cz.vr h11 hvr.1).2
 rw [acS_F h11]
 obtain ⟨eV,hvV⟩ := hI.stop Shs.vr.le h11
 subst hkv
 refine .ex<|.tE<|.tE<|.bE<|.tN<|.sr<|.m Z Z<|.cs (X := List Hd × Value × Hp) Fx.call122 Z (fun W s => version_st K1 hq1 (sfx_mu hts hq1) (s.pickT (hd := [_,_,_,_]) (tl := bs) (hd' := [_,_,_,_]) [0,1,2,3] Z Z)) Z fun z3 hz3 => ?_
 obtain ⟨l3,v3,H3⟩ := z3
 obtain ⟨hv3,u3,r3⟩ := hz3
 dsimp only at hv3 u3 r3 ⊢
 have K3 := K1.up u3.up
 refine .blR (z := 1) Z (Fx.bsl108_1 _) Z Z (by simp [maxLen]) fun b21 => .yv (.fieldAddr Z Fx.field110_2) Z<|.st (.tail<|.tail<|.tail<|.head) Z Z Fx.size108 Z (nb Z) Z<|.nt<|.sq<|.sr<|.bl Z (Fx.bsl52_2 _ _) Z fun b23 => ?_
 refine Sx.freezeBox fun H4 u4 m4 => ?_
 have K4 := K3.up u4.up
 refine .yv (.lenSl Fx.sl52 Z) Z<|.m Z Z<|.nt<|.bk<|.lp (X := Nat × List (List Hd) × Nat × Option Addr × Nat × List Value × Hp × Sg) [(0,_),(2,_),(23,_),(24,_)] ⟨rfl,rfl,rfl,rfl,trivial⟩ (_ :: _ :: bs) (fun y => [(25,.int .i64 (y.1 : Nat))]) (fun y => y.2.2.2.2.2.2.1) (fun y => [.row 155 1 (.slice y.2.2.2.1 y.2.2.1 y.2.2.2.2.1) y.2.2.1 y.2.2.2.2.2.1,.box b [.slice tp ts.length tc,.int .i64 (posN ts y.2.2.2.2.2.2.2 : Nat),.int .i64 (n : Nat),t0,t1,t2,v,.int .i64 (y.2.2.2.2.2.2.2.o : Nat),.int .i64 (y.2.2.2.2.2.2.2.e : Nat)] 99,.box b2 [strV nm,.slice pv lv.length cv,.slice y.2.2.2.1 y.2.2.1 y.2.2.2.2.1] 110]) (fun y => y.1 ≤ 2 ∧ VmI n (up n gVs q1) y.1 y.2.1 y.2.2.2.2.2.2.2 ∧ y.2.2.1 = (l3 :: y.2.1).length ∧ y.2.1.length ≤ y.1 ∧ HUp w0 H4 y.2.2.2.2.2.2.1 ∧ RepZ y.2.2.2.2.2.2.1 1 ((l3 :: y.2.1).map (dVs .u8)) y.2.2.2.2.2.1 ∧ y.2.2.2.2.2.2.2.r <:+ ts) (fun y => 2 - y.1) (0,[],1,some ⟨b21,0,none⟩,1,[v3],H4,(up n gVs q1)) (fun _ s => (s.pickT (hd := [_,_,_,_,_]) (tl := bs) (hd' := [_,_,_,_,_]) [0,1,3,2,4] Z Z)) ⟨rfl,trivial⟩ ⟨Nat.zero_le _,VmI.start,rfl,Nat.zero_le _,.refl,.single (r3.up u4.up) Z,Suf.vs.up hq1⟩ fun y hC => ?_
 obtain ⟨i,l,k5,p5,c5,x5,H5,q5⟩ := y
 obtain ⟨hi,hJ,hk5,hl2,u5,hz5,hq5⟩ := hC
 dsimp only at hi hJ hk5 hl2 u5 hz5 hq5 ⊢
 have K5 := K4.up u5.up
 rw [List.length_cons] at hk5
 refine .sr<|.yv (.lss Z Z) Z<|.nt<|.sq<|.cd Z (fun h26 => ?_) (fun h26 => ?_)
 ·try simp only [dt] at h26
  have hi2 : i < 2 := by omega
  refine .sk<|.tN<|.sq<|.bk<|.sr<|.yv (.indexSl Fx.sl52 Z Z (i := i) Z (by omega) (q := i) (by omega)) Z<|.yv (.loadM Z Fx.agg9 (m4.up u5.up) (k := i) (v := strV (vmW i)) (by omega) (vm_at hi2)) Z<|.a Z Z<|.nt<|.sq<|.sr<|.m Z Z<|.cs (X := Unit) Fx.call72 Z (fun W s => accept_ac K5 hq5 [118,101,114,115,105,111,110] (by decide +kernel) (s.pickT (hd := [_,_,_,_,_]) (tl := bs) (hd' := [_,_,_,_,_]) [1,0,2,3,4] Z Z)) Z fun _ _ => .yv (.not Z) Z<|.nt<|.cd Z (fun h31 => ?_) (fun h31 => ?_)
  ·have h30 : ac [118,101,114,115,105,111,110] q5 = false := by simpa using h31
   rw [acS_F h30]
   obtain ⟨eM,hvM⟩ := hJ.no hi2 h30
   refine .ex<|.tE<|.bO Z<|.tE<|.tE<|.bE<|.tN<|.sr<|.m Z Z<|.cs (X := Unit) Fx.call73 Z (fun W s => expect_nd K5 hq5 [125] (by decide +kernel) (s.pickT (hd := [_,_,_,_,_]) (tl := bs) (hd' := [_,_,_,_,_]) [0,1,2,3,4] Z Z)) Z fun _ _ => ?_
   refine Sx.reSt (fun W s => s.pickT (hd := [_,_,_,_,_]) (tl := bs) (hd' := [_,_,_,_,_]) [3,1,0,2,4] rfl rfl) ?_
   refine Sx.freezeSeq (ds := lv.map (dVr .u8)) (by rw [List.length_map]) (hzv.up (u3.trans (u4.trans u5)).up) fun H8 p8 c8 u8 e8 h8 => ?_
   refine Sx.freezeSeq (ds := (l3 :: l).map (dVs .u8)) (by rw [List.length_map,List.length_cons];exact hk5.symm) (hz5.up u8.up) fun H9 p9 c9 u9 e9 h9 => ?_
   refine .nt<|.fl (trip := [(_,_,_),(_,_,_),(_,_,_),(_,_,_),(_,_,_),(_,_,_),(_,_,_),(_,_,_),(_,_,_)]) 9 [(0,0),(1,0),(2,0),(3,0),(4,0),(5,0),(6,0),(7,1),(8,3)] (by kernel_rfl) (by kernel_rfl) Z<|.m Z Z<|.m Z Z<|.yv (.nilCheck Z) Z<|.yv (.fieldAddr Z Fx.field99_3) Z<|.yv (.fieldAddr Z Fx.field49_3) Z<|.yv (.load Z Fx.agg47 (.head _) Z) Z<|.yv (.loadW Z Fx.agg110 (.tail _<|.head _) Z) Z<|.blF Z (Fx.bsl47_1 _ _ _) Z fun b56 H10 u10 m10 => .apD Fx.row47 Z (fun _ _ => (.tail<|.tail<|.head)) Z (Rep.mk (n := 1) (c := 1) (ds := [dCp .u8 ⟨nm,lv,l3 :: l⟩]) m10 (.single (cp_shut (x := ⟨nm,lv,l3 :: l⟩) hnm.2 (h8.up (u9.trans u10).up) (h9.up u10.up)) Z) Z (Nat.le_refl _) (by decide)) (by simp only [maxLen];omega) (by omega) Z (fun _ _ => (.done (by kernel_rfl)<|.done (by kernel_rfl)<|.done (by kernel_rfl)<|.done (by kernel_rfl)<|.done (by kernel_rfl)<|.done (by kernel_rfl)<|.yv (.move Z)<|.nl)) fun xs57 p57 c57 hz57 => .fn (tl := [_,_,_,_]) Z<|.yv (.nilCheck Z) Z<|.yv (.fieldAddr Z Fx.field99_3) Z<|.yv (.fieldAddr Z Fx.field49_3) Z<|.st .head Z Z Fx.size47 Z (nb Z) Z<|.nl<|?_
   refine Sx.retN (.inr rfl) rfl .nil rfl fun W s => ⟨(⟨nm,lv,l3 :: l⟩,.slice p57 (k + 1) c57,xs57,H10),⟨(by unfold gCp;exact vl_bind (n := n) hnm.1 (vl_bind (n := n) (x := ()) vl_unit (vl_bind (n := n) hvV (vl_bind (n := n) (by rw [eV];exact hv3) (vl_bind (n := n) (by rw [eV];exact hvM) (vl_bind (n := n) (x := ()) vl_unit (vl_pure))))))),u1.trans (u3.trans (u4.trans (u5.trans (u8.trans (u9.trans u10))))),hz57⟩,rfl,?_⟩
   rw [show up n gCp q = up n (gNd [125]) q5 by unfold gCp;rw [up_bind Cz.nm hnm.1,up_bind (x := ()) (Cz.nd _) vl_unit,up_bind (Cz.many Cz.vr) hvV,eV,up_bind Cz.vs hv3,up_bind Cz.vm hvM,eM,up_bind (x := ()) (Cz.nd _) vl_unit,up_pure]]
   exact s.pickT (hd := [_,_,_]) (tl := bs) (hd' := [_,_]) [2,0] rfl rfl
  have h30 : ac [118,101,114,115,105,111,110] q5 = true := by simpa using h31
  rw [acS_T h30]
  refine .sk<|.tN<|.sr<|.m Z Z<|.m Z Z<|.cs (X := Unit) Fx.call73 Z (fun W s => expect_nn K5 (Suf.tl hq5) (vmW i) (vmW_or i) (s.pickT (hd := [_,_,_,_,_]) (tl := bs) (hd' := [_,_,_,_,_]) [0,1,2,3,4] Z Z)) Z fun _ _ => .ns<|.m Z Z<|.cs (X := Unit) Fx.call73 Z (fun W s => expect_nd K5 ((Suf.nn _).up (Suf.tl hq5)) [123] (by decide +kernel) (s.pickT (hd := [_,_,_,_,_]) (tl := bs) (hd' := [_,_,_,_,_]) [0,1,2,3,4] Z Z)) Z fun _ _ => .nt<|.sq<|.fl (trip := [(_,_,_),(_,_,_),(_,_,_),(_,_,_),(_,_,_),(_,_,_)]) 6 [(0,0),(1,0),(2,0),(3,3),(4,1),(5,3)] (by kernel_rfl) (by kernel_rfl) Z<|.yv (.fieldAddr Z Fx.field110_2) Z<|.yv (.load Z Fx.agg108 (.tail _<|.tail _<|.head _) Z) Z<|.m Z Z<|.c3 (X := List Hd × Value × Hp) Fx.call122 Z (fun W s => version_st K5 ((Suf.nd _).up ((Suf.nn _).up (Suf.tl hq5))) (sfx_mu hts ((Suf.nd _).up ((Suf.nn _).up (Suf.tl hq5)))) (s.pickT (hd := [_,_,_,_,_]) (tl := bs) (hd' := [_,_,_,_,_]) [0,1,2,3,4] Z Z)) Z (fun _ _ => (.done (by kernel_rfl)<|.yv (.load Z Fx.agg108 (.tail _<|.tail _<|.head _) Z)<|.yv (.fieldAddr Z Fx.field110_2)<|.nl)) fun z6 hz6 => ?_
  obtain ⟨l6,v6,H6⟩ := z6
  obtain ⟨hv6,u6,r6⟩ := hz6
  dsimp only at hv6 u6 r6 ⊢
  have K6 := K5.up u6.up
  refine .blF Z (Fx.bsl108_1 _) Z fun b41 H7 u7 m7 => .apD Fx.row108 Z (fun _ _ => (.tail<|.head)) Z (Rep.mk (n := 1) (c := 1) (ds := [dVs .u8 l6]) m7 (.single (r6.up u7.up) Z) Z (Nat.le_refl _) (by decide)) (by simp only [maxLen];omega) (by omega) Z (fun _ _ => (.done (by kernel_rfl)<|.done (by kernel_rfl)<|.done (by kernel_rfl)<|.nl)) fun xs42 p42 c42 hz42 => .fn (tl := [_,_]) Z<|.yv (.fieldAddr Z Fx.field110_2) Z<|.st (.tail<|.tail<|.head) Z Z Fx.size108 Z (nb Z) Z<|.nt<|.rg<|.m Z Z<|.cs (X := Unit) Fx.call73 Z (fun W s => expect_nd (K6.up u7.up) (Suf.vs.up ((Suf.nd _).up ((Suf.nn _).up (Suf.tl hq5)))) [125] (by decide +kernel) (s.pickT (hd := [_,_,_,_,_]) (tl := bs) (hd' := [_,_,_,_,_]) [0,1,2,3,4] Z Z)) Z fun _ _ => ?_
  have hvn : vl (gVn (vmW i)) q5.tl l6 := by unfold gVn;exact vl_bind (n := n) (x := ()) vl_unit (vl_bind (n := n) (x := ()) vl_unit (vl_bind (n := n) hv6 (vl_bind (n := n) (x := ()) vl_unit (vl_pure))))
  rw [show up n (gNd [125]) (up n gVs (up n (gNd [123]) (up n (gNn (vmW i)) q5.tl))) = up n (gVn (vmW i)) q5.tl by unfold gVn;rw [up_bind (x := ()) (Cz.nn _) vl_unit,up_bind (x := ()) (Cz.nd _) vl_unit,up_bind Cz.vs hv6,up_bind (x := ()) (Cz.nd _) vl_unit,up_pure]]
  exact .nl<|.bN<|.tN<|.rg<|.yv (.add Z Z (w6 (by omega))) Z<|.m Z Z<|.nt<|.ag (x := (i,l,k5,p5,c5,x5,H5,q5)) (i + 1,l ++ [l6],k5 + 1,p42,c42,x5 ++ xs42,H7,up n (gVn (vmW i)) q5.tl) ⟨rfl,trivial⟩ ⟨rfl,rfl,rfl,rfl,trivial⟩ (fun _ s => (s.pickT (hd := [_,_,_,_,_]) (tl := bs) (hd' := [_,_,_,_,_]) [1,0,2,3,4] Z Z)) ⟨by show i + 1 ≤ 2;omega,hJ.step (by omega) h30 hvn,(by dsimp only;simp only [List.length_cons,List.length_append,List.length_nil];omega),(by dsimp only;rw [List.length_append,List.length_singleton];omega),u5.trans (u6.trans u7),(by dsimp only;rw [← List.cons_append,List.map_append];exact (hz5.up (u6.trans u7).up).app hz42),(Suf.vn _).up (Suf.tl hq5)⟩ (by show 2 - (i + 1) < 2 - i;omega)
 try simp only [df] at h26
 obtain rfl : i = 2 := by omega
 obtain ⟨eM,hvM⟩ := hJ.end
 refine .ex<|.tE<|.tE<|.bE<|.tN<|.sr<|.m Z Z<|.cs (X := Unit) Fx.call73 Z (fun W s => expect_nd K5 hq5 [125] (by decide +kernel) (s.pickT (hd := [_,_,_,_,_]) (tl := bs) (hd' := [_,_,_,_,_]) [1,0,2,3,4] Z Z)) Z fun _ _ => ?_
 refine Sx.reSt (fun W s => s.pickT (hd := [_,_,_,_,_]) (tl := bs) (hd' := [_,_,_,_,_]) [3,1,0,2,4] rfl rfl) ?_
 refine Sx.freezeSeq (ds := lv.map (dVr .u8)) (by rw [List.length_map]) (hzv.up (u3.trans (u4.trans u5)).up) fun H8 p8 c8 u8 e8 h8 => ?_
 refine Sx.freezeSeq (ds := (l3 :: l).map (dVs .u8)) (by rw [List.length_map,List.length_cons];exact hk5.symm) (hz5.up u8.up) fun H9 p9 c9 u9 e9 h9 => ?_
 refine .nt<|.fl (trip := [(_,_,_),(_,_,_),(_,_,_),(_,_,_),(_,_,_),(_,_,_),(_,_,_),(_,_,_),(_,_,_)]) 9 [(0,0),(1,0),(2,0),(3,0),(4,0),(5,0),(6,0),(7,1),(8,3)] (by kernel_rfl) (by kernel_rfl) Z<|.m Z Z<|.m Z Z<|.yv (.nilCheck Z) Z<|.yv (.fieldAddr Z Fx.field99_3) Z<|.yv (.fieldAddr Z Fx.field49_3) Z<|.yv (.load Z Fx.agg47 (.head _) Z) Z<|.yv (.loadW Z Fx.agg110 (.tail _<|.head _) Z) Z<|.blF Z (Fx.bsl47_1 _ _ _) Z fun b56 H10 u10 m10 => .apD Fx.row47 Z (fun _ _ => (.tail<|.tail<|.head)) Z (Rep.mk (n := 1) (c := 1) (ds := [dCp .u8 ⟨nm,lv,l3 :: l⟩]) m10 (.single (cp_shut (x := ⟨nm,lv,l3 :: l⟩) hnm.2 (h8.up (u9.trans u10).up) (h9.up u10.up)) Z) Z (Nat.le_refl _) (by decide)) (by simp only [maxLen];omega) (by omega) Z (fun _ _ => (.done (by kernel_rfl)<|.done (by kernel_rfl)<|.done (by kernel_rfl)<|.done (by kernel_rfl)<|.done (by kernel_rfl)<|.done (by kernel_rfl)<|.yv (.move Z)<|.nl)) fun xs57 p57 c57 hz57 => .fn (tl := [_,_,_,_]) Z<|.yv (.nilCheck Z) Z<|.yv (.fieldAddr Z Fx.field99_3) Z<|.yv (.fieldAddr Z Fx.field49_3) Z<|.st .head Z Z Fx.size47 Z (nb Z) Z<|.nl<|?_
 refine Sx.retN (.inr rfl) rfl .nil rfl fun W s => ⟨(⟨nm,lv,l3 :: l⟩,.slice p57 (k + 1) c57,xs57,H10),⟨(by unfold gCp;exact vl_bind (n := n) hnm.1 (vl_bind (n := n) (x := ()) vl_unit (vl_bind (n := n) hvV (vl_bind (n := n) (by rw [eV];exact hv3) (vl_bind (n := n) (by rw [eV];exact hvM) (vl_bind (n := n) (x := ()) vl_unit (vl_pure))))))),u1.trans (u3.trans (u4.trans (u5.trans (u8.trans (u9.trans u10))))),hz57⟩,rfl,?_⟩
 rw [show up n gCp q = up n (gNd [125]) q5 by unfold gCp;rw [up_bind Cz.nm hnm.1,up_bind (x := ()) (Cz.nd _) vl_unit,up_bind (Cz.many Cz.vr) hvV,eV,up_bind Cz.vs hv3,up_bind Cz.vm hvM,eM,up_bind (x := ()) (Cz.nd _) vl_unit,up_pure]]
 exact s.pickT (hd := [_,_,_]) (tl := bs) (hd' := [_,_]) [2,0] rfl rfl
end Go.Proofs.YthhoebdlfjffkaaGreatDoor
namespace Go.Sx
open Go.RowKit Go.Par
section
variable {dfs : List Deferred} {P : Program} {L : Sl} {H : Hp} {w0 : World} {bs : List Res} {ty : TypeId} {pos : String} {aft : Array Edge} {t : Tmp}
theorem FlowP.gFk {ops : Array Oper} {N hn i k j : Nat} {b c : Bool} {u : Tmp} {op : Op} {pa : List (Nat × Oper × Value)} {E : Sl → Hp → List Res → Prop} {q : List (Nat × Nat × Oper)} (hd : (ops[j]?).bind (·.dst) = some u) (hs : look L u = some (.bool c)) (hne : (c == b) = false) (ht : Nat.blt t N = true) (h : FlowP dfs P ops hn w0 N E q pa ((t,undef) :: L) H bs) :
 FlowP dfs P ops hn w0 N E ((i,k + 1,⟨some t,op,ty,pos,aft,some (j,b)⟩) :: q) pa L H bs := ⟨blt_of ht,guardF hd hs hne ht (FlowP.into (.inr<|.inl fun _ s => s) h)⟩
variable {n m : Nat} {Q : Exit → Act → World → Prop} {ops : Array Oper} {rest : List Oper} {F : Fence} {x y : Operand} {T : TypeId}
end
end Go.Sx
namespace Go.Proofs.YthhoebdlfjffkaaGreatDoor
open Go.RowKit Go.Par Go.Sx
theorem Fx.call136 : callN Tryz.prog 136 = Bool.true := by kernel_rfl
theorem Fx.call137 : callN Tryz.prog 137 = Bool.true := by kernel_rfl
theorem sfx_mu2 {q : Sg} {ts : List Tk} (hts : ts.length ≤ 400000) (h : q.r <:+ ts) : q.mu ≤ 500000 := by
 have := h.length_le
 unfold Sg.mu
 split <;> omega
theorem nn_k3 {n : Nat} {w : Str} {s : Sg} {ts : List Tk} (hg : ∀ t ∈ ts,Tkg t) (hs : s.r <:+ ts) (hw : w = [50] ∨ w = [51]) (h : (tkH n s.r).t = w) : (tkH n s.r).k = 3 := by
 have hm := mem_suf hg hs
 cases hr : s.r with
 | nil =>
  rw [hr] at h
  have : ([] : Str) = w := h
  rcases hw with rfl | rfl <;> cases this
 | cons x r =>
  rw [hr] at h hm
  have h : x.t = w := h
  exact (hm x List.mem_cons_self).2.1 (by rw [h];exact hw)
set_option maxRecDepth 100000 in
theorem component_r {H : Hp} {w0 W : World} {bs : List Res} {b n : Nat} {t : Str} {ts : List Tk} {tp : Option Addr} {tc : Nat} {q : Sg} (K : Tkr H t n ts tp tc) (hq : q.r <:+ ts) (hts : ts.length ≤ 400000) (s : St H w0 (.box b [strV t,.slice tp ts.length tc,.int .i64 (posN ts q : Nat),.int .i64 (q.o : Nat),.int .i64 (q.e : Nat)] 75 :: bs) W) :
 Calls Tryz.prog 100 #[.pointer (some ⟨b,0,none⟩)] W fun e W' => ∃ z : Cp × List Value × Hp,(vl gCp q z.1 ∧ HUp w0 H z.2.2 ∧ Rep z.2.2 (dCp .i64 z.1) z.2.1) ∧ e = .returned (.agg z.2.1.toArray) ∧ St z.2.2 w0 (.box b [strV t,.slice tp ts.length tc,.int .i64 (posN ts (up n gCp q) : Nat),.int .i64 ((up n gCp q).o : Nat),.int .i64 ((up n gCp q).e : Nat)] 75 :: bs) W' := by
 have hcap := K.rep.cap
 refine Sx.enterS Tryz.func100 rfl Tryz.ntmps100 rfl s ?_
 refine .sr<|.al Fx.zero146 Z fun b2 => .ns<|.m Z Z<|.cs (X := Str) Fx.call97 Z (fun W s => name_r K hq  (s.pickT (hd := [_,_]) (tl := bs) (hd' := [_,_]) [1,0] Z Z)) Z fun nm hnm => .yv (.build Z (Fx.bld146_0 _)) Z<|.al Fx.zero146 Z fun b3 => ?_
 refine Sx.row0 152 1 ?_
 refine Sx.row0 148 3 ?_
 refine .sW (.tail<|.tail<|.head) Z Z Fx.size146 (by simp [cTk,Value.oneCell',strV]) Z<|.ns<|.m Z Z<|.cs (X := Unit) Fx.call96 Z (fun W s => need_r K (Suf.nm.up hq) [123] (s.pickT (hd := [_,_,_,_,_]) (tl := bs) (hd' := [_,_,_,_,_]) [3,0,1,2,4] Z Z)) Z fun _ _ => .nt<|.sq<|.bk<|.lp (X := List Vr × Nat × Option Addr × Nat × List Value × Hp × Sg) [(0,_),(2,_),(3,_)] ⟨rfl,rfl,rfl,trivial⟩ (_ :: _ :: bs) (fun z => []) (fun z => z.2.2.2.2.2.1) (fun z => [.row 148 3 (.slice z.2.2.1 z.2.1 z.2.2.2.1) z.2.1 z.2.2.2.2.1,.box b [strV t,.slice tp ts.length tc,.int .i64 (posN ts z.2.2.2.2.2.2 : Nat),.int .i64 (z.2.2.2.2.2.2.o : Nat),.int .i64 (z.2.2.2.2.2.2.e : Nat)] 75,.box b3 [strV nm,.slice z.2.2.1 z.2.1 z.2.2.2.1,.slice none 0 0] 146]) (fun z => MnI n [118,97,114] gVr (up n (gNd [123]) (up n gNm q)) z.1 z.2.2.2.2.2.2 ∧ z.2.1 = z.1.length ∧ HUp w0 H z.2.2.2.2.2.1 ∧ RepZ z.2.2.2.2.2.1 3 (z.1.map (dVr .i64)) z.2.2.2.2.1 ∧ z.2.2.2.2.2.2.r <:+ ts) (fun z => z.2.2.2.2.2.2.mu) ([],0,none,0,[],H,(up n (gNd [123]) (up n gNm q))) (fun _ s => (s.pickT (hd := [_,_,_,_,_]) (tl := bs) (hd' := [_,_,_,_,_]) [1,0,3,2,4] Z Z)) trivial ⟨MnI.start,rfl,.refl,RepZ.nil,(Suf.nd _).up (Suf.nm.up hq)⟩ fun z hC => ?_
 obtain ⟨lv,kv,pv,cv,xv,H1,q1⟩ := z
 obtain ⟨hI,hkv,u1,hzv,hq1⟩ := hC
 dsimp only at hI hkv u1 hzv hq1 ⊢
 have K1 := K.up u1.up
 have hlen := hI.len
 have hmx := sfx_mu2 hts ((Suf.nd [123]).up (n := n) (Suf.nm.up (n := n) hq))
 refine .sq<|.sr<|.m Z Z<|.cs (X := Unit) Fx.call54 Z (fun W s => take_r K1 hq1 [118,97,114] (s.pickT (hd := [_,_,_,_,_]) (tl := bs) (hd' := [_,_,_,_,_]) [1,0,2,3,4] Z Z)) Z fun _ _ => .nt<|.cd Z (fun h12 => ?_) (fun h12 => ?_)
 ·rw [acS_T h12]
  exact .sk<|.tN<|.bk<|.fl (trip := [(_,_,_),(_,_,_),(_,_,_),(_,_,_),(_,_,_),(_,_,_)]) 6 [(0,0),(1,0),(2,0),(3,3),(4,1),(5,3)] (by kernel_rfl) (by kernel_rfl) Z<|.yv (.fieldAddr Z Fx.field146_1) Z<|.yv (.load Z Fx.agg143 (.tail _<|.tail _<|.head _) Z) Z<|.m Z Z<|.c3 (X := Vr) Fx.call136 Z (fun W s => variable_r K1 (Suf.tl hq1) (s.pickT (hd := [_,_,_,_,_]) (tl := bs) (hd' := [_,_,_,_,_]) [0,1,2,3,4] Z Z)) Z (fun _ _ => (.done (by kernel_rfl)<|.yv (.load Z Fx.agg143 (.tail _<|.tail _<|.head _) Z)<|.yv (.fieldAddr Z Fx.field146_1)<|.nl)) fun vr hvr => .blF Z (Fx.bsl143_1 _ _ _) Z fun b17 H2 u2 m2 => .apD Fx.row143 Z (fun _ _ => (.tail<|.head)) Z (Rep.mk (n := 1) (c := 1) (ds := [dVr .i64 vr]) m2 (.single (vr_shut hvr.2) Z) Z (Nat.le_refl _) (by decide)) (by simp only [maxLen];omega) (by omega) Z (fun _ _ => (.done (by kernel_rfl)<|.done (by kernel_rfl)<|.done (by kernel_rfl)<|.nl)) fun xs18 p18 c18 hz18 => .fn (tl := [_,_]) Z<|.yv (.fieldAddr Z Fx.field146_1) Z<|.st (.tail<|.tail<|.head) Z Z Fx.size143 Z (nb Z) Z<|.nl<|.bN<|.tN<|.ag (x := (lv,kv,pv,cv,xv,H1,q1)) (lv ++ [vr],kv + 1,p18,c18,xv ++ xs18,H2,up n gVr q1.tl) trivial ⟨rfl,rfl,rfl,trivial⟩ (fun _ s => (s.pickT (hd := [_,_,_,_,_]) (tl := bs) (hd' := [_,_,_,_,_]) [1,0,2,3,4] Z Z)) ⟨(hI.step Shs.vr.le Cz.vr h12 hvr.1).1,by simp [hkv],u1.trans u2,by dsimp only;rw [List.map_append];exact (hzv.up u2.up).app hz18,Suf.vr.up (Suf.tl hq1)⟩ (hI.step Shs.vr.le Cz.vr h12 hvr.1).2
 rw [acS_F h12]
 obtain ⟨eV,hvV⟩ := hI.stop Shs.vr.le h12
 subst hkv
 refine .ex<|.tE<|.tE<|.bE<|.tN<|.sq<|.fl (trip := [(_,_,_),(_,_,_),(_,_,_),(_,_,_),(_,_,_),(_,_,_)]) 6 [(0,0),(1,0),(2,0),(3,3),(4,1),(5,3)] (by kernel_rfl) (by kernel_rfl) Z<|.yv (.fieldAddr Z Fx.field146_2) Z<|.yv (.load Z Fx.agg144 (.tail _<|.tail _<|.head _) Z) Z<|.m Z Z<|.c3 (X := List Hd × Value × Hp) Fx.call137 Z (fun W s => handlers_r K1 hq1 (sfx_mu2 hts hq1) (s.pickT (hd := [_,_,_,_,_]) (tl := bs) (hd' := [_,_,_,_,_]) [0,1,2,3,4] Z Z)) Z (fun _ _ => (.done (by kernel_rfl)<|.yv (.load Z Fx.agg144 (.tail _<|.tail _<|.head _) Z)<|.yv (.fieldAddr Z Fx.field146_2)<|.nl)) fun z3 hz3 => ?_
 obtain ⟨l3,v3,H3⟩ := z3
 obtain ⟨hv3,u3,r3⟩ := hz3
 dsimp only at hv3 u3 r3 ⊢
 have K3 := K1.up u3.up
 obtain ⟨p3,c3',e3',_⟩ := r3.sl
 simp only [List.cons.injEq,and_true] at e3'
 subst e3'
 refine .blF Z (Fx.bsl144_1 _ _ _) Z fun b24 H4 u4 m4 => .apD Fx.row144 Z (fun _ _ => (.tail<|.tail<|.tail<|.head)) Z (Rep.mk (n := 1) (c := 1) (ds := [dVs .i64 l3]) m4 (.single (r3.up u4.up) Z) Z (Nat.le_refl _) (by decide)) (by simp only [maxLen];omega) (by omega) Z (fun _ _ => (.done (by kernel_rfl)<|.done (by kernel_rfl)<|.done (by kernel_rfl)<|.nl)) fun xs25 p25 c25 hz25 => .fn (tl := [_,_]) Z<|.yv (.fieldAddr Z Fx.field146_2) Z<|.st (.tail<|.tail<|.head) Z Z Fx.size144 Z (nb Z) Z<|.nt<|.sq<|.sr<|.a Z Z<|.nt<|.bk<|.lp (X := Nat × List (List Hd) × Nat × Option Addr × Nat × List Value × Hp × Sg) [(0,_),(2,_),(3,_)] ⟨rfl,rfl,rfl,trivial⟩ (_ :: _ :: bs) (fun y => [(4,.int .i64 (y.1 + 2 : Nat))]) (fun y => y.2.2.2.2.2.2.1) (fun y => [.row 152 1 (.slice y.2.2.2.1 y.2.2.1 y.2.2.2.2.1) y.2.2.1 y.2.2.2.2.2.1,.box b [strV t,.slice tp ts.length tc,.int .i64 (posN ts y.2.2.2.2.2.2.2 : Nat),.int .i64 (y.2.2.2.2.2.2.2.o : Nat),.int .i64 (y.2.2.2.2.2.2.2.e : Nat)] 75,.box b3 [strV nm,.slice pv lv.length cv,.slice y.2.2.2.1 y.2.2.1 y.2.2.2.2.1] 146]) (fun y => y.1 ≤ 2 ∧ VmI n (up n gVs q1) y.1 y.2.1 y.2.2.2.2.2.2.2 ∧ y.2.2.1 = (l3 :: y.2.1).length ∧ y.2.1.length ≤ y.1 ∧ HUp w0 H4 y.2.2.2.2.2.2.1 ∧ RepZ y.2.2.2.2.2.2.1 1 ((l3 :: y.2.1).map (dVs .i64)) y.2.2.2.2.2.1 ∧ y.2.2.2.2.2.2.2.r <:+ ts) (fun y => 2 - y.1) (0,[],0 + 1,p25,c25,[] ++ xs25,H4,(up n gVs q1)) (fun _ s => (s.pickT (hd := [_,_,_,_,_]) (tl := bs) (hd' := [_,_,_,_,_]) [3,0,2,1,4] Z Z)) ⟨rfl,trivial⟩ ⟨Nat.zero_le _,VmI.start,rfl,Nat.zero_le _,.refl,hz25,Suf.vs.up hq1⟩ fun y hC => ?_
 obtain ⟨i,l,k5,p5,c5,x5,H5,q5⟩ := y
 obtain ⟨hi,hJ,hk5,hl2,u5,hz5,hq5⟩ := hC
 dsimp only at hi hJ hk5 hl2 u5 hz5 hq5 ⊢
 have K5 := (K3.up u4.up).up u5.up
 rw [List.length_cons] at hk5
 refine .sq<|.sr<|.m Z Z<|.yv (.leq Z Z) Z<|.m Z Z<|.b2 (fun h29 => ?_) (fun h29 => ?_)
 ·try simp only [dt] at h29
  have hi2 : i < 2 := by omega
  refine .gd Z Z<|.yv (.move Z) Z<|.gd Z Z<|.cs (X := Unit) Fx.call54 Z (fun W s => take_r K5 hq5 [118,101,114,115,105,111,110] (s.pickT (hd := [_,_,_,_,_]) (tl := bs) (hd' := [_,_,_,_,_]) [1,0,2,3,4] Z Z)) Z fun _ _ => .yv (.pickT Z Z) Z<|.nt<|.cd Z (fun h32 => ?_) (fun h32 => ?_)
  ·rw [acS_T h32]
   refine .sk<|.tN<|.sq<|.bk<|.sr<|.m Z Z<|.cs (X := Unit) Fx.call55 Z (fun W s => tok_r K5 (Suf.tl hq5)  (s.pickT (hd := [_,_,_,_,_]) (tl := bs) (hd' := [_,_,_,_,_]) [0,1,2,3,4] Z Z)) Z fun _ _ => .al Fx.zero133 Z fun b5 => .sW .head Z Z Fx.size133 (by simp [cTk,Value.oneCell',strV]) Z<|.nt<|.sq<|.sq<|.fl (trip := [(_,_,_),(_,_,_),(_,_,_),(_,_,_),(_,_,_),(_,_,_),(_,_,_),(_,_,_),(_,_,_),(_,_,_),(_,_,_),(_,_,_),(_,_,_),(_,_,_),(_,_,_),(_,_,_),(_,_,_),(_,_,_),(_,_,_)]) 19 [(0,0),(1,0),(2,0),(3,0),(4,0),(5,0),(6,0),(7,0),(8,0),(9,0),(10,0),(11,0),(12,0),(14,0),(15,0),(13,1),(16,0),(17,0),(18,0)] (by kernel_rfl) (by kernel_rfl) Z<|.m Z Z<|.yv (.nilCheck Z) Z<|.yv (.fieldAddr Z Fx.field75_4) Z<|.yv (.load Z Fx.agg3 (.tail _<|.head _) Z) Z<|.yv (.neq Z Z) Z<|.m Z Z<|.b2 (fun h42 => ?_) (fun h42 => ?_)
   ·try simp only [dt] at h42
    have hbad : ¬ tcB n (vmW i) q5.tl = true := by unfold tcB;simp;intro h0;omega
    have e1 : (up n (gNn (vmW i)) q5.tl) = q5.tl.fail n 8 := by rw [nn_eq K5.good (Suf.tl hq5) (vmW_or i),if_neg hbad]
    refine .gF Z Z Z Z<|.gF Z Z Z Z<|.gF Z Z Z Z<|.yv (.pickT Z Z) Z<|.m Z Z<|.gF Z Z Z Z<|.gF Z Z Z Z<|.gF Z Z Z Z<|.gF Z Z Z Z<|.gFk Z Z Z Z<|.gF Z Z Z Z<|.gF Z Z Z Z<|.gF Z Z Z Z<|.fn (tl := [_]) Z<|.yv (.pickT Z Z) Z<|.nt<|.cT Z<|.rg<|.m Z Z<|.cs (X := Unit) Fx.call56 Z (fun W s => fail_r K5 (Suf.tl hq5) 8 (s.pickT (hd := [_,_,_,_,_,_]) (tl := bs) (hd' := [_,_,_,_,_,_]) [1,0,2,3,4,5] Z Z)) Z fun _ _ => ?_
    rw [← e1]
    refine .ns<|.m Z Z<|.cs (X := Unit) Fx.call96 Z (fun W s => need_r K5 ((Suf.nn _).up (Suf.tl hq5)) [123] (s.pickT (hd := [_,_,_,_,_,_]) (tl := bs) (hd' := [_,_,_,_,_,_]) [0,1,2,3,4,5] Z Z)) Z fun _ _ => .nt<|.sq<|.fl (trip := [(_,_,_),(_,_,_),(_,_,_),(_,_,_),(_,_,_),(_,_,_)]) 6 [(0,0),(1,0),(2,0),(3,3),(4,1),(5,3)] (by kernel_rfl) (by kernel_rfl) Z<|.yv (.fieldAddr Z Fx.field146_2) Z<|.yv (.load Z Fx.agg144 (.tail _<|.tail _<|.tail _<|.head _) Z) Z<|.m Z Z<|.c3 (X := List Hd × Value × Hp) Fx.call137 Z (fun W s => handlers_r K5 ((Suf.nd _).up ((Suf.nn _).up (Suf.tl hq5))) (sfx_mu2 hts ((Suf.nd _).up ((Suf.nn _).up (Suf.tl hq5)))) (s.pickT (hd := [_,_,_,_,_,_]) (tl := bs) (hd' := [_,_,_,_,_,_]) [0,1,2,3,4,5] Z Z)) Z (fun _ _ => (.done (by kernel_rfl)<|.yv (.load Z Fx.agg144 (.tail _<|.tail _<|.tail _<|.head _) Z)<|.yv (.fieldAddr Z Fx.field146_2)<|.nl)) fun z8 hz8 => ?_
    obtain ⟨l8,v8,H8⟩ := z8
    obtain ⟨hv8,u8,r8⟩ := hz8
    dsimp only at hv8 u8 r8 ⊢
    have K8 := K5.up u8.up
    obtain ⟨p8,c8',e8',_⟩ := r8.sl
    simp only [List.cons.injEq,and_true] at e8'
    subst e8'
    refine .blF Z (Fx.bsl144_1 _ _ _) Z fun b72 H9 u9 m9 => .apD Fx.row144 Z (fun _ _ => (.tail<|.tail<|.head)) Z (Rep.mk (n := 1) (c := 1) (ds := [dVs .i64 l8]) m9 (.single (r8.up u9.up) Z) Z (Nat.le_refl _) (by decide)) (by simp only [maxLen];omega) (by omega) Z (fun _ _ => (.done (by kernel_rfl)<|.done (by kernel_rfl)<|.done (by kernel_rfl)<|.nl)) fun xs73 p73 c73 hz73 => .fn (tl := [_,_]) Z<|.yv (.fieldAddr Z Fx.field146_2) Z<|.st (.tail<|.tail<|.tail<|.head) Z Z Fx.size144 Z (nb Z) Z<|.nt<|.rg<|.m Z Z<|.cs (X := Unit) Fx.call96 Z (fun W s => need_r (K8.up u9.up) (Suf.vs.up ((Suf.nd _).up ((Suf.nn _).up (Suf.tl hq5)))) [125] (s.pickT (hd := [_,_,_,_,_,_]) (tl := bs) (hd' := [_,_,_,_,_,_]) [0,1,2,3,4,5] Z Z)) Z fun _ _ => ?_
    have hvn : vl (gVn (vmW i)) q5.tl l8 := by unfold gVn;exact vl_bind (n := n) (x := ()) vl_unit (vl_bind (n := n) (x := ()) vl_unit (vl_bind (n := n) hv8 (vl_bind (n := n) (x := ()) vl_unit (vl_pure))))
    rw [show up n (gNd [125]) (up n gVs (up n (gNd [123]) (up n (gNn (vmW i)) q5.tl))) = up n (gVn (vmW i)) q5.tl by unfold gVn;rw [up_bind (x := ()) (Cz.nn _) vl_unit,up_bind (x := ()) (Cz.nd _) vl_unit,up_bind Cz.vs hv8,up_bind (x := ()) (Cz.nd _) vl_unit,up_pure]]
    exact .nl<|.bN<|.tN<|.rg<|.m Z Z<|.yv (.add Z Z (w6 (by omega))) Z<|.a Z Z<|.nt<|.ag (x := (i,l,k5,p5,c5,x5,H5,q5)) (i + 1,l ++ [l8],k5 + 1,p73,c73,x5 ++ xs73,H9,up n (gVn (vmW i)) q5.tl) ⟨rfl,trivial⟩ ⟨rfl,rfl,rfl,trivial⟩ (fun _ s => (s.pickT (hd := [_,_,_,_,_,_]) (tl := bs) (hd' := [_,_,_,_,_]) [2,0,3,4,5] Z Z)) ⟨by show i + 1 ≤ 2;omega,hJ.step (by omega) h32 hvn,(by dsimp only;simp only [List.length_cons,List.length_append,List.length_nil];omega),(by dsimp only;rw [List.length_append,List.length_singleton];omega),u5.trans ((u8.trans u9)),(by dsimp only;rw [← List.cons_append,List.map_append];exact (hz5.up ((u8.trans u9)).up).app hz73),(Suf.vn _).up (Suf.tl hq5)⟩ (by show 2 - (i + 1) < 2 - i;omega)
   try simp only [df] at h42
   have h0 : q5.tl.e = 0 := by omega
   refine .yg Z Z (.fieldAddr Z Fx.field133_0) Z<|.yg Z Z (.load Z Fx.agg3 (.head _) Z) Z<|.yg Z Z (.neq Z Z) Z<|.yv (.pickF Z Z) Z<|.m Z Z<|.b2 (fun h47 => ?_) (fun h47 => ?_)
   ·try simp only [dt] at h47
    have hk3 : ¬ (tkH n q5.tl.r).k = 3 := fun e => by simp [e] at h47
    have hbad : ¬ tcB n (vmW i) q5.tl = true := by unfold tcB;simp;intro _ e;exact hk3 (nn_k3 K5.good (Suf.tl hq5) (vmW_or i) e)
    have e1 : (up n (gNn (vmW i)) q5.tl) = q5.tl.fail n 8 := by rw [nn_eq K5.good (Suf.tl hq5) (vmW_or i),if_neg hbad]
    refine .gF Z Z Z Z<|.gF Z Z Z Z<|.gF Z Z Z Z<|.gF Z Z Z Z<|.gFk Z Z Z Z<|.gF Z Z Z Z<|.gF Z Z Z Z<|.gF Z Z Z Z<|.fn (tl := [_]) Z<|.yv (.pickT Z Z) Z<|.nt<|.cT Z<|.rg<|.m Z Z<|.cs (X := Unit) Fx.call56 Z (fun W s => fail_r K5 (Suf.tl hq5) 8 (s.pickT (hd := [_,_,_,_,_,_]) (tl := bs) (hd' := [_,_,_,_,_,_]) [1,0,2,3,4,5] Z Z)) Z fun _ _ => ?_
    rw [← e1]
    refine .ns<|.m Z Z<|.cs (X := Unit) Fx.call96 Z (fun W s => need_r K5 ((Suf.nn _).up (Suf.tl hq5)) [123] (s.pickT (hd := [_,_,_,_,_,_]) (tl := bs) (hd' := [_,_,_,_,_,_]) [0,1,2,3,4,5] Z Z)) Z fun _ _ => .nt<|.sq<|.fl (trip := [(_,_,_),(_,_,_),(_,_,_),(_,_,_),(_,_,_),(_,_,_)]) 6 [(0,0),(1,0),(2,0),(3,3),(4,1),(5,3)] (by kernel_rfl) (by kernel_rfl) Z<|.yv (.fieldAddr Z Fx.field146_2) Z<|.yv (.load Z Fx.agg144 (.tail _<|.tail _<|.tail _<|.head _) Z) Z<|.m Z Z<|.c3 (X := List Hd × Value × Hp) Fx.call137 Z (fun W s => handlers_r K5 ((Suf.nd _).up ((Suf.nn _).up (Suf.tl hq5))) (sfx_mu2 hts ((Suf.nd _).up ((Suf.nn _).up (Suf.tl hq5)))) (s.pickT (hd := [_,_,_,_,_,_]) (tl := bs) (hd' := [_,_,_,_,_,_]) [0,1,2,3,4,5] Z Z)) Z (fun _ _ => (.done (by kernel_rfl)<|.yv (.load Z Fx.agg144 (.tail _<|.tail _<|.tail _<|.head _) Z)<|.yv (.fieldAddr Z Fx.field146_2)<|.nl)) fun z8 hz8 => ?_
    obtain ⟨l8,v8,H8⟩ := z8
    obtain ⟨hv8,u8,r8⟩ := hz8
    dsimp only at hv8 u8 r8 ⊢
    have K8 := K5.up u8.up
    obtain ⟨p8,c8',e8',_⟩ := r8.sl
    simp only [List.cons.injEq,and_true] at e8'
    subst e8'
    refine .blF Z (Fx.bsl144_1 _ _ _) Z fun b72 H9 u9 m9 => .apD Fx.row144 Z (fun _ _ => (.tail<|.tail<|.head)) Z (Rep.mk (n := 1) (c := 1) (ds := [dVs .i64 l8]) m9 (.single (r8.up u9.up) Z) Z (Nat.le_refl _) (by decide)) (by simp only [maxLen];omega) (by omega) Z (fun _ _ => (.done (by kernel_rfl)<|.done (by kernel_rfl)<|.done (by kernel_rfl)<|.nl)) fun xs73 p73 c73 hz73 => .fn (tl := [_,_]) Z<|.yv (.fieldAddr Z Fx.field146_2) Z<|.st (.tail<|.tail<|.tail<|.head) Z Z Fx.size144 Z (nb Z) Z<|.nt<|.rg<|.m Z Z<|.cs (X := Unit) Fx.call96 Z (fun W s => need_r (K8.up u9.up) (Suf.vs.up ((Suf.nd _).up ((Suf.nn _).up (Suf.tl hq5)))) [125] (s.pickT (hd := [_,_,_,_,_,_]) (tl := bs) (hd' := [_,_,_,_,_,_]) [0,1,2,3,4,5] Z Z)) Z fun _ _ => ?_
    have hvn : vl (gVn (vmW i)) q5.tl l8 := by unfold gVn;exact vl_bind (n := n) (x := ()) vl_unit (vl_bind (n := n) (x := ()) vl_unit (vl_bind (n := n) hv8 (vl_bind (n := n) (x := ()) vl_unit (vl_pure))))
    rw [show up n (gNd [125]) (up n gVs (up n (gNd [123]) (up n (gNn (vmW i)) q5.tl))) = up n (gVn (vmW i)) q5.tl by unfold gVn;rw [up_bind (x := ()) (Cz.nn _) vl_unit,up_bind (x := ()) (Cz.nd _) vl_unit,up_bind Cz.vs hv8,up_bind (x := ()) (Cz.nd _) vl_unit,up_pure]]
    exact .nl<|.bN<|.tN<|.rg<|.m Z Z<|.yv (.add Z Z (w6 (by omega))) Z<|.a Z Z<|.nt<|.ag (x := (i,l,k5,p5,c5,x5,H5,q5)) (i + 1,l ++ [l8],k5 + 1,p73,c73,x5 ++ xs73,H9,up n (gVn (vmW i)) q5.tl) ⟨rfl,trivial⟩ ⟨rfl,rfl,rfl,trivial⟩ (fun _ s => (s.pickT (hd := [_,_,_,_,_,_]) (tl := bs) (hd' := [_,_,_,_,_]) [2,0,3,4,5] Z Z)) ⟨by show i + 1 ≤ 2;omega,hJ.step (by omega) h32 hvn,(by dsimp only;simp only [List.length_cons,List.length_append,List.length_nil];omega),(by dsimp only;rw [List.length_append,List.length_singleton];omega),u5.trans ((u8.trans u9)),(by dsimp only;rw [← List.cons_append,List.map_append];exact (hz5.up ((u8.trans u9)).up).app hz73),(Suf.vn _).up (Suf.tl hq5)⟩ (by show 2 - (i + 1) < 2 - i;omega)
   try simp only [df] at h47
   have hk3 : (tkH n q5.tl.r).k = 3 := UInt8.toNat_inj.1 (by show (tkH n q5.tl.r).k.toNat = 3;omega)
   refine .yg Z Z (.fieldAddr Z Fx.field133_1) Z<|.yg Z Z (.load Z Fx.agg9 (.head _) Z) Z<|.yg Z Z (.move Z) Z<|.yg Z Z (.sub Z Z (c := ((i : Nat) : Int)) ((w6 (by omega)).trans (by omega))) Z<|.gd Z Z<|.blF Z (Fx.bsl52_2 _ _) Z fun b50 H6 u6 m6 => .yg Z Z (.indexSl Fx.sl52 Z Z (i := i) Z (by omega) (q := i) (by omega)) Z<|.yg Z Z (.loadM Z Fx.agg9 m6 (k := i) (v := strV (vmW i)) (by omega) (vm_at hi2)) Z<|.yg Z Z (.neS Z Z) Z<|.fn (tl := [_]) Z<|.yv (.pickF Z Z) Z<|.nt<|.cd Z (fun h56 => ?_) (fun h56 => ?_)
   ·try simp only [dt] at h56
    have hbad : ¬ tcB n (vmW i) q5.tl = true := by unfold tcB;simp;intro _;exact h56
    have e1 : (up n (gNn (vmW i)) q5.tl) = q5.tl.fail n 8 := by rw [nn_eq K5.good (Suf.tl hq5) (vmW_or i),if_neg hbad]
    refine .rg<|.m Z Z<|.cs (X := Unit) Fx.call56 Z (fun W s => fail_r (K5.up u6.up) (Suf.tl hq5) 8 (s.pickT (hd := [_,_,_,_,_,_]) (tl := bs) (hd' := [_,_,_,_,_,_]) [1,0,2,3,4,5] Z Z)) Z fun _ _ => ?_
    rw [← e1]
    refine .ns<|.m Z Z<|.cs (X := Unit) Fx.call96 Z (fun W s => need_r (K5.up u6.up) ((Suf.nn _).up (Suf.tl hq5)) [123] (s.pickT (hd := [_,_,_,_,_,_]) (tl := bs) (hd' := [_,_,_,_,_,_]) [0,1,2,3,4,5] Z Z)) Z fun _ _ => .nt<|.sq<|.fl (trip := [(_,_,_),(_,_,_),(_,_,_),(_,_,_),(_,_,_),(_,_,_)]) 6 [(0,0),(1,0),(2,0),(3,3),(4,1),(5,3)] (by kernel_rfl) (by kernel_rfl) Z<|.yv (.fieldAddr Z Fx.field146_2) Z<|.yv (.load Z Fx.agg144 (.tail _<|.tail _<|.tail _<|.head _) Z) Z<|.m Z Z<|.c3 (X := List Hd × Value × Hp) Fx.call137 Z (fun W s => handlers_r (K5.up u6.up) ((Suf.nd _).up ((Suf.nn _).up (Suf.tl hq5))) (sfx_mu2 hts ((Suf.nd _).up ((Suf.nn _).up (Suf.tl hq5)))) (s.pickT (hd := [_,_,_,_,_,_]) (tl := bs) (hd' := [_,_,_,_,_,_]) [0,1,2,3,4,5] Z Z)) Z (fun _ _ => (.done (by kernel_rfl)<|.yv (.load Z Fx.agg144 (.tail _<|.tail _<|.tail _<|.head _) Z)<|.yv (.fieldAddr Z Fx.field146_2)<|.nl)) fun z8 hz8 => ?_
    obtain ⟨l8,v8,H8⟩ := z8
    obtain ⟨hv8,u8,r8⟩ := hz8
    dsimp only at hv8 u8 r8 ⊢
    have K8 := (K5.up u6.up).up u8.up
    obtain ⟨p8,c8',e8',_⟩ := r8.sl
    simp only [List.cons.injEq,and_true] at e8'
    subst e8'
    refine .blF Z (Fx.bsl144_1 _ _ _) Z fun b72 H9 u9 m9 => .apD Fx.row144 Z (fun _ _ => (.tail<|.tail<|.head)) Z (Rep.mk (n := 1) (c := 1) (ds := [dVs .i64 l8]) m9 (.single (r8.up u9.up) Z) Z (Nat.le_refl _) (by decide)) (by simp only [maxLen];omega) (by omega) Z (fun _ _ => (.done (by kernel_rfl)<|.done (by kernel_rfl)<|.done (by kernel_rfl)<|.nl)) fun xs73 p73 c73 hz73 => .fn (tl := [_,_]) Z<|.yv (.fieldAddr Z Fx.field146_2) Z<|.st (.tail<|.tail<|.tail<|.head) Z Z Fx.size144 Z (nb Z) Z<|.nt<|.rg<|.m Z Z<|.cs (X := Unit) Fx.call96 Z (fun W s => need_r (K8.up u9.up) (Suf.vs.up ((Suf.nd _).up ((Suf.nn _).up (Suf.tl hq5)))) [125] (s.pickT (hd := [_,_,_,_,_,_]) (tl := bs) (hd' := [_,_,_,_,_,_]) [0,1,2,3,4,5] Z Z)) Z fun _ _ => ?_
    have hvn : vl (gVn (vmW i)) q5.tl l8 := by unfold gVn;exact vl_bind (n := n) (x := ()) vl_unit (vl_bind (n := n) (x := ()) vl_unit (vl_bind (n := n) hv8 (vl_bind (n := n) (x := ()) vl_unit (vl_pure))))
    rw [show up n (gNd [125]) (up n gVs (up n (gNd [123]) (up n (gNn (vmW i)) q5.tl))) = up n (gVn (vmW i)) q5.tl by unfold gVn;rw [up_bind (x := ()) (Cz.nn _) vl_unit,up_bind (x := ()) (Cz.nd _) vl_unit,up_bind Cz.vs hv8,up_bind (x := ()) (Cz.nd _) vl_unit,up_pure]]
    exact .nl<|.bN<|.tN<|.rg<|.m Z Z<|.yv (.add Z Z (w6 (by omega))) Z<|.a Z Z<|.nt<|.ag (x := (i,l,k5,p5,c5,x5,H5,q5)) (i + 1,l ++ [l8],k5 + 1,p73,c73,x5 ++ xs73,H9,up n (gVn (vmW i)) q5.tl) ⟨rfl,trivial⟩ ⟨rfl,rfl,rfl,trivial⟩ (fun _ s => (s.pickT (hd := [_,_,_,_,_,_]) (tl := bs) (hd' := [_,_,_,_,_]) [2,0,3,4,5] Z Z)) ⟨by show i + 1 ≤ 2;omega,hJ.step (by omega) h32 hvn,(by dsimp only;simp only [List.length_cons,List.length_append,List.length_nil];omega),(by dsimp only;rw [List.length_append,List.length_singleton];omega),u5.trans (u6.trans (u8.trans u9)),(by dsimp only;rw [← List.cons_append,List.map_append];exact (hz5.up (u6.trans (u8.trans u9)).up).app hz73),(Suf.vn _).up (Suf.tl hq5)⟩ (by show 2 - (i + 1) < 2 - i;omega)
   try simp only [df] at h56
   have hok : tcB n (vmW i) q5.tl = true := by unfold tcB;simp;exact ⟨h0,by simpa using h56⟩
   have e1 : (up n (gNn (vmW i)) q5.tl) = q5.tl.tl := by rw [nn_eq K5.good (Suf.tl hq5) (vmW_or i),if_pos hok]
   obtain ⟨hp,hip⟩ := posN_tl (Suf.tl hq5) (tkH_ne (n := n) (by rw [hk3];decide))
   refine .rg<|.m Z Z<|.yv (.nilCheck Z) Z<|.yv (.fieldAddr Z Fx.field75_2) Z<|.yv (.load Z Fx.agg3 (.tail _<|.head _) Z) Z<|.yv (.add Z Z (c := ((posN ts q5.tl.tl : Nat) : Int)) ((w6 (by omega)).trans (by omega))) Z<|.yv (.nilCheck Z) Z<|.yv (.fieldAddr Z Fx.field75_2) Z<|.st (.tail<|.head) Z Z Fx.size3 Z (nb Z) Z<|?_
   have eo : q5.tl.o = (up n (gNn (vmW i)) q5.tl).o := by rw [e1];rfl
   have ee : q5.tl.e = (up n (gNn (vmW i)) q5.tl).e := by rw [e1];rfl
   rw [← e1,eo,ee]
   refine .ns<|.m Z Z<|.cs (X := Unit) Fx.call96 Z (fun W s => need_r (K5.up u6.up) ((Suf.nn _).up (Suf.tl hq5)) [123] (s.pickT (hd := [_,_,_,_,_,_]) (tl := bs) (hd' := [_,_,_,_,_,_]) [1,0,2,3,4,5] Z Z)) Z fun _ _ => .nt<|.sq<|.fl (trip := [(_,_,_),(_,_,_),(_,_,_),(_,_,_),(_,_,_),(_,_,_)]) 6 [(0,0),(1,0),(2,0),(3,3),(4,1),(5,3)] (by kernel_rfl) (by kernel_rfl) Z<|.yv (.fieldAddr Z Fx.field146_2) Z<|.yv (.load Z Fx.agg144 (.tail _<|.tail _<|.tail _<|.head _) Z) Z<|.m Z Z<|.c3 (X := List Hd × Value × Hp) Fx.call137 Z (fun W s => handlers_r (K5.up u6.up) ((Suf.nd _).up ((Suf.nn _).up (Suf.tl hq5))) (sfx_mu2 hts ((Suf.nd _).up ((Suf.nn _).up (Suf.tl hq5)))) (s.pickT (hd := [_,_,_,_,_,_]) (tl := bs) (hd' := [_,_,_,_,_,_]) [0,1,2,3,4,5] Z Z)) Z (fun _ _ => (.done (by kernel_rfl)<|.yv (.load Z Fx.agg144 (.tail _<|.tail _<|.tail _<|.head _) Z)<|.yv (.fieldAddr Z Fx.field146_2)<|.nl)) fun z8 hz8 => ?_
   obtain ⟨l8,v8,H8⟩ := z8
   obtain ⟨hv8,u8,r8⟩ := hz8
   dsimp only at hv8 u8 r8 ⊢
   have K8 := (K5.up u6.up).up u8.up
   obtain ⟨p8,c8',e8',_⟩ := r8.sl
   simp only [List.cons.injEq,and_true] at e8'
   subst e8'
   refine .blF Z (Fx.bsl144_1 _ _ _) Z fun b72 H9 u9 m9 => .apD Fx.row144 Z (fun _ _ => (.tail<|.tail<|.head)) Z (Rep.mk (n := 1) (c := 1) (ds := [dVs .i64 l8]) m9 (.single (r8.up u9.up) Z) Z (Nat.le_refl _) (by decide)) (by simp only [maxLen];omega) (by omega) Z (fun _ _ => (.done (by kernel_rfl)<|.done (by kernel_rfl)<|.done (by kernel_rfl)<|.nl)) fun xs73 p73 c73 hz73 => .fn (tl := [_,_]) Z<|.yv (.fieldAddr Z Fx.field146_2) Z<|.st (.tail<|.tail<|.tail<|.head) Z Z Fx.size144 Z (nb Z) Z<|.nt<|.rg<|.m Z Z<|.cs (X := Unit) Fx.call96 Z (fun W s => need_r (K8.up u9.up) (Suf.vs.up ((Suf.nd _).up ((Suf.nn _).up (Suf.tl hq5)))) [125] (s.pickT (hd := [_,_,_,_,_,_]) (tl := bs) (hd' := [_,_,_,_,_,_]) [0,1,2,3,4,5] Z Z)) Z fun _ _ => ?_
   have hvn : vl (gVn (vmW i)) q5.tl l8 := by unfold gVn;exact vl_bind (n := n) (x := ()) vl_unit (vl_bind (n := n) (x := ()) vl_unit (vl_bind (n := n) hv8 (vl_bind (n := n) (x := ()) vl_unit (vl_pure))))
   rw [show up n (gNd [125]) (up n gVs (up n (gNd [123]) (up n (gNn (vmW i)) q5.tl))) = up n (gVn (vmW i)) q5.tl by unfold gVn;rw [up_bind (x := ()) (Cz.nn _) vl_unit,up_bind (x := ()) (Cz.nd _) vl_unit,up_bind Cz.vs hv8,up_bind (x := ()) (Cz.nd _) vl_unit,up_pure]]
   exact .nl<|.bN<|.tN<|.rg<|.m Z Z<|.yv (.add Z Z (w6 (by omega))) Z<|.a Z Z<|.nt<|.ag (x := (i,l,k5,p5,c5,x5,H5,q5)) (i + 1,l ++ [l8],k5 + 1,p73,c73,x5 ++ xs73,H9,up n (gVn (vmW i)) q5.tl) ⟨rfl,trivial⟩ ⟨rfl,rfl,rfl,trivial⟩ (fun _ s => (s.pickT (hd := [_,_,_,_,_,_]) (tl := bs) (hd' := [_,_,_,_,_]) [2,0,3,4,5] Z Z)) ⟨by show i + 1 ≤ 2;omega,hJ.step (by omega) h32 hvn,(by dsimp only;simp only [List.length_cons,List.length_append,List.length_nil];omega),(by dsimp only;rw [List.length_append,List.length_singleton];omega),u5.trans (u6.trans (u8.trans u9)),(by dsimp only;rw [← List.cons_append,List.map_append];exact (hz5.up (u6.trans (u8.trans u9)).up).app hz73),(Suf.vn _).up (Suf.tl hq5)⟩ (by show 2 - (i + 1) < 2 - i;omega)
  rw [acS_F h32]
  obtain ⟨eM,hvM⟩ := hJ.no hi2 h32
  refine .ex<|.tE<|.tE<|.bE<|.tN<|.sr<|.m Z Z<|.cs (X := Unit) Fx.call96 Z (fun W s => need_r K5 hq5 [125] (s.pickT (hd := [_,_,_,_,_]) (tl := bs) (hd' := [_,_,_,_,_]) [0,1,2,3,4] Z Z)) Z fun _ _ => .ns<|.yv (.loadW Z Fx.agg146 (.tail _<|.tail _<|.head _) Z) Z<|.sW (.tail<|.tail<|.tail<|.tail<|.head) Z Z Fx.size146 (by simp [cTk,Value.oneCell',strV]) Z<|.nt<|.rt<|?_
  refine Sx.reSt (fun W s => s.pickT (hd := [_,_,_,_,_]) (tl := bs) (hd' := [_,_,_,_]) [3,1,4,0] rfl rfl) ?_
  refine Sx.freezeSeq (ds := lv.map (dVr .i64)) (by rw [List.length_map]) (hzv.up (u3.trans (u4.trans u5)).up) fun H8 p8 c8 u8 e8 h8 => ?_
  refine Sx.freezeSeq (ds := (l3 :: l).map (dVs .i64)) (by rw [List.length_map,List.length_cons];exact hk5.symm) (hz5.up u8.up) fun H9 p9 c9 u9 e9 h9 => ?_
  refine Sx.ret1 (.inl rfl) rfl (.cell rfl Fx.agg146 (.head _) rfl) fun W s => ⟨(⟨nm,lv,l3 :: l⟩,_,H9),⟨by unfold gCp;exact vl_bind (n := n) hnm.1 (vl_bind (n := n) (x := ()) vl_unit (vl_bind (n := n) hvV (vl_bind (n := n) (by rw [eV];exact hv3) (vl_bind (n := n) (by rw [eV];exact hvM) (vl_bind (n := n) (x := ()) vl_unit (vl_pure)))))),u1.trans (u3.trans (u4.trans (u5.trans (u8.trans u9)))),cp_shut (x := ⟨nm,lv,l3 :: l⟩) hnm.2 (h8.up u9.up) h9⟩,rfl,?_⟩
  rw [show up n gCp q = up n (gNd [125]) q5 by unfold gCp;rw [up_bind Cz.nm hnm.1,up_bind (x := ()) (Cz.nd _) vl_unit,up_bind (Cz.many Cz.vr) hvV,eV,up_bind Cz.vs hv3,up_bind Cz.vm hvM,eM,up_bind (x := ()) (Cz.nd _) vl_unit,up_pure]]
  exact s.drop
 try simp only [df] at h29
 obtain rfl : i = 2 := by omega
 obtain ⟨eM,hvM⟩ := hJ.end
 refine .gF Z Z Z Z<|.gF Z Z Z Z<|.yv (.pickF Z Z) Z<|.nt<|.cF Z<|.ex<|.tE<|.tE<|.bE<|.tN<|.sr<|.m Z Z<|.cs (X := Unit) Fx.call96 Z (fun W s => need_r K5 hq5 [125] (s.pickT (hd := [_,_,_,_,_]) (tl := bs) (hd' := [_,_,_,_,_]) [1,0,2,3,4] Z Z)) Z fun _ _ => .ns<|.yv (.loadW Z Fx.agg146 (.tail _<|.tail _<|.head _) Z) Z<|.sW (.tail<|.tail<|.tail<|.tail<|.head) Z Z Fx.size146 (by simp [cTk,Value.oneCell',strV]) Z<|.nt<|.rt<|?_
 refine Sx.reSt (fun W s => s.pickT (hd := [_,_,_,_,_]) (tl := bs) (hd' := [_,_,_,_]) [3,1,4,0] rfl rfl) ?_
 refine Sx.freezeSeq (ds := lv.map (dVr .i64)) (by rw [List.length_map]) (hzv.up (u3.trans (u4.trans u5)).up) fun H8 p8 c8 u8 e8 h8 => ?_
 refine Sx.freezeSeq (ds := (l3 :: l).map (dVs .i64)) (by rw [List.length_map,List.length_cons];exact hk5.symm) (hz5.up u8.up) fun H9 p9 c9 u9 e9 h9 => ?_
 refine Sx.ret1 (.inl rfl) rfl (.cell rfl Fx.agg146 (.head _) rfl) fun W s => ⟨(⟨nm,lv,l3 :: l⟩,_,H9),⟨by unfold gCp;exact vl_bind (n := n) hnm.1 (vl_bind (n := n) (x := ()) vl_unit (vl_bind (n := n) hvV (vl_bind (n := n) (by rw [eV];exact hv3) (vl_bind (n := n) (by rw [eV];exact hvM) (vl_bind (n := n) (x := ()) vl_unit (vl_pure)))))),u1.trans (u3.trans (u4.trans (u5.trans (u8.trans u9)))),cp_shut (x := ⟨nm,lv,l3 :: l⟩) hnm.2 (h8.up u9.up) h9⟩,rfl,?_⟩
 rw [show up n gCp q = up n (gNd [125]) q5 by unfold gCp;rw [up_bind Cz.nm hnm.1,up_bind (x := ()) (Cz.nd _) vl_unit,up_bind (Cz.many Cz.vr) hvV,eV,up_bind Cz.vs hv3,up_bind Cz.vm hvM,eM,up_bind (x := ()) (Cz.nd _) vl_unit,up_pure]]
 exact s.drop
theorem Fx.call38 : callN Tryz.prog 38 = Bool.true := by kernel_rfl
theorem Fx.call71 : callN Tryz.prog 71 = Bool.true := by kernel_rfl
theorem Fx.call75 : callN Tryz.prog 75 = Bool.true := by kernel_rfl
theorem Fx.call76 : callN Tryz.prog 76 = Bool.true := by kernel_rfl
theorem Fx.call77 : callN Tryz.prog 77 = Bool.true := by kernel_rfl
theorem Fx.bld49  : buildN Tryz.prog 49 [] = some [.string ⟨#[]⟩,.slice none 0 0,.slice none 0 0,.slice none 0 0] := by kernel_rfl
theorem Fx.call59 : callN Tryz.prog 59 = Bool.true := by kernel_rfl
theorem Fx.call100 : callN Tryz.prog 100 = Bool.true := by kernel_rfl
theorem Fx.bld141_0 (x0 : ByteArray) : buildN Tryz.prog 141 [(0,.string x0)] = some [.string x0,.bool false] := by kernel_rfl
theorem Fx.bld142_0 (x0 : ByteArray) : buildN Tryz.prog 142 [(0,.string x0)] = some [.string x0,.string ⟨#[]⟩,.int .i64 0] := by kernel_rfl
theorem Fx.bld85  : buildN Tryz.prog 85 [] = some [.string ⟨#[]⟩,.slice none 0 0,.slice none 0 0,.slice none 0 0] := by kernel_rfl
theorem three3 {l : List Value} (h : l.length = 3) : ∃ a b c,l = [a,b,c] := by match l,h with | [a,b,c],_ => exact ⟨a,b,c,rfl⟩
theorem cp_len {H : Hp} {k : IntKind} {x : Cp} {cs : List Value} (h : Rep H (dCp k x) cs) : cs.length = 3 := by
 obtain ⟨p1,c1,p2,c2,rfl,_⟩ := cp_open h
 rfl
set_option maxRecDepth 100000 in
theorem fleet_r {H : Hp} {w0 W : World} {bs : List Res} {b n : Nat} {t : Str} {ts : List Tk} {tp : Option Addr} {tc : Nat} {q : Sg} (K : Tkr H t n ts tp tc) (hq : q.r <:+ ts) (hts : ts.length ≤ 400000) (s : St H w0 (.box b [strV t,.slice tp ts.length tc,.int .i64 (posN ts q : Nat),.int .i64 (q.o : Nat),.int .i64 (q.e : Nat)] 75 :: bs) W) :
 Calls Tryz.prog 59 #[.pointer (some ⟨b,0,none⟩)] W fun e W' => ∃ z : Ft × List Value × Hp,(vl gFt q z.1 ∧ HUp w0 H z.2.2 ∧ Rep z.2.2 (dFt .i64 z.1) z.2.1) ∧ e = .returned (.agg z.2.1.toArray) ∧ St z.2.2 w0 (.box b [strV t,.slice tp ts.length tc,.int .i64 (posN ts ((up n gFt q).cl n) : Nat),.int .i64 (((up n gFt q).cl n).o : Nat),.int .i64 (((up n gFt q).cl n).e : Nat)] 75 :: bs) W' := by
 refine Sx.enterS Tryz.func59 rfl Tryz.ntmps59 rfl s ?_
 refine .sr<|.al Fx.zero85 Z fun b2 => .ns<|.yv (.build Z Fx.bld85) Z<|.al Fx.zero85 Z fun b3 => ?_
 refine Sx.row0 146 3 ?_
 refine Sx.row0 142 3 ?_
 refine Sx.row0 141 2 ?_
 refine .sW (.tail<|.tail<|.tail<|.head) Z Z Fx.size85 (by simp [Value.oneCell',strV]) Z<|.ns<|.m Z Z<|.cs (X := Unit) Fx.call96 Z (fun W s => need_r K hq [102,108,101,101,116] (s.pickT (hd := [_,_,_,_,_,_]) (tl := bs) (hd' := [_,_,_,_,_,_]) [5,0,1,2,3,4] Z Z)) Z fun _ _ => .ns<|.m Z Z<|.cs (X := Str) Fx.call97 Z (fun W s => name_r K ((Suf.nd _).up hq)  (s.pickT (hd := [_,_,_,_,_,_]) (tl := bs) (hd' := [_,_,_,_,_,_]) [0,1,2,3,4,5] Z Z)) Z fun nm hnm => .yv (.fieldAddr Z Fx.field85_0) Z<|.st (.tail<|.tail<|.tail<|.tail<|.head) Z Z Fx.size9 Z (nb Z) Z<|.ns<|.m Z Z<|.cs (X := Unit) Fx.call96 Z (fun W s => need_r K (Suf.nm.up ((Suf.nd _).up hq)) [123] (s.pickT (hd := [_,_,_,_,_,_]) (tl := bs) (hd' := [_,_,_,_,_,_]) [0,1,2,3,4,5] Z Z)) Z fun _ _ => .nt<|.sq<|.bk<|.lp (X := List Fg × Nat × Option Addr × Nat × List Value × Hp × Sg) [(0,_),(2,_),(3,_)] ⟨rfl,rfl,rfl,trivial⟩ (_ :: _ :: _ :: bs) (fun z => []) (fun z => z.2.2.2.2.2.1) (fun z => [.row 141 2 (.slice z.2.2.1 z.2.1 z.2.2.2.1) z.2.1 z.2.2.2.2.1,.box b [strV t,.slice tp ts.length tc,.int .i64 (posN ts z.2.2.2.2.2.2 : Nat),.int .i64 (z.2.2.2.2.2.2.o : Nat),.int .i64 (z.2.2.2.2.2.2.e : Nat)] 75,.box b3 [strV nm,.slice z.2.2.1 z.2.1 z.2.2.2.1,.slice none 0 0,.slice none 0 0] 85]) (fun z => MnI n [102,108,97,103] gFg (up n (gNd [123]) (up n gNm (up n (gNd [102,108,101,101,116]) q))) z.1 z.2.2.2.2.2.2 ∧ z.2.1 = z.1.length ∧ HUp w0 H z.2.2.2.2.2.1 ∧ RepZ z.2.2.2.2.2.1 2 (z.1.map dFg) z.2.2.2.2.1 ∧ z.2.2.2.2.2.2.r <:+ ts) (fun z => z.2.2.2.2.2.2.mu) ([],0,none,0,[],H,(up n (gNd [123]) (up n gNm (up n (gNd [102,108,101,101,116]) q)))) (fun _ s => (s.pickT (hd := [_,_,_,_,_,_]) (tl := bs) (hd' := [_,_,_,_,_,_]) [1,0,4,2,3,5] Z Z)) trivial ⟨MnI.start,rfl,.refl,RepZ.nil,((Suf.nd _).up (Suf.nm.up ((Suf.nd _).up hq)))⟩ fun z hC => ?_
 obtain ⟨la,ka,pa,ca,xa,Ha,qa⟩ := z
 obtain ⟨hIa,hka,ua,hza,hqa⟩ := hC
 dsimp only at hIa hka ua hza hqa ⊢
 have Ka := K.up ua.up
 have hlena := hIa.len
 have hmxa : Sg.mu (up n (gNd [123]) (up n gNm (up n (gNd [102,108,101,101,116]) q))) ≤ 500000 := sfx_mu2 hts ((Suf.nd _).up (Suf.nm.up ((Suf.nd _).up hq)))
 refine .sq<|.sr<|.m Z Z<|.cs (X := Unit) Fx.call54 Z (fun W s => take_r Ka hqa [102,108,97,103] (s.pickT (hd := [_,_,_,_,_,_]) (tl := bs) (hd' := [_,_,_,_,_,_]) [1,0,2,3,4,5] Z Z)) Z fun _ _ => .nt<|.cd Z (fun h15 => ?_) (fun h15 => ?_)
 ·rw [acS_T h15]
  refine .sk<|.tN<|.bk<|.sr<|.m Z Z<|.cs (X := Str) Fx.call97 Z (fun W s => name_r Ka (Suf.tl hqa)  (s.pickT (hd := [_,_,_,_,_,_]) (tl := bs) (hd' := [_,_,_,_,_,_]) [0,1,2,3,4,5] Z Z)) Z fun nf hnf => .yv (.build Z (Fx.bld141_0 _)) Z<|.al Fx.zero141 Z fun b4 => .sW .head Z Z Fx.size141 (by simp [Value.oneCell',strV]) Z<|.ns<|.m Z Z<|.cs (X := Unit) Fx.call96 Z (fun W s => need_r Ka (Suf.nm.up (Suf.tl hqa)) [61] (s.pickT (hd := [_,_,_,_,_,_,_]) (tl := bs) (hd' := [_,_,_,_,_,_,_]) [1,0,2,3,4,5,6] Z Z)) Z fun _ _ => .ns<|.m Z Z<|.cs (X := Bool) Fx.call98 Z (fun W s => truth_r Ka ((Suf.nd _).up (Suf.nm.up (Suf.tl hqa)))  (s.pickT (hd := [_,_,_,_,_,_,_]) (tl := bs) (hd' := [_,_,_,_,_,_,_]) [0,1,2,3,4,5,6] Z Z)) Z fun tb htb => .yv (.fieldAddr Z Fx.field141_1) Z<|.st (.tail<|.head) Z Z Fx.size4 Z (nb Z) Z<|.ns<|.m Z Z<|.cs (X := Unit) Fx.call96 Z (fun W s => need_r Ka (Suf.tr.up ((Suf.nd _).up (Suf.nm.up (Suf.tl hqa)))) [59] (s.pickT (hd := [_,_,_,_,_,_,_]) (tl := bs) (hd' := [_,_,_,_,_,_,_]) [0,1,2,3,4,5,6] Z Z)) Z fun _ _ => ?_
  have hvf : vl gFg qa.tl ⟨nf,tb⟩ := by unfold gFg;exact vl_bind (n := n) hnf.1 (vl_bind (n := n) (x := ()) vl_unit (vl_bind (n := n) htb (vl_bind (n := n) (x := ()) vl_unit (vl_pure))))
  rw [show up n (gNd [59]) (up n gTr (up n (gNd [61]) (up n gNm qa.tl))) = up n gFg qa.tl by unfold gFg;rw [up_bind Cz.nm hnf.1,up_bind (x := ()) (Cz.nd _) vl_unit,up_bind Cz.tr htb,up_bind (x := ()) (Cz.nd _) vl_unit,up_pure]]
  refine .nt<|.rg<|.yv (.fieldAddr Z Fx.field85_1) Z<|.yv (.load Z Fx.agg81 (.tail _<|.tail _<|.tail _<|.head _) Z) Z<|.yv (.loadW Z Fx.agg141 (.tail _<|.head _) Z) Z<|.bl Z (Fx.bsl81_1 _ _) Z fun b29 => ?_
  refine Sx.freezeBox fun H2 u2 m2 => ?_
  refine .apD Fx.row81 Z (fun _ _ => (.tail<|.tail<|.head)) Z (Rep.mk (n := 1) (c := 1) (ds := [dFg ⟨nf,tb⟩]) m2 (.single (fg_shut (x := ⟨nf,tb⟩) hnf.2) Z) Z (Nat.le_refl _) (by decide)) (by simp only [maxLen];omega) (by omega) Z fun xs30 r30 hz30 => ?_
  refine At.ra (.tail _<|.tail _<|.head _) fun p30 c30 e30 => ?_
  subst e30
  exact .yv (.fieldAddr Z Fx.field85_1) Z<|.st (.tail<|.tail<|.tail<|.head) Z Z Fx.size81 Z (nb Z) Z<|.nl<|.bN<|.tN<|.ag (x := (la,ka,pa,ca,xa,Ha,qa)) (la ++ [⟨nf,tb⟩],ka + 1,p30,c30,xa ++ xs30,H2,up n gFg qa.tl) trivial ⟨rfl,rfl,rfl,trivial⟩ (fun _ s => (s.pickT (hd := [_,_,_,_,_,_,_]) (tl := bs) (hd' := [_,_,_,_,_,_]) [2,0,3,4,5,6] Z Z)) ⟨(hIa.step Shs.fg.le Cz.fg h15 hvf).1,by simp [hka],ua.trans u2,by dsimp only;rw [List.map_append];exact (hza.up u2.up).app hz30,Suf.fg.up (Suf.tl hqa)⟩ (hIa.step Shs.fg.le Cz.fg h15 hvf).2
 rw [acS_F h15]
 obtain ⟨eA,hvA⟩ := hIa.stop Shs.fg.le h15
 subst hka
 refine .ex<|.tE<|.tE<|.bE<|.tN<|.sq<|.bk<|.lp (X := List Lk × Nat × Option Addr × Nat × List Value × Hp × Sg) [(0,_),(2,_),(3,_)] ⟨rfl,rfl,rfl,trivial⟩ (_ :: _ :: _ :: bs) (fun z => []) (fun z => z.2.2.2.2.2.1) (fun z => [.row 142 3 (.slice z.2.2.1 z.2.1 z.2.2.2.1) z.2.1 z.2.2.2.2.1,.box b [strV t,.slice tp ts.length tc,.int .i64 (posN ts z.2.2.2.2.2.2 : Nat),.int .i64 (z.2.2.2.2.2.2.o : Nat),.int .i64 (z.2.2.2.2.2.2.e : Nat)] 75,.box b3 [strV nm,.slice pa la.length ca,.slice z.2.2.1 z.2.1 z.2.2.2.1,.slice none 0 0] 85]) (fun z => MnI n [108,105,110,107] gLk qa z.1 z.2.2.2.2.2.2 ∧ z.2.1 = z.1.length ∧ HUp w0 Ha z.2.2.2.2.2.1 ∧ RepZ z.2.2.2.2.2.1 3 (z.1.map dLk) z.2.2.2.2.1 ∧ z.2.2.2.2.2.2.r <:+ ts) (fun z => z.2.2.2.2.2.2.mu) ([],0,none,0,[],Ha,qa) (fun _ s => (s.pickT (hd := [_,_,_,_,_,_]) (tl := bs) (hd' := [_,_,_,_,_,_]) [3,0,2,1,4,5] Z Z)) trivial ⟨MnI.start,rfl,.refl,RepZ.nil,hqa⟩ fun z hC => ?_
 obtain ⟨lb,kb,pb,cb,xb,Hb,qb⟩ := z
 obtain ⟨hIb,hkb,ub,hzb,hqb⟩ := hC
 dsimp only at hIb hkb ub hzb hqb ⊢
 have Kb := Ka.up ub.up
 have hlenb := hIb.len
 have hmxb : Sg.mu qa ≤ 500000 := sfx_mu2 hts hqa
 refine .sq<|.sr<|.m Z Z<|.cs (X := Unit) Fx.call54 Z (fun W s => take_r Kb hqb [108,105,110,107] (s.pickT (hd := [_,_,_,_,_,_]) (tl := bs) (hd' := [_,_,_,_,_,_]) [1,0,2,3,4,5] Z Z)) Z fun _ _ => .nt<|.cd Z (fun h33 => ?_) (fun h33 => ?_)
 ·rw [acS_T h33]
  refine .sk<|.tN<|.bk<|.sr<|.m Z Z<|.cs (X := Str) Fx.call97 Z (fun W s => name_r Kb (Suf.tl hqb)  (s.pickT (hd := [_,_,_,_,_,_]) (tl := bs) (hd' := [_,_,_,_,_,_]) [0,1,2,3,4,5] Z Z)) Z fun nf hnf => .yv (.build Z (Fx.bld142_0 _)) Z<|.al Fx.zero142 Z fun b5 => .sW .head Z Z Fx.size142 (by simp [Value.oneCell',strV]) Z<|.ns<|.m Z Z<|.cs (X := Unit) Fx.call96 Z (fun W s => need_r Kb (Suf.nm.up (Suf.tl hqb)) [45,62] (s.pickT (hd := [_,_,_,_,_,_,_]) (tl := bs) (hd' := [_,_,_,_,_,_,_]) [1,0,2,3,4,5,6] Z Z)) Z fun _ _ => .ns<|.m Z Z<|.cs (X := Str) Fx.call97 Z (fun W s => name_r Kb ((Suf.nd _).up (Suf.nm.up (Suf.tl hqb)))  (s.pickT (hd := [_,_,_,_,_,_,_]) (tl := bs) (hd' := [_,_,_,_,_,_,_]) [0,1,2,3,4,5,6] Z Z)) Z fun nt hnt => .yv (.fieldAddr Z Fx.field142_1) Z<|.st (.tail<|.head) Z Z Fx.size9 Z (nb Z) Z<|.ns<|.m Z Z<|.cs (X := Unit) Fx.call96 Z (fun W s => need_r Kb (Suf.nm.up ((Suf.nd _).up (Suf.nm.up (Suf.tl hqb)))) [108,97,116,101,110,99,121] (s.pickT (hd := [_,_,_,_,_,_,_]) (tl := bs) (hd' := [_,_,_,_,_,_,_]) [0,1,2,3,4,5,6] Z Z)) Z fun _ _ => .ns<|.m Z Z<|.cs (X := Int64) Fx.call99 Z (fun W s => number_r Kb ((Suf.nd _).up (Suf.nm.up ((Suf.nd _).up (Suf.nm.up (Suf.tl hqb)))))  (s.pickT (hd := [_,_,_,_,_,_,_]) (tl := bs) (hd' := [_,_,_,_,_,_,_]) [0,1,2,3,4,5,6] Z Z)) Z fun nu hnu => .yv (.fieldAddr Z Fx.field142_2) Z<|.st (.tail<|.head) Z Z Fx.size3 Z (nb Z) Z<|.ns<|.m Z Z<|.cs (X := Unit) Fx.call96 Z (fun W s => need_r Kb (Suf.nu.up ((Suf.nd _).up (Suf.nm.up ((Suf.nd _).up (Suf.nm.up (Suf.tl hqb)))))) [59] (s.pickT (hd := [_,_,_,_,_,_,_]) (tl := bs) (hd' := [_,_,_,_,_,_,_]) [0,1,2,3,4,5,6] Z Z)) Z fun _ _ => ?_
  have hvl : vl gLk qb.tl ⟨nf,nt,nu⟩ := by unfold gLk;exact vl_bind (n := n) hnf.1 (vl_bind (n := n) (x := ()) vl_unit (vl_bind (n := n) hnt.1 (vl_bind (n := n) (x := ()) vl_unit (vl_bind (n := n) hnu (vl_bind (n := n) (x := ()) vl_unit (vl_pure))))))
  rw [show up n (gNd [59]) (up n gNu (up n (gNd [108,97,116,101,110,99,121]) (up n gNm (up n (gNd [45,62]) (up n gNm qb.tl))))) = up n gLk qb.tl by unfold gLk;rw [up_bind Cz.nm hnf.1,up_bind (x := ()) (Cz.nd _) vl_unit,up_bind Cz.nm hnt.1,up_bind (x := ()) (Cz.nd _) vl_unit,up_bind Cz.nu hnu,up_bind (x := ()) (Cz.nd _) vl_unit,up_pure]]
  refine .nt<|.rg<|.yv (.fieldAddr Z Fx.field85_2) Z<|.yv (.load Z Fx.agg82 (.tail _<|.tail _<|.tail _<|.head _) Z) Z<|.yv (.loadW Z Fx.agg142 (.tail _<|.head _) Z) Z<|.bl Z (Fx.bsl82_1 _ _ _) Z fun b52 => ?_
  refine Sx.freezeBox fun H3 u3 m3 => ?_
  refine .apD Fx.row82 Z (fun _ _ => (.tail<|.tail<|.head)) Z (Rep.mk (n := 1) (c := 1) (ds := [dLk ⟨nf,nt,nu⟩]) m3 (.single (lk_shut (x := ⟨nf,nt,nu⟩) hnf.2 hnt.2) Z) Z (Nat.le_refl _) (by decide)) (by simp only [maxLen];omega) (by omega) Z fun xs53 r53 hz53 => ?_
  refine At.ra (.tail _<|.tail _<|.head _) fun p53 c53 e53 => ?_
  subst e53
  exact .yv (.fieldAddr Z Fx.field85_2) Z<|.st (.tail<|.tail<|.tail<|.head) Z Z Fx.size82 Z (nb Z) Z<|.nl<|.bN<|.tN<|.ag (x := (lb,kb,pb,cb,xb,Hb,qb)) (lb ++ [⟨nf,nt,nu⟩],kb + 1,p53,c53,xb ++ xs53,H3,up n gLk qb.tl) trivial ⟨rfl,rfl,rfl,trivial⟩ (fun _ s => (s.pickT (hd := [_,_,_,_,_,_,_]) (tl := bs) (hd' := [_,_,_,_,_,_]) [2,0,3,4,5,6] Z Z)) ⟨(hIb.step Shs.lk.le Cz.lk h33 hvl).1,by simp [hkb],ub.trans u3,by dsimp only;rw [List.map_append];exact (hzb.up u3.up).app hz53,Suf.lk.up (Suf.tl hqb)⟩ (hIb.step Shs.lk.le Cz.lk h33 hvl).2
 rw [acS_F h33]
 obtain ⟨eB,hvB⟩ := hIb.stop Shs.lk.le h33
 subst hkb
 refine .ex<|.tE<|.tE<|.bE<|.tN<|.sq<|.bk<|.lp (X := List Cp × Nat × Option Addr × Nat × List Value × Hp × Sg) [(0,_),(2,_),(3,_)] ⟨rfl,rfl,rfl,trivial⟩ (_ :: _ :: _ :: bs) (fun z => []) (fun z => z.2.2.2.2.2.1) (fun z => [.row 146 3 (.slice z.2.2.1 z.2.1 z.2.2.2.1) z.2.1 z.2.2.2.2.1,.box b [strV t,.slice tp ts.length tc,.int .i64 (posN ts z.2.2.2.2.2.2 : Nat),.int .i64 (z.2.2.2.2.2.2.o : Nat),.int .i64 (z.2.2.2.2.2.2.e : Nat)] 75,.box b3 [strV nm,.slice pa la.length ca,.slice pb lb.length cb,.slice z.2.2.1 z.2.1 z.2.2.2.1] 85]) (fun z => MnI n [99,111,109,112,111,110,101,110,116] gCp qb z.1 z.2.2.2.2.2.2 ∧ z.2.1 = z.1.length ∧ HUp w0 Hb z.2.2.2.2.2.1 ∧ RepZ z.2.2.2.2.2.1 3 (z.1.map (dCp .i64)) z.2.2.2.2.1 ∧ z.2.2.2.2.2.2.r <:+ ts) (fun z => z.2.2.2.2.2.2.mu) ([],0,none,0,[],Hb,qb) (fun _ s => (s.pickT (hd := [_,_,_,_,_,_]) (tl := bs) (hd' := [_,_,_,_,_,_]) [4,0,2,1,3,5] Z Z)) trivial ⟨MnI.start,rfl,.refl,RepZ.nil,hqb⟩ fun z hC => ?_
 obtain ⟨ld,kd,pd,cd,xd,Hd,qd⟩ := z
 obtain ⟨hId,hkd,ud,hzd,hqd⟩ := hC
 dsimp only at hId hkd ud hzd hqd ⊢
 have Kd := Kb.up ud.up
 have hlend := hId.len
 have hmxd : Sg.mu qb ≤ 500000 := sfx_mu2 hts hqb
 refine .sq<|.sr<|.m Z Z<|.cs (X := Unit) Fx.call54 Z (fun W s => take_r Kd hqd [99,111,109,112,111,110,101,110,116] (s.pickT (hd := [_,_,_,_,_,_]) (tl := bs) (hd' := [_,_,_,_,_,_]) [1,0,2,3,4,5] Z Z)) Z fun _ _ => .nt<|.cd Z (fun h56 => ?_) (fun h56 => ?_)
 ·rw [acS_T h56]
  refine .sk<|.tN<|.bk<|.fl (trip := [(_,_,_),(_,_,_),(_,_,_),(_,_,_),(_,_,_),(_,_,_)]) 6 [(0,0),(1,0),(2,0),(3,3),(4,1),(5,3)] (by kernel_rfl) (by kernel_rfl) Z<|.yv (.fieldAddr Z Fx.field85_3) Z<|.yv (.load Z Fx.agg83 (.tail _<|.tail _<|.head _) Z) Z<|.m Z Z<|.c3 (X := Cp × List Value × Hp) Fx.call100 Z (fun W s => component_r Kd (Suf.tl hqd) hts (s.pickT (hd := [_,_,_,_,_,_]) (tl := bs) (hd' := [_,_,_,_,_,_]) [0,1,2,3,4,5] Z Z)) Z (fun _ _ => (.done (by kernel_rfl)<|.yv (.load Z Fx.agg83 (.tail _<|.tail _<|.head _) Z)<|.yv (.fieldAddr Z Fx.field85_3)<|.nl)) fun z60 hz60 => ?_
  obtain ⟨a60,c60,H60⟩ := z60
  obtain ⟨hv60,u60,r60⟩ := hz60
  dsimp only at hv60 u60 r60 ⊢
  obtain ⟨x1,x2,x3,rfl⟩ := three3 (cp_len r60)
  exact .blF Z (Fx.bsl83_1 _ _ _) Z fun b61 H4 u4 m4 => .apD Fx.row83 Z (fun _ _ => (.tail<|.head)) Z (Rep.mk (n := 1) (c := 1) (ds := [dCp .i64 a60]) m4 (.single (r60.up u4.up) Z) Z (Nat.le_refl _) (by decide)) (by simp only [maxLen];omega) (by omega) Z (fun _ _ => (.done (by kernel_rfl)<|.done (by kernel_rfl)<|.done (by kernel_rfl)<|.nl)) fun xs62 p62 c62 hz62 => .fn (tl := [_,_]) Z<|.yv (.fieldAddr Z Fx.field85_3) Z<|.st (.tail<|.tail<|.head) Z Z Fx.size83 Z (nb Z) Z<|.nl<|.bN<|.tN<|.ag (x := (ld,kd,pd,cd,xd,Hd,qd)) (ld ++ [a60],kd + 1,p62,c62,xd ++ xs62,H4,up n gCp qd.tl) trivial ⟨rfl,rfl,rfl,trivial⟩ (fun _ s => (s.pickT (hd := [_,_,_,_,_,_]) (tl := bs) (hd' := [_,_,_,_,_,_]) [1,0,2,3,4,5] Z Z)) ⟨(hId.step Shs.cp.le Cz.cp h56 hv60).1,by simp [hkd],ud.trans (u60.trans u4),by dsimp only;rw [List.map_append];exact (hzd.up (u60.trans u4).up).app hz62,Suf.cp.up (Suf.tl hqd)⟩ (hId.step Shs.cp.le Cz.cp h56 hv60).2
 rw [acS_F h56]
 obtain ⟨eD,hvD⟩ := hId.stop Shs.cp.le h56
 subst hkd
 refine .ex<|.tE<|.tE<|.bE<|.tN<|.sr<|.m Z Z<|.cs (X := Unit) Fx.call96 Z (fun W s => need_r Kd hqd [125] (s.pickT (hd := [_,_,_,_,_,_]) (tl := bs) (hd' := [_,_,_,_,_,_]) [0,1,2,3,4,5] Z Z)) Z fun _ _ => .ns<|.m Z Z<|.cs (X := Unit) Fx.call27 Z (fun W s => end_r Kd ((Suf.nd _).up hqd)  (s.pickT (hd := [_,_,_,_,_,_]) (tl := bs) (hd' := [_,_,_,_,_,_]) [0,1,2,3,4,5] Z Z)) Z fun _ _ => .ns<|.yv (.loadW Z Fx.agg85 (.tail _<|.tail _<|.head _) Z) Z<|.sW (.tail<|.tail<|.tail<|.tail<|.tail<|.head) Z Z Fx.size85 (by simp [Value.oneCell',strV]) Z<|.nt<|.rt<|?_
 refine Sx.reSt (fun W s => s.pickT (hd := [_,_,_,_,_,_]) (tl := bs) (hd' := [_,_,_,_,_]) [4,3,1,5,0] rfl rfl) ?_
 refine Sx.freezeSeq (ds := la.map dFg) (by rw [List.length_map]) (hza.up (ub.trans ud).up) fun H5 p5 c5 u5 e5 h5 => ?_
 refine Sx.freezeSeq (ds := lb.map dLk) (by rw [List.length_map]) (hzb.up (ud.trans u5).up) fun H6 p6 c6 u6 e6 h6 => ?_
 refine Sx.freezeSeq (ds := ld.map (dCp .i64)) (by rw [List.length_map]) (hzd.up (u5.trans u6).up) fun H7 p7 c7 u7 e7 h7 => ?_
 refine Sx.ret1 (.inl rfl) rfl (.cell rfl Fx.agg85 (.head _) rfl) fun W s => ⟨(⟨nm,la,lb,ld⟩,_,H7),⟨vl_bind (n := n) (x := ()) vl_unit (vl_bind (n := n) hnm.1 (vl_bind (n := n) (x := ()) vl_unit (vl_bind (n := n) hvA (vl_bind (n := n) (by rw [eA];exact hvB) (vl_bind (n := n) (by rw [eA,eB];exact hvD) (vl_bind (n := n) (x := ()) vl_unit vl_pure)))))),ua.trans (ub.trans (ud.trans (u5.trans (u6.trans u7)))),ft_shut (x := ⟨nm,la,lb,ld⟩) hnm.2 (h5.up (u6.trans u7).up) (h6.up u7.up) h7⟩,rfl,?_⟩
 rw [show up n gFt q = up n (gNd [125]) qd by unfold gFt;rw [up_bind (x := ()) (Cz.nd _) vl_unit,up_bind Cz.nm hnm.1,up_bind (x := ()) (Cz.nd _) vl_unit,up_bind (Cz.many Cz.fg) hvA,eA,up_bind (Cz.many Cz.lk) hvB,eB,up_bind (Cz.many Cz.cp) hvD,eD,up_bind (x := ()) (Cz.nd _) vl_unit,up_pure]]
 exact s.drop
theorem sg0_len4 (t : Str) : (sg0 t).r.length ≤ 400000 := by
 unfold sg0
 split
 ·simp
 ·have := lexR_len t
  show (lexR t).length ≤ 400000
  omega
theorem ft_len4 {H : Hp} {k : IntKind} {x : Ft} {cs : List Value} (h : Rep H (dFt k x) cs) : ∃ a b c,cs = [strV x.nm,a,b,c] := by
 obtain ⟨p1,c1,p2,c2,p3,c3,rfl,_⟩ := ft_open h
 exact ⟨_,_,_,rfl⟩
def rfO (t : Str) : Nat := if (sgZ gFt t).e = 0 then 0 else (sgZ gFt t).o
def rfR (t : Str) (cs : List Value) : List Value := if (sgZ gFt t).e = 0 then cs else [.string ⟨#[]⟩,.slice none 0 0,.slice none 0 0,.slice none 0 0]
set_option maxRecDepth 100000 in
theorem parseR_st {H : Hp} {w0 W : World} {bs : List Res} (t : Str) (ht : t.length ≤ 9223372036854775807) (s : St H w0 bs W) :
 Calls Tryz.prog 33 #[strV t] W fun e W' => ∃ z : Ft × List Value × Hp,(vl gFt (sg0 t) z.1 ∧ HUp w0 H z.2.2 ∧ Rep z.2.2 (dFt .i64 z.1) z.2.1) ∧ e = .returned (.tuple #[.agg (rfR t z.2.1).toArray,.int .i64 (rfO t : Nat),.int .i64 ((sgZ gFt t).e : Nat)]) ∧ St z.2.2 w0 bs W' := by
 refine Sx.enterS Tryz.func33 rfl Tryz.ntmps33 rfl s ?_
 refine .sr<|.al Fx.zero85 Z fun b2 => .a Z Z<|.a Z Z<|.ns<|.m Z Z<|.cs (X := Nat × Hp × Option Addr × Nat) Fx.call25 Z (fun W s => made_r t ht s) Z fun z0 hz0 => ?_
 obtain ⟨b,H0,tp,tc⟩ := z0
 obtain ⟨K0,u0⟩ := hz0
 dsimp only at K0 u0 ⊢
 refine .a Z Z<|.ns<|.m Z Z<|.cs (X := Ft × List Value × Hp) Fx.call59 Z (fun W s => fleet_r K0 (List.suffix_refl _) (sg0_len4 t) (s.pickT (hd := [_,_]) (tl := bs) (hd' := [_,_]) [0,1] Z Z)) Z fun z1 hz1 => ?_
 obtain ⟨a1,c1,H1⟩ := z1
 obtain ⟨hv1,u1,r1⟩ := hz1
 dsimp only at hv1 u1 r1 ⊢
 obtain ⟨x1,x2,x3,rfl⟩ := ft_len4 r1
 have u2 := u0.trans u1
 refine .al Fx.zero85 Z fun b6 => .sW .head Z Z Fx.size85 (Rep.one r1) Z<|.nt<|.sq<|.sr<|.m Z Z<|.yv (.nilCheck Z) Z<|.yv (.fieldAddr Z Fx.field75_4) Z<|.yv (.load Z Fx.agg3 (.tail _<|.head _) Z) Z<|.yv (.neq Z Z) Z<|.nt<|.cd Z (fun h15 => ?_) (fun h15 => ?_)
 ·try simp only [dt] at h15
  have hZ : ¬ (sgZ gFt t).e = 0 := by unfold sgZ;omega
  refine .sq<|.fl (trip := [(_,_,_),(_,_,_),(_,_,_),(_,_,_),(_,_,_),(_,_,_),(_,_,_),(_,_,_),(_,_,_),(_,_,_),(_,_,_)]) 11 [(0,0),(1,0),(2,0),(3,0),(4,0),(5,0),(6,0),(7,0),(8,0),(9,3),(10,0)] (by kernel_rfl) (by kernel_rfl) Z<|.yv (.build Z Fx.bld85) Z<|.m Z Z<|.yv (.nilCheck Z) Z<|.yv (.fieldAddr Z Fx.field75_3) Z<|.yv (.load Z Fx.agg3 (.tail _<|.head _) Z) Z<|.m Z Z<|.yv (.nilCheck Z) Z<|.yv (.fieldAddr Z Fx.field75_4) Z<|.yv (.load Z Fx.agg3 (.tail _<|.head _) Z) Z<|.sW (.tail<|.tail<|.head) Z Z Fx.size85 (by simp [Value.oneCell']) Z ((.yv (.load Z Fx.agg3 (.tail _<|.head _) Z)<|.yv (.fieldAddr Z Fx.field75_4)<|.yv (.nilCheck Z)<|.yv (.move Z)<|.yv (.load Z Fx.agg3 (.tail _<|.head _) Z)<|.yv (.fieldAddr Z Fx.field75_3)<|.yv (.nilCheck Z)<|.yv (.move Z)<|.done (by kernel_rfl)<|.nl))<|.a Z Z<|.fn (tl := [_]) Z<|.a Z Z<|.nt<|.rt<|.tR<|?_
  refine Sx.retN (.inl rfl) rfl (.cons (.cell rfl Fx.agg85 (.tail _<|.tail _<|.head _) rfl) (.cons (.tmp rfl) (.cons (.tmp rfl) .nil))) rfl fun W s => ⟨(a1,[strV a1.nm,x1,x2,x3],H1),⟨hv1,u2,r1⟩,?_,s.pickT (hd := [_,_,_]) (tl := bs) (hd' := []) [] rfl rfl⟩
  unfold rfR rfO
  simp only [hZ,if_false]
  rfl
 try simp only [df] at h15
 have hZ : (sgZ gFt t).e = 0 := by unfold sgZ;omega
 refine .sk<|.tN<|.sr<|.yv (.loadW Z Fx.agg85 (.head _) Z) Z<|.sW (.tail<|.tail<|.head) Z Z Fx.size85 (Rep.one r1) Z<|.a Z Z<|.a Z Z<|.nt<|.rt<|?_
 refine Sx.retN (.inl rfl) rfl (.cons (.cell rfl Fx.agg85 (.tail _<|.tail _<|.head _) rfl) (.cons (.tmp rfl) (.cons (.tmp rfl) .nil))) rfl fun W s => ⟨(a1,[strV a1.nm,x1,x2,x3],H1),⟨hv1,u2,r1⟩,?_,s.pickT (hd := [_,_,_]) (tl := bs) (hd' := []) [] rfl rfl⟩
 unfold rfR rfO
 simp only [hZ,if_true]
 rfl
set_option maxRecDepth 100000 in
theorem fleet_st {H : Hp} {w0 W : World} {bs : List Res} {b n : Nat} {ts : List Tk} {tp : Option Addr} {tc : Nat} {q : Sg} (K : Tkm H ts tp tc) (hq : q.r <:+ ts) (hmu : q.mu ≤ 1000000) (hcp : (up n (gMany [108,105,110,107] gLk) (up n (gMany [102,108,97,103] gFg) (up n (gNd [123]) (up n gNm (up n (gNd [102,108,101,101,116]) q))))).e = 0 → ∀ {t0 t1 t2 : Value},ItemC 77 gCp (dCp .u8) 110 3 (fun _ => t0) (fun _ => t1) (fun _ => t2) (fun v => v) b n ts tp tc) (s : St H w0 (.box b [.slice tp ts.length tc,.int .i64 (posN ts q : Nat),.int .i64 (n : Nat),.string ⟨#[]⟩,.slice none 0 0,.slice none 0 0,.slice none 0 0,.int .i64 (q.o : Nat),.int .i64 (q.e : Nat)] 99 :: bs) W) :
 Calls Tryz.prog 38 #[.pointer (some ⟨b,0,none⟩)] W fun e W' => ∃ z : Ft × (Value × Value × Value × Value) × Hp,(vl gFt q z.1 ∧ HUp w0 H z.2.2 ∧ Rep z.2.2 (dFt .u8 z.1) [z.2.1.1,z.2.1.2.1,z.2.1.2.2.1,z.2.1.2.2.2]) ∧ e = .returned (.tuple #[]) ∧ St z.2.2 w0 (.box b [.slice tp ts.length tc,.int .i64 (posN ts (up n gFt q) : Nat),.int .i64 (n : Nat),z.2.1.1,z.2.1.2.1,z.2.1.2.2.1,z.2.1.2.2.2,.int .i64 ((up n gFt q).o : Nat),.int .i64 ((up n gFt q).e : Nat)] 99 :: bs) W' := by
 refine Sx.enterS Tryz.func38 rfl Tryz.ntmps38 rfl s ?_
 refine .sr<|.bx Z Z Z fun b1 => ?_
 refine Sx.freezeBox fun H1 u1 m1 => ?_
 have K1 := K.up u1.up
 refine .ns<|.yv (.mkF Z Z) Z<|.a Z Z<|.ns<|.yv (.loadM Z Fx.agg65 m1 (k := 0) Z Z) Z<|.cs (X := Unit) Fx.call73 Z (fun W s => expect_nd K1 hq [102,108,101,101,116] (by decide +kernel) (s.pickT (hd := [_]) (tl := bs) (hd' := [_]) [0] Z Z)) Z fun _ _ => .nt<|.sq<|.fl (trip := [(_,_,_),(_,_,_),(_,_,_),(_,_,_),(_,_,_),(_,_,_)]) 6 [(0,0),(1,0),(2,3),(3,0),(4,0),(5,0)] (by kernel_rfl) (by kernel_rfl) Z<|.yv (.loadM Z Fx.agg65 m1 (k := 0) Z Z) Z<|.yv (.loadM Z Fx.agg65 m1 (k := 0) Z Z) Z<|.c3 (X := Str) Fx.call74 Z (fun W s => name_st K1 ((Suf.nd _).up hq)  (s.pickT (hd := [_]) (tl := bs) (hd' := [_]) [0] Z Z)) Z (fun _ _ => (.done (by kernel_rfl)<|.yv (.loadM Z Fx.agg65 m1 (k := 0) Z Z)<|.nl)) fun nm hnm => .yv (.nilCheck Z) Z<|.yv (.fieldAddr Z Fx.field99_3) Z<|.yv (.fieldAddr Z Fx.field49_0) Z<|.fn (tl := [_]) Z<|.st .head Z Z Fx.size9 Z (nb Z) Z<|.ns<|.yv (.loadM Z Fx.agg65 m1 (k := 0) Z Z) Z<|.cs (X := Unit) Fx.call73 Z (fun W s => expect_nd K1 (Suf.nm.up ((Suf.nd _).up hq)) [123] (by decide +kernel) (s.pickT (hd := [_]) (tl := bs) (hd' := [_]) [0] Z Z)) Z fun _ _ => ?_
 have hq3 : (up n (gNd [123]) (up n gNm (up n (gNd [102,108,101,101,116]) q))).r <:+ ts := (Suf.nd _).up (Suf.nm.up ((Suf.nd _).up hq))
 have hm3 : (up n (gNd [123]) (up n gNm (up n (gNd [102,108,101,101,116]) q))).mu ≤ 1000000 := Nat.le_trans (mu_up (Shs.nd _).le (Cz.nd _)) (Nat.le_trans (mu_up Shs.nm.le Cz.nm) (Nat.le_trans (mu_up (Shs.nd _).le (Cz.nd _)) hmu))
 refine Sx.row0 110 3 ?_
 refine Sx.row0 105 3 ?_
 refine Sx.row0 102 2 ?_
 refine .ns<|.m Z Z<|.yv (.loadM Z Fx.agg65 m1 (k := 0) Z Z) Z<|.yv (.mkF Z Z) Z<|.sv (X := List Fg × Value × List Value × Hp) (fi := []) (ca := [.pointer (some ⟨b1,0,none⟩)]) Z Fx.call71 Z (fun W s => many_st K1 hq3 hm3 75 Fx.call75 [102,108,97,103] (by decide +kernel) gFg dFg 102 2 Shs.fg.le Cz.fg Suf.fg (fun _ => flag_st) b1 m1 _ (s.pickT (hd := [_,_,_,_]) (tl := bs) (hd' := [_,_,_,_]) [0,3,1,2] Z Z)) Z fun z2 hz2 => ?_
 obtain ⟨fs,v1,xs1,H2⟩ := z2
 obtain ⟨hv1,u2,hz1,_⟩ := hz2
 dsimp only at hv1 u2 hz1 ⊢
 have K2 := K1.up u2.up
 have hq4 : (up n (gMany [102,108,97,103] gFg) (up n (gNd [123]) (up n gNm (up n (gNd [102,108,101,101,116]) q)))).r <:+ ts := (Suf.many Suf.fg).up hq3
 have hm4 : (up n (gMany [102,108,97,103] gFg) (up n (gNd [123]) (up n gNm (up n (gNd [102,108,101,101,116]) q)))).mu ≤ 1000000 := Nat.le_trans (mu_up (Shr.many Shs.fg.le) (Cz.many Cz.fg)) hm3
 refine .ns<|.m Z Z<|.yv (.loadM Z Fx.agg65 (m1.up u2.up) (k := 0) Z Z) Z<|.yv (.mkF Z Z) Z<|.sv (X := List Lk × Value × List Value × Hp) (fi := []) (ca := [.pointer (some ⟨b1,0,none⟩)]) Z Fx.call71 Z (fun W s => many_st K2 hq4 hm4 76 Fx.call76 [108,105,110,107] (by decide +kernel) gLk dLk 105 3 Shs.lk.le Cz.lk Suf.lk (fun _ => link_st) b1 (m1.up u2.up) _ (s.pickT (hd := [_,_,_,_]) (tl := bs) (hd' := [_,_,_,_]) [2,1,0,3] Z Z)) Z fun z2 hz2 => ?_
 obtain ⟨ls,v2,xs2,H3⟩ := z2
 obtain ⟨hv2,u3,hz2,_⟩ := hz2
 dsimp only at hv2 u3 hz2 ⊢
 have K3 := K2.up u3.up
 have hq5 : (up n (gMany [108,105,110,107] gLk) (up n (gMany [102,108,97,103] gFg) (up n (gNd [123]) (up n gNm (up n (gNd [102,108,101,101,116]) q))))).r <:+ ts := (Suf.many Suf.lk).up hq4
 have hm5 : (up n (gMany [108,105,110,107] gLk) (up n (gMany [102,108,97,103] gFg) (up n (gNd [123]) (up n gNm (up n (gNd [102,108,101,101,116]) q))))).mu ≤ 1000000 := Nat.le_trans (mu_up (Shr.many Shs.lk.le) (Cz.many Cz.lk)) hm4
 refine .ns<|.m Z Z<|.yv (.loadM Z Fx.agg65 (m1.up (u2.trans u3).up) (k := 0) Z Z) Z<|.yv (.mkF Z Z) Z<|.sv (X := List Cp × Value × List Value × Hp) (fi := []) (ca := [.pointer (some ⟨b1,0,none⟩)]) Z Fx.call71 Z (fun W s => many_st K3 hq5 hm5 77 Fx.call77 [99,111,109,112,111,110,101,110,116] (by decide +kernel) gCp (dCp .u8) 110 3 Shs.cp.le Cz.cp Suf.cp (fun h => hcp h) b1 (m1.up (u2.trans u3).up) _ (s.pickT (hd := [_,_,_,_]) (tl := bs) (hd' := [_,_,_,_]) [3,1,0,2] Z Z)) Z fun z2 hz2 => ?_
 obtain ⟨cs,v3,xs3,H4⟩ := z2
 obtain ⟨hv3,u4,hz3,_⟩ := hz2
 dsimp only at hv3 u4 hz3 ⊢
 have K4 := K3.up u4.up
 have hq6 : (up n (gMany [99,111,109,112,111,110,101,110,116] gCp) (up n (gMany [108,105,110,107] gLk) (up n (gMany [102,108,97,103] gFg) (up n (gNd [123]) (up n gNm (up n (gNd [102,108,101,101,116]) q)))))).r <:+ ts := (Suf.many Suf.cp).up hq5
 refine .nt<|.rg<|.yv (.loadM Z Fx.agg65 (m1.up (u2.trans (u3.trans u4)).up) (k := 0) Z Z) Z<|.cs (X := Unit) Fx.call73 Z (fun W s => expect_nd K4 hq6 [125] (by decide +kernel) (s.pickT (hd := [_,_,_,_]) (tl := bs) (hd' := [_,_,_,_]) [1,0,2,3] Z Z)) Z fun _ _ => .nl<|?_
 refine Sx.reSt (fun W s => s.pickT (hd := [_,_,_,_]) (tl := bs) (hd' := [_,_,_,_]) [3,2,1,0] rfl rfl) ?_
 refine Sx.freezeSeq (ds := fs.map dFg) (by simp) (hz1.up (u3.trans u4).up) fun H5 p5 c5 u5 e5 h5 => ?_
 refine Sx.freezeSeq (ds := ls.map dLk) (by simp) (hz2.up (u4.trans u5).up) fun H6 p6 c6 u6 e6 h6 => ?_
 refine Sx.freezeSeq (ds := cs.map (dCp .u8)) (by simp) (hz3.up (u5.trans u6).up) fun H7 p7 c7 u7 e7 h7 => ?_
 refine Sx.retN (.inr rfl) rfl .nil rfl fun W s => ⟨(⟨nm,fs,ls,cs⟩,(strV nm,v1,v2,v3),H7),⟨vl_bind (n := n) (x := ()) vl_unit (vl_bind (n := n) hnm.1 (vl_bind (n := n) (x := ()) vl_unit (vl_bind (n := n) hv1 (vl_bind (n := n) hv2 (vl_bind (n := n) hv3 (vl_bind (n := n) (x := ()) vl_unit vl_pure)))))),u1.trans (u2.trans (u3.trans (u4.trans (u5.trans (u6.trans u7))))),ft_shut (x := ⟨nm,fs,ls,cs⟩) hnm.2 (h5.up (u6.trans u7).up) (h6.up u7.up) h7⟩,rfl,?_⟩
 rw [show up n gFt q = (up n (gNd [125]) (up n (gMany [99,111,109,112,111,110,101,110,116] gCp) (up n (gMany [108,105,110,107] gLk) (up n (gMany [102,108,97,103] gFg) (up n (gNd [123]) (up n gNm (up n (gNd [102,108,101,101,116]) q))))))) by unfold gFt;rw [up_bind (x := ()) (Cz.nd _) vl_unit,up_bind Cz.nm hnm.1,up_bind (x := ()) (Cz.nd _) vl_unit,up_bind (Cz.many Cz.fg) hv1,up_bind (Cz.many Cz.lk) hv2,up_bind (Cz.many Cz.cp) hv3,up_bind (x := ()) (Cz.nd _) vl_unit,up_pure]]
 exact s
theorem sg0_mu (t : Str) : (sg0 t).mu ≤ 1000000 := by
 unfold sg0
 split
 ·rw [Sg.mu_er (by decide)];omega
 ·have := lexR_len t
  unfold Sg.mu
  simp only [if_true]
  omega
def pzE (t : Str) (x : Ft) : Nat := if (sgZ gFt t).e = 0 then checkF x else (sgZ gFt t).e
def pzO (t : Str) (x : Ft) : Nat := if (sgZ gFt t).e = 0 ∧ checkF x = 0 then 0 else (sgZ gFt t).o
def pzR (t : Str) (x : Ft) (cs : List Value) : List Value := if (sgZ gFt t).e = 0 ∧ checkF x = 0 then cs else [.string ⟨#[]⟩,.slice none 0 0,.slice none 0 0,.slice none 0 0]
set_option maxRecDepth 100000 in
theorem parse_st {H : Hp} (G : Gl H) {w0 W : World} {bs : List Res} (t : Str) (ht : t.length ≤ 9223372036854775807) (hok : ∀ f,vl gFt (sg0 t) f → (sgZ gFt t).e = 0 → evH okH f = true)
 (hcp : (up t.length (gMany [108,105,110,107] gLk) (up t.length (gMany [102,108,97,103] gFg) (up t.length (gNd [123]) (up t.length gNm (up t.length (gNd [102,108,101,101,116]) (sg0 t)))))).e = 0 → ∀ {b : Nat} {tp : Option Addr} {tc : Nat} {t0 t1 t2 : Value},ItemC 77 gCp (dCp .u8) 110 3 (fun _ => t0) (fun _ => t1) (fun _ => t2) (fun v => v) b t.length (sg0 t).r tp tc) (s : St H w0 bs W) :
 Calls Tryz.prog 19 #[strV t] W fun e W' => ∃ z : Ft × List Value × Hp,(vl gFt (sg0 t) z.1 ∧ HUp w0 H z.2.2 ∧ Rep z.2.2 (dFt .u8 z.1) z.2.1) ∧ e = .returned (.tuple #[.agg (pzR t z.1 z.2.1).toArray,.int .i64 (pzO t z.1 : Nat),.int .i64 (pzE t z.1 : Nat)]) ∧ St z.2.2 w0 bs W' := by
 refine Sx.enterS Tryz.func19 rfl Tryz.ntmps19 rfl s ?_
 refine .sr<|.al Fx.zero49 Z fun b2 => .a Z Z<|.a Z Z<|.ns<|.m Z Z<|.cs (X := Nat × Hp × Option Addr × Nat) Fx.call22 Z (fun W s => start_c G t ht s) Z fun z0 hz0 => ?_
 obtain ⟨b,H0,tp,tc⟩ := z0
 obtain ⟨K0,u0⟩ := hz0
 dsimp only at K0 u0 ⊢
 refine .a Z Z<|.ns<|.m Z Z<|.cs (X := Ft × (Value × Value × Value × Value) × Hp) Fx.call38 Z (fun W s => fleet_st K0 (List.suffix_refl _) (sg0_mu t) (fun h => hcp h) (s.pickT (hd := [_,_]) (tl := bs) (hd' := [_,_]) [0,1] Z Z)) Z fun z1 hz1 => ?_
 obtain ⟨a1,⟨x1,x2,x3,x4⟩,H1⟩ := z1
 obtain ⟨hv1,u1,r1⟩ := hz1
 dsimp only at hv1 u1 r1 ⊢
 have K1 := K0.up u1.up
 have u2 := u0.trans u1
 refine .ns<|.m Z Z<|.cs (X := Unit) Fx.call24 Z (fun W s => close_st K1 (Suf.ft.up (List.suffix_refl _))  (s.pickT (hd := [_,_]) (tl := bs) (hd' := [_,_]) [0,1] Z Z)) Z fun _ _ => .m Z Z<|.yv (.extract Z Z) Z<|.yv (.extract Z Z) Z<|.a Z Z<|.a Z Z<|.nt<|.sq<|.sr<|.m Z Z<|.yv (.eql Z Z) Z<|.nt<|.cd Z (fun h18 => ?_) (fun h18 => ?_)
 ·try simp only [dt] at h18
  have hZ : (sgZ gFt t).e = 0 := by unfold sgZ;omega
  refine .rg<|.m Z Z<|.yv (.nilCheck Z) Z<|.yv (.fieldAddr Z Fx.field99_3) Z<|.yv (.loadS (vs := [_,_,_,_]) Z Fx.agg49 (.head _) Z (subL Z)) Z<|.yv (.call Fx.call35 Z (fun W s => check_any H1 (G.up u2.up) a1 _ r1 (hok a1 hv1 hZ) W s.agr)) Z<|.a Z Z<|.nt<|.sq<|.sr<|.m Z Z<|.yv (.neq Z Z) Z<|.nt<|.cd Z (fun h25 => ?_) (fun h25 => ?_)
  ·try simp only [dt] at h25
   have hck : ¬ checkF a1 = 0 := by omega
   refine .sr<|.yv (.build Z Fx.bld49) Z<|.m Z Z<|.m Z Z<|.sW (.tail<|.head) Z Z Fx.size49 (by simp [Value.oneCell']) Z<|.a Z Z<|.a Z Z<|.nt<|.rt<|.tR<|?_
   refine Sx.retN (.inl rfl) rfl (.cons (.cell rfl Fx.agg49 (.tail _<|.head _) rfl) (.cons (.tmp rfl) (.cons (.tmp rfl) .nil))) rfl fun W s => ⟨(a1,[x1,x2,x3,x4],H1),⟨hv1,u2,r1⟩,?_,s.pickT (hd := [_,_]) (tl := bs) (hd' := []) [] rfl rfl⟩
   unfold pzR pzO pzE
   simp only [hZ,hck,if_true,if_false]
   rfl
  try simp only [df] at h25
  have hck : checkF a1 = 0 := by omega
  refine .sk<|.tN<|.sr<|.m Z Z<|.yv (.nilCheck Z) Z<|.yv (.fieldAddr Z Fx.field99_3) Z<|.yv (.loadS (vs := [_,_,_,_]) Z Fx.agg49 (.head _) Z (subL Z)) Z<|.sW (.tail<|.head) Z Z Fx.size49 (Rep.one r1) Z<|.a Z Z<|.a Z Z<|.nt<|.rt<|?_
  refine Sx.retN (.inl rfl) rfl (.cons (.cell rfl Fx.agg49 (.tail _<|.head _) rfl) (.cons (.tmp rfl) (.cons (.tmp rfl) .nil))) rfl fun W s => ⟨(a1,[x1,x2,x3,x4],H1),⟨hv1,u2,r1⟩,?_,s.pickT (hd := [_,_]) (tl := bs) (hd' := []) [] rfl rfl⟩
  unfold pzR pzO pzE
  simp only [hZ,hck,if_true]
  rfl
 try simp only [df] at h18
 have hZ : ¬ (sgZ gFt t).e = 0 := by unfold sgZ;omega
 refine .sk<|.tN<|.sq<|.sr<|.m Z Z<|.yv (.neq Z Z) Z<|.nt<|.cd Z (fun h25 => ?_) (fun h25 => ?_)
 ·skip
  refine .sr<|.yv (.build Z Fx.bld49) Z<|.m Z Z<|.m Z Z<|.sW (.tail<|.head) Z Z Fx.size49 (by simp [Value.oneCell']) Z<|.a Z Z<|.a Z Z<|.nt<|.rt<|.tR<|?_
  refine Sx.retN (.inl rfl) rfl (.cons (.cell rfl Fx.agg49 (.tail _<|.head _) rfl) (.cons (.tmp rfl) (.cons (.tmp rfl) .nil))) rfl fun W s => ⟨(a1,[x1,x2,x3,x4],H1),⟨hv1,u2,r1⟩,?_,s.pickT (hd := [_,_]) (tl := bs) (hd' := []) [] rfl rfl⟩
  unfold pzR pzO pzE
  simp only [hZ,if_false]
  rfl
 exact absurd (show (sgZ gFt t).e = 0 by unfold sgZ;have := Classical.not_not.1 (of_decide_eq_false h25);omega) hZ
end Go.Proofs.YthhoebdlfjffkaaGreatDoor
namespace Go.Proofs.YthhoebdlfjffkaaGreatDoor
section
variable {α β : Type}
def Ge (N k : Nat) (p : Pz α) (m : α → Nat) (ok : α → Prop) : Prop := ∀ r a r',r.length ≤ N → p r = .ok a r' → m a + r'.length ≤ r.length + k ∧ ok a
variable {N k : Nat} {p q : Pz α} {m : α → Nat} {ok : α → Prop}
theorem Ge.bind {g : Pz β} {f : β → Pz α} {m1 : β → Nat} {ok1 : β → Prop} (h : Ge N 0 g m1 ok1) (h2 : ∀ a,ok1 a → Ge N (k + m1 a) (f a) m ok) : Ge N k (gBind g f) m ok := fun r b r' hr e => by
 obtain ⟨a,q,e1,e2⟩ := Rs.bind_ok e
 obtain ⟨h3,h4⟩ := h r a q hr e1
 obtain ⟨h5,h6⟩ := h2 a h4 q b r' (by omega) e2
 exact ⟨by omega,h6⟩
theorem Ge.pure {a : α} (h1 : m a ≤ k) (h2 : ok a) : Ge N k (gPure a) m ok := fun r b r' _ e => by
 injection e with e1 e2
 subst e1 e2
 exact ⟨by omega,h2⟩
theorem Ge.alt {w : Str} (h : Ge N (k + 1) p m ok) (h2 : Ge N k q m ok) : Ge N k (gAlt w p q) m ok := fun r b r' hr e => by
 unfold gAlt at e
 split at e
 ·rename_i ht
  have h3 := isT_ne ht
  obtain ⟨h5,h6⟩ := h r.tail b r' (by omega) e
  exact ⟨by omega,h6⟩
 ·exact h2 r b r' hr e
theorem Ge.nd (w : Str) : Ge N 0 (gNd w) (fun _ => 1) (fun _ => True) := fun r b r' hr e => by
 unfold gNd at e
 split at e
 ·rename_i ht
  have h3 := isT_ne ht
  injection e with _ e
  subst e
  exact ⟨by dsimp only;omega,trivial⟩
 ·cases e
theorem Ge.nn (w : Str) : Ge N 0 (gNn w) (fun _ => 0) (fun _ => True) := fun r b r' hr e => by
 have := (Suf.nn w r).1 b r' e
 exact ⟨by have := this.length_le;dsimp only;omega,trivial⟩
theorem Ge.nm : Ge N 0 gNm (fun _ => 1) (fun _ => True) := fun r b r' hr e => by
 unfold gNm at e
 split at e
 ·cases e
 ·split at e
  ·injection e with _ e
   subst e
   exact ⟨by simp;omega,trivial⟩
  ·cases e
theorem Ge.any (h : Suf p) : Ge N 0 p (fun _ => 0) (fun _ => True) := fun r b r' hr e => ⟨by have := ((h r).1 b r' e).length_le;dsimp only;omega,trivial⟩
theorem Ge.manyF {w : Str} (h : Ge N 0 p (fun _ => 0) ok) : ∀ f,Ge N 0 (gManyF w p f) (fun _ => 0) (fun l => ∀ x ∈ l,ok x)
 | 0 => fun r b r' hr e => by unfold gManyF at e;cases e
 | f + 1 => .alt (.bind (fun r b r' hr e => h r b r' hr e) fun a ha => .bind (Ge.manyF h f) fun l hl => .pure (Nat.zero_le _) fun x hx => by
  rcases List.mem_cons.1 hx with rfl | hx
  ·exact ha
  ·exact hl x hx) (.pure (Nat.zero_le _) fun x hx => by cases hx)
theorem Ge.many {w : Str} (h : Ge N 0 p (fun _ => 0) ok) : Ge N 0 (gMany w p) (fun _ => 0) (fun l => ∀ x ∈ l,ok x) := fun r b r' hr e => Ge.manyF h _ r b r' hr e
theorem Ge.list (h : Ge N 0 p (fun _ => 0) ok) : Ge N 0 (gList p) (fun _ => 0) (fun l => ∀ x ∈ l,ok x) :=
 .bind (Ge.nd _) fun _ _ => .alt (.pure (Nat.zero_le _) fun x hx => by cases hx) (.bind h fun a ha => .bind (Ge.many h) fun l hl => .bind (Ge.nd _) fun _ _ => .pure (Nat.zero_le _) fun x hx => by
  rcases List.mem_cons.1 hx with rfl | hx
  ·exact ha
  ·exact hl x hx)
end
def dpE (N : Nat) (x : Ex) : Prop := x.depth ≤ N
theorem Ge.ex {N : Nat} : Ge N 0 gEx (fun _ => 0) (dpE N) := fun r a r' hr e => by
 have := gX_depth (lv := 0) e
 exact ⟨by dsimp only;omega,by unfold dpE;omega⟩
def gdL (l : List Sm) : Prop := Sm.alls okS1 l = true
def gdS (s : Sm) : Prop := Sm.all okS1 s = true
theorem gdS_mk {N : Nat} (hN : N ≤ 1000000) {kd : UInt8} {nm hd : Str} {ex : List Ex} {th el : List Sm} (h : ∀ x ∈ ex,dpE N x) (h1 : gdL th) (h2 : gdL el) : gdS (.mk kd nm hd ex th el) := by
 unfold gdS
 rw [sall_mk]
 have : okS1 (.mk kd nm hd ex th el) = true := by
  unfold okS1
  rw [List.all_eq_true]
  intro x hx
  have := h x hx
  unfold dpE at this
  exact decide_eq_true (by omega)
 rw [this,h1,h2]
 rfl
section
variable {N : Nat} {b : Pz (List Sm)}
theorem Ge.blk {b : Pz (List Sm)} (h : Ge N 0 b Sm.counts gdL) : Ge N 0 (gBlk b) Sm.counts gdL :=
 .bind (Ge.nd _) fun _ _ => .bind h fun l hl => .bind (Ge.nd _) fun _ _ => .pure (by omega) hl
theorem gdL_nil : gdL [] := by unfold gdL;rfl
theorem Ge.els (h : Ge N 0 b Sm.counts gdL) : Ge N 0 (gEls b) Sm.counts gdL := .alt (fun r a r' hr e => by have := Ge.blk h r a r' hr e;exact ⟨by omega,this.2⟩) (.pure (Nat.zero_le _) gdL_nil)
theorem Ge.oth (h : Ge N 0 b Sm.counts gdL) : Ge N 0 (gOth b) Sm.counts gdL := .alt (fun r a r' hr e => by have := Ge.blk h r a r' hr e;exact ⟨by omega,this.2⟩) (.bind (Ge.nd _) fun _ _ => .pure (Nat.zero_le _) gdL_nil)
theorem one_mem {N : Nat} {e : Ex} (h : dpE N e) : ∀ x ∈ [e],dpE N x := fun x hx => by rw [List.mem_singleton.1 hx];exact h
theorem two_mem {N : Nat} {e f : Ex} (h : dpE N e) (k : dpE N f) : ∀ x ∈ [e,f],dpE N x := fun x hx => by
 rcases List.mem_cons.1 hx with rfl | hx
 ·exact h
 ·rw [List.mem_singleton.1 hx];exact k
theorem no_mem {N : Nat} : ∀ x ∈ ([] : List Ex),dpE N x := fun x hx => by cases hx
theorem Ge.st (hN : N ≤ 1000000) (h : Ge N 0 b Sm.counts gdL) : Ge N 0 (gSt b) Sm.count gdS :=
 .alt (.bind Ge.ex fun e he => .bind (Ge.blk h) fun t ht => .bind (Ge.els h) fun l hl => .pure (by rw [scount_mk];omega) (gdS_mk hN (one_mem he) ht hl))<|.alt (.bind Ge.ex fun e he => .bind (Ge.blk h) fun t ht => .pure (by rw [scount_mk];simp [Sm.counts];omega) (gdS_mk hN (one_mem he) ht gdL_nil))<|.alt (.bind Ge.ex fun e he => .bind (Ge.nd _) fun _ _ => .bind Ge.ex fun f hf => .bind (Ge.oth h) fun l hl => .pure (by rw [scount_mk];simp [Sm.counts];omega) (gdS_mk hN (two_mem he hf) gdL_nil hl))<|.alt (.bind Ge.nm fun n _ => .bind (Ge.nd _) fun _ _ => .bind Ge.ex fun f hf => .bind (Ge.oth h) fun l hl => .pure (by rw [scount_mk];simp [Sm.counts];omega) (gdS_mk hN (one_mem hf) gdL_nil hl))<|.alt (.bind Ge.nm fun n _ => .bind (Ge.nd _) fun _ _ => .bind Ge.nm fun g _ => .bind (Ge.list Ge.ex) fun l hl => .bind (Ge.nd _) fun _ _ => .pure (by rw [scount_mk];simp [Sm.counts]) (gdS_mk hN hl gdL_nil gdL_nil))<|.alt (.bind Ge.ex fun e he => .bind (Ge.nd _) fun _ _ => .bind Ge.nm fun g _ => .bind (Ge.list Ge.ex) fun l hl => .bind (Ge.nd _) fun _ _ => .pure (by rw [scount_mk];simp [Sm.counts]) (gdS_mk hN (fun x hx => by
  rcases List.mem_cons.1 hx with rfl | hx
  ·exact he
  ·exact hl x hx) gdL_nil gdL_nil))<|.alt (.bind (Ge.nd _) fun _ _ => .pure (by rw [scount_mk];simp [Sm.counts]) (gdS_mk hN no_mem gdL_nil gdL_nil))<|.alt (.bind Ge.nm fun n _ => .bind (Ge.nd _) fun _ _ => .bind Ge.ex fun e he => .bind (Ge.nd _) fun _ _ => .bind (Ge.nd _) fun _ _ => .pure (by rw [scount_mk];simp [Sm.counts]) (gdS_mk hN (one_mem he) gdL_nil gdL_nil))<|.bind Ge.nm fun n _ => .alt (.bind Ge.ex fun e he => .bind (Ge.nd _) fun _ _ => .bind (Ge.nd _) fun _ _ => .bind Ge.ex fun f hf => .bind (Ge.nd _) fun _ _ => .pure (by rw [scount_mk];simp [Sm.counts]) (gdS_mk hN (two_mem he hf) gdL_nil gdL_nil))
  (.bind (Ge.nd _) fun _ _ => .bind Ge.ex fun f hf => .bind (Ge.nd _) fun _ _ => .pure (by rw [scount_mk];simp [Sm.counts]) (gdS_mk hN (one_mem hf) gdL_nil gdL_nil))
theorem Ge.bF (hN : N ≤ 1000000) : ∀ f,Ge N 0 (gBF f) Sm.counts gdL
 | 0 => fun r b r' hr e => by unfold gBF at e;cases e
 | f + 1 => fun r b r' hr e => by
  unfold gBF at e
  split at e
  ·injection e with e1 e2;subst e1 e2;exact ⟨by simp [Sm.counts],gdL_nil⟩
  ·obtain ⟨s,q,k1,k2⟩ := Rs.bind_ok e
   obtain ⟨l,q2,k3,k4⟩ := Rs.bind_ok k2
   injection k4 with k4 k5
   subst k4 k5
   obtain ⟨h1,h2⟩ := Ge.st hN (Ge.bF hN f) r s q hr k1
   obtain ⟨h3,h4⟩ := Ge.bF hN f q l q2 (by omega) k3
   refine ⟨by simp only [Sm.counts];omega,?_⟩
   unfold gdL gdS at *
   simp [Sm.alls,h2,h4]
theorem Ge.allB (hN : N ≤ 1000000) : Ge N 0 gB Sm.counts gdL := fun r b r' hr e => Ge.bF hN _ r b r' hr e
end
theorem sdeep_le : ∀ l,Sm.deeps l ≤ Sm.counts l := Sm.lists fun l h => by
 induction l with
 | nil => simp [Sm.deeps]
 | cons e r ih =>
  obtain ⟨kd,nm,hd,ex,th,el⟩ := e
  obtain ⟨h1,h2⟩ := h _ (List.mem_cons_self ..)
  have h3 := ih fun s hs => h s (List.mem_cons_of_mem _ hs)
  simp only [Sm.th,Sm.el] at h1 h2
  simp only [Sm.deeps,Sm.counts,sdepth_mk,scount_mk]
  omega
def gdH (h : Hd) : Prop := okH h = true
section
variable {N : Nat}
theorem Ge.blkN (hN : N ≤ 1000000) : Ge N 0 (gBlk gB) (fun _ => 0) (fun l => gdL l ∧ Sm.counts l ≤ N) := fun r a r' hr e => by
 obtain ⟨h1,h2⟩ := Ge.blk (Ge.allB hN) r a r' hr e
 exact ⟨by dsimp only;omega,h2,by omega⟩
theorem Ge.hd (hN : N ≤ 1000000) : Ge N 0 gHd (fun _ => 0) gdH :=
 .bind (Ge.any Suf.nm) fun n _ => .bind (Ge.any (Suf.list Suf.nm)) fun l _ => .bind (Ge.blkN hN) fun b hb => .pure (Nat.zero_le _) (by
  have h1 := sdeep_le b
  have h2 : Sm.alls okS1 b = true := hb.1
  have h3 := hb.2
  unfold gdH okH
  simp only [h2,Bool.and_true,Bool.and_eq_true,decide_eq_true_eq]
  omega)
def gdV (v : List Hd) : Prop := ∀ x ∈ v,gdH x
theorem Ge.vs (hN : N ≤ 1000000) : Ge N 0 gVs (fun _ => 0) gdV := Ge.many (Ge.hd hN)
theorem Ge.vn (hN : N ≤ 1000000) (w : Str) : Ge N 0 (gVn w) (fun _ => 0) gdV :=
 .bind (Ge.nn _) fun _ _ => .bind (Ge.nd _) fun _ _ => .bind (Ge.vs hN) fun v hv => .bind (Ge.nd _) fun _ _ => .pure (Nat.zero_le _) hv
theorem Ge.vm (hN : N ≤ 1000000) : Ge N 0 gVm (fun _ => 0) (fun l => ∀ v ∈ l,gdV v) :=
 .alt (.bind (Ge.vn hN _) fun v hv => .alt (.bind (Ge.vn hN _) fun w hw => .pure (Nat.zero_le _) fun x hx => by
  rcases List.mem_cons.1 hx with rfl | hx
  ·exact hv
  ·rw [List.mem_singleton.1 hx];exact hw) (.pure (Nat.zero_le _) fun x hx => by rw [List.mem_singleton.1 hx];exact hv)) (.pure (Nat.zero_le _) fun x hx => by cases hx)
theorem Ge.cp (hN : N ≤ 1000000) : Ge N 0 gCp (fun _ => 0) (fun c => ∀ v ∈ c.vers,gdV v) :=
 .bind (Ge.any Suf.nm) fun n _ => .bind (Ge.nd _) fun _ _ => .bind (Ge.any (Suf.many Suf.vr)) fun vs _ => .bind (Ge.vs hN) fun v hv => .bind (Ge.vm hN) fun l hl => .bind (Ge.nd _) fun _ _ => .pure (Nat.zero_le _) fun x hx => by
  rcases List.mem_cons.1 hx with rfl | hx
  ·exact hv
  ·exact hl x hx
theorem Ge.ft (hN : N ≤ 1000000) : Ge N 0 gFt (fun _ => 0) (fun f => evH okH f = true) :=
 .bind (Ge.nd _) fun _ _ => .bind (Ge.any Suf.nm) fun n _ => .bind (Ge.nd _) fun _ _ => .bind (Ge.any (Suf.many Suf.fg)) fun fs _ => .bind (Ge.any (Suf.many Suf.lk)) fun ls _ => .bind (Ge.many (Ge.cp hN)) fun cs hc => .bind (Ge.nd _) fun _ _ => .pure (Nat.zero_le _) (by
  unfold evH
  rw [List.all_eq_true]
  intro c h
  rw [List.all_eq_true]
  intro v h2
  rw [List.all_eq_true]
  exact fun x h3 => hc c h v h2 x h3)
end
theorem hok_of {t : Str} {f : Ft} (hx : vl gFt (sg0 t) f) (h : (sgZ gFt t).e = 0) : evH okH f = true := by
 obtain ⟨⟨a,ha⟩,_⟩ := sgZ_zero Cz.ft h
 have h0 : (sg0 t).e = 0 := by
  by_cases k : 20000 < t.length
  ·exfalso
   have e0 : sg0 t = ⟨[],3,0⟩ := by unfold sg0;rw [if_pos k]
   unfold sgZ at h
   rw [e0,up_er (by decide)] at h
   unfold Sg.cl at h
   rw [if_pos rfl] at h
   exact absurd (show (3 : Nat) = 0 from h) (by decide)
  ·unfold sg0;rw [if_neg k]
 rw [hx h0 a [] ha]
 refine (Ge.ft (N := 20000) (by decide) _ a [] ?_ ha).2
 unfold sg0
 split
 ·simp
 ·have := lexR_len t
  show (lexR t).length ≤ 20000
  omega
end Go.Proofs.YthhoebdlfjffkaaGreatDoor
namespace Go.Proofs.YthhoebdlfjffkaaGreatDoor
open Go.RowKit Go.Par Go.Sx
theorem sg0_len (t : Str) : (sg0 t).r.length ≤ 600000 := by
 unfold sg0
 split
 ·simp
 ·have := lexR_len t
  show (lexR t).length ≤ 600000
  omega
theorem parse_any {H : Hp} (G : Gl H) {w0 W : World} {bs : List Res} (t : Str) (ht : t.length ≤ 9223372036854775807) (s : St H w0 bs W) :
 Calls Tryz.prog 19 #[strV t] W fun e W' => ∃ z : Ft × List Value × Hp,(vl gFt (sg0 t) z.1 ∧ HUp w0 H z.2.2 ∧ Rep z.2.2 (dFt .u8 z.1) z.2.1) ∧ e = .returned (.tuple #[.agg (pzR t z.1 z.2.1).toArray,.int .i64 (pzO t z.1 : Nat),.int .i64 (pzE t z.1 : Nat)]) ∧ St z.2.2 w0 bs W' :=
 parse_st G t ht (fun _ h1 h2 => hok_of h1 h2) (fun _ => component_st (sg0_len t)) s
end Go.Proofs.YthhoebdlfjffkaaGreatDoor
namespace Go.Proofs.YthhoebdlfjffkaaGreatDoor
section
variable {α β : Type}
def En (p : Pz α) : Prop := p [] = .er [] 8 ∨ ∃ b,p [] = .ok b []
def Pf (N : Nat) (p : Pz α) : Prop := ∀ r a q,r.length ≤ N → p r = .ok a q → ∃ u,r = u ++ q ∧ (∀ v w,u = v ++ w → p v = .er [] 8 ∨ ∃ b,p v = .ok b []) ∧ (∀ v,v ≠ [] → v.head? = q.head? → p (u ++ v) = .ok a v)
theorem Pf.le {N M : Nat} {p : Pz α} (h : Pf N p) (k : M ≤ N) : Pf M p := fun r a q hr e => h r a q (Nat.le_trans hr k) e
theorem Pf.zero {p : Pz α} (h : Shr p) : Pf 0 p := fun r a q hr e => by
 obtain rfl : r = [] := List.eq_nil_of_length_eq_zero (by omega)
 have := h _ _ _ e
 obtain rfl : q = [] := List.eq_nil_of_length_eq_zero (by simpa using this)
 refine ⟨[],rfl,fun v w h => ?_,fun v hv h => ?_⟩
 ·obtain rfl := (List.append_eq_nil_iff.1 h.symm).1
  exact .inr ⟨a,e⟩
 ·cases v with
  | nil => exact absurd rfl hv
  | cons x v => cases h
theorem En.pure (a : α) : En (gPure a) := .inr ⟨a,rfl⟩
theorem En.bind {p : Pz α} {f : α → Pz β} (h : En p) (k : ∀ a,En (f a)) : En (gBind p f) := by
 rcases h with h | ⟨b,h⟩
 ·exact .inl (by unfold gBind;rw [h];rfl)
 ·have e : gBind p f [] = f b [] := by unfold gBind;rw [h];rfl
  rcases k b with k | ⟨c,k⟩
  ·exact .inl (e.trans k)
  ·exact .inr ⟨c,e.trans k⟩
theorem En.nd (w : Str) : En (gNd w) := .inl rfl
theorem En.nm : En gNm := .inl rfl
theorem En.nu : En gNu := .inl rfl
theorem En.alt {w : Str} {p q : Pz α} (h : En q) : En (gAlt w p q) := h
theorem En.many {w : Str} {p : Pz α} : En (gMany w p) := .inr ⟨[],rfl⟩
theorem Pf.pure {N : Nat} (a : α) : Pf N (gPure a) := fun r b q _ e => by
 injection e with e1 e2
 subst e1;subst e2
 refine ⟨[],rfl,fun v w h => ?_,fun v _ _ => rfl⟩
 obtain rfl := (List.append_eq_nil_iff.1 h.symm).1
 exact .inr ⟨a,rfl⟩
theorem Pf.bindS {N M : Nat} {p : Pz α} {f : α → Pz β} (hp : Pf N p) (hM : ∀ r a q,r.length ≤ N → p r = .ok a q → q.length ≤ M) (hf : ∀ a,Pf M (f a)) (he : ∀ a,En (f a)) : Pf N (gBind p f) := by
 intro r b q' hr e
 obtain ⟨a,q,h1,h2⟩ := Rs.bind_ok e
 obtain ⟨u1,rfl,A1,B1⟩ := hp _ _ _ hr h1
 obtain ⟨u2,rfl,A2,B2⟩ := hf a _ _ _ (hM _ _ _ hr h1) h2
 have go : ∀ x c y,p x = .ok c y → gBind p f x = f c y := fun x c y h => by unfold gBind;rw [h];rfl
 have fst : ∀ v w,u1 = v ++ w → gBind p f v = .er [] 8 ∨ ∃ b,gBind p f v = .ok b [] := fun v w h => by
  rcases A1 v w h with h3 | ⟨b',h3⟩
  ·exact .inl (by unfold gBind;rw [h3];rfl)
  ·rw [go _ _ _ h3]
   exact he b'
 have hd : ∀ (x y z : List Tk),(y.head? = z.head?) → (x ++ y).head? = (x ++ z).head? := fun x y z h => by
  cases x with
  | nil => exact h
  | cons t x => rfl
 refine ⟨u1 ++ u2,(List.append_assoc ..).symm,fun v w h => ?_,fun v hv h => ?_⟩
 ·rcases List.append_eq_append_iff.1 h with ⟨a',rfl,rfl⟩ | ⟨c,rfl,rfl⟩
  ·cases a' with
   | nil =>
    rw [List.append_nil]
    exact fst u1 [] (List.append_nil _).symm
   | cons t a' =>
    rw [go _ _ _ (B1 (t :: a') (by simp) rfl)]
    exact A2 (t :: a') w rfl
  ·exact fst v c rfl
 ·rw [List.append_assoc,go _ _ _ (B1 (u2 ++ v) (fun k => hv (List.append_eq_nil_iff.1 k).2) (hd _ _ _ h))]
  exact B2 v hv h
theorem Pf.bind {N : Nat} {p : Pz α} {f : α → Pz β} (hp : Pf N p) (hf : ∀ a,Pf N (f a)) (he : ∀ a,En (f a)) : Pf N (gBind p f) := .bindS hp (fun r a q hr e => by
 obtain ⟨u,rfl,_⟩ := hp r a q hr e
 rw [List.length_append] at hr
 omega) hf he
theorem Pf.one {N : Nat} {p : Pz α} (h0 : p [] = .er [] 8) (h1 : ∀ t,(∃ a,∀ r,p (t :: r) = .ok a r) ∨ ∀ r,∃ r' c,p (t :: r) = .er r' c) : Pf N p := by
 intro r a q _ e
 cases r with
 | nil => rw [h0] at e;cases e
 | cons t r =>
  rcases h1 t with ⟨b,h⟩ | h
  ·rw [h] at e
   injection e with e1 e2
   subst e1;subst e2
   refine ⟨[t],rfl,fun v w hv => ?_,fun v _ _ => h v⟩
   cases v with
   | nil => exact .inl h0
   | cons x v =>
    injection hv with hx hv
    subst hx
    obtain rfl := (List.append_eq_nil_iff.1 hv.symm).1
    exact .inr ⟨b,h []⟩
  ·obtain ⟨r',c,h⟩ := h r
   rw [h] at e
   cases e
theorem Pf.nd {N : Nat} (w : Str) : Pf N (gNd w) := .one rfl fun t => by
 cases e : isT w [t] with
 | true => exact .inl ⟨(),fun r => by show (if isT w [t] = true then _ else _) = _;rw [if_pos e];rfl⟩
 | false => exact .inr fun r => ⟨_,_,by show (if isT w [t] = true then _ else _) = _;rw [if_neg (by rw [e];decide)]⟩
theorem Pf.nm {N : Nat} : Pf N gNm := .one rfl fun t => by
 by_cases e : t.k = 1
 ·exact .inl ⟨t.t,fun r => by unfold gNm;simp only [e,if_true]⟩
 ·exact .inr fun r => ⟨t :: r,8,by unfold gNm;simp only [e,if_false]⟩
theorem Pf.nu {N : Nat} : Pf N gNu := .one rfl fun t => by
 by_cases e : t.k = 3
 ·by_cases e2 : numV t.t ≤ 9223372036854775807
  ·exact .inl ⟨Int64.ofNat (numV t.t),fun r => by unfold gNu;simp only [e,e2,if_true]⟩
  ·exact .inr fun r => ⟨t :: r,2,by unfold gNu;simp only [e,e2,if_true,if_false]⟩
 ·exact .inr fun r => ⟨t :: r,8,by unfold gNu;simp only [e,if_false]⟩
theorem Pf.choice {N : Nat} {c : List Tk → Bool} {p : Tk → Pz α} {q g : Pz α} (hc0 : c [] = false) (hc : ∀ t r r',c (t :: r) = c (t :: r')) (hT : ∀ t r,c (t :: r) = true → g (t :: r) = p t r) (hF : ∀ r,c r = false → g r = q r)
 (hp : ∀ t M,M + 1 ≤ N → Pf M (p t)) (hq : Pf N q) (he : En q) : Pf N g := by
 intro r a z hr e
 cases h : c r with
 | true =>
  cases r with
  | nil => rw [hc0] at h;cases h
  | cons t r =>
   rw [hT _ _ h] at e
   obtain ⟨u,rfl,A,B⟩ := hp t r.length (by simpa using hr) _ _ _ (Nat.le_refl _) e
   refine ⟨t :: u,rfl,fun v w hv => ?_,fun v hn hv => ?_⟩
   ·cases v with
    | nil => rw [hF _ hc0];exact he
    | cons x v =>
     injection hv with hx hv
     subst hx
     rw [hT _ _ ((hc ..).trans h)]
     exact A v w hv
   ·show g (t :: (u ++ v)) = _
    rw [hT _ _ ((hc ..).trans h)]
    exact B v hn hv
 | false =>
  rw [hF _ h] at e
  obtain ⟨u,rfl,A,B⟩ := hq _ _ _ hr e
  have pre : ∀ v,(v = [] ∨ v.head? = (u ++ z).head?) → c v = false := fun v hv => by
   cases v with
   | nil => exact hc0
   | cons x v =>
    rcases hv with hv | hv
    ·cases hv
    ·cases k : u ++ z with
     | nil => rw [k] at hv;cases hv
     | cons y s =>
      rw [k] at hv h
      injection hv with hv
      subst hv
      exact (hc x v s).trans h
  refine ⟨u,rfl,fun v w hv => ?_,fun v hn hv => ?_⟩
  ·rw [hF _ (pre v (by rw [hv];cases v <;> simp))]
   exact A v w hv
  ·rw [hF _ (pre (u ++ v) (.inr (by cases u <;> first | exact hv | rfl)))]
   exact B v hn hv
theorem Pf.look {N : Nat} {c : List Tk → Bool} {p q g : Pz α} (hc0 : c [] = false) (hc : ∀ t r r',c (t :: r) = c (t :: r')) (hT : ∀ r,c r = true → g r = p r) (hF : ∀ r,c r = false → g r = q r)
 (hp : Pf N p) (hq : Pf N q) (he : En q) : Pf N g := by
 intro r a z hr e
 have pre : ∀ (x : Bool) (v : List Tk),v ≠ [] → v.head? = r.head? → c r = x → c v = x := fun x v hn h2 h3 => by
  cases v with
  | nil => exact absurd rfl hn
  | cons y v =>
   cases r with
   | nil => cases h2
   | cons t r =>
    injection h2 with h2
    subst h2
    exact (hc ..).trans h3
 have h1 : ∀ (u v w : List Tk),r = u ++ z → u = v ++ w → v ≠ [] → v.head? = r.head? := fun u v w h2 h3 hn => by
  cases v with
  | nil => exact absurd rfl hn
  | cons y v => rw [h2,h3];rfl
 have h2 : ∀ (u v : List Tk),r = u ++ z → v.head? = z.head? → (u ++ v).head? = r.head? := fun u v h3 h4 => by
  rw [h3]
  cases u with
  | nil => exact h4
  | cons y u => rfl
 cases h : c r with
 | true =>
  rw [hT _ h] at e
  obtain ⟨u,hu,A,B⟩ := hp _ _ _ hr e
  refine ⟨u,hu,fun v w hv => ?_,fun v hn hv => ?_⟩
  ·by_cases hn : v = []
   ·subst hn;rw [hF _ hc0];exact he
   ·rw [hT _ (pre _ v hn (h1 u v w hu hv hn) h)]
    exact A v w hv
  ·rw [hT _ (pre _ (u ++ v) (fun k => hn (List.append_eq_nil_iff.1 k).2) (h2 u v hu hv) h)]
   exact B v hn hv
 | false =>
  rw [hF _ h] at e
  obtain ⟨u,hu,A,B⟩ := hq _ _ _ hr e
  refine ⟨u,hu,fun v w hv => ?_,fun v hn hv => ?_⟩
  ·by_cases hn : v = []
   ·subst hn;rw [hF _ hc0];exact he
   ·rw [hF _ (pre _ v hn (h1 u v w hu hv hn) h)]
    exact A v w hv
  ·rw [hF _ (pre _ (u ++ v) (fun k => hn (List.append_eq_nil_iff.1 k).2) (h2 u v hu hv) h)]
   exact B v hn hv
theorem Pf.alt {N : Nat} {w : Str} {p q : Pz α} (hp : ∀ M,M + 1 ≤ N → Pf M p) (hq : Pf N q) (he : En q) : Pf N (gAlt w p q) :=
 .choice (c := isT w) (p := fun _ => p) rfl (fun _ _ _ => rfl) (fun t r h => by unfold gAlt;rw [if_pos h];rfl) (fun r h => by unfold gAlt;rw [if_neg (by rw [h];decide)]) (fun _ => hp) hq he
theorem Pf.many {w : Str} {p : Pz α} (hs : Shr p) : ∀ (N : Nat),(∀ M,M + 1 ≤ N → Pf M p) → Pf N (gMany w p)
 | 0,_ => .zero (.many hs)
 | N + 1,h => by
  rw [gMany_eq hs]
  refine .alt (fun M hM => ?_) (.pure _) (.pure _)
  exact .bind (h M hM) (fun a => .bind ((Pf.many hs N fun M hM => h M (by omega)).le (by omega)) (fun _ => .pure _) (fun _ => .pure _)) (fun a => .bind .many fun _ => .pure _)
end
section
variable {α β : Type}
structure PE (N : Nat) (p : Pz α) : Prop where
 pf : Pf N p
 en : En p
theorem PE.le {N M : Nat} {p : Pz α} (h : PE N p) (k : M ≤ N) : PE M p := ⟨h.pf.le k,h.en⟩
theorem PE.pure {N : Nat} (a : α) : PE N (gPure a) := ⟨.pure a,.pure a⟩
theorem PE.bind {N : Nat} {p : Pz α} {f : α → Pz β} (hp : PE N p) (hf : ∀ a,PE N (f a)) : PE N (gBind p f) := ⟨.bind hp.pf (fun a => (hf a).pf) (fun a => (hf a).en),.bind hp.en fun a => (hf a).en⟩
theorem PE.nd {N : Nat} (w : Str) : PE N (gNd w) := ⟨.nd w,.nd w⟩
theorem PE.nm {N : Nat} : PE N gNm := ⟨.nm,.nm⟩
theorem PE.nu {N : Nat} : PE N gNu := ⟨.nu,.nu⟩
theorem PE.alt {N : Nat} {w : Str} {p q : Pz α} (hp : ∀ M,M + 1 ≤ N → PE M p) (hq : PE N q) : PE N (gAlt w p q) := ⟨.alt (fun M h => (hp M h).pf) hq.pf hq.en,.alt hq.en⟩
theorem PE.many {N : Nat} {w : Str} {p : Pz α} (hs : Shr p) (hp : ∀ M,M + 1 ≤ N → PE M p) : PE N (gMany w p) := ⟨.many hs N fun M h => (hp M h).pf,.many⟩
theorem PE.list {N : Nat} {p : Pz α} (hs : Shr p) (hp : ∀ M,M ≤ N → PE M p) : PE N (gList p) := .bind (.nd _) fun _ => .alt (fun M _ => .pure _) (.bind (hp N (Nat.le_refl _)) fun _ => .bind (.many hs fun M h => hp M (by omega)) fun _ => .bind (.nd _) fun _ => .pure _)
end
theorem opAt_nil (lv : Nat) : opAt lv [] = none := by
 have h : (opsL lv).find? (fun x => isT x.1 []) = none := List.find?_eq_none.2 (fun x _ => Bool.false_ne_true)
 unfold opAt
 rw [h]
 rfl
theorem En.l (lv : Nat) (a : Ex) : En (gL lv a) := .inr ⟨a,pL_none (opAt_nil lv)⟩
theorem En.nam : En gNam := .bind .nm fun _ => .alt (.pure _)
theorem En.prim : En gPrim := .alt<|.alt<|.alt<|.alt<|.alt<|.alt En.nam
theorem En.x : ∀ (d lv : Nat),lv + d = 5 → En (gX lv)
 | 0,lv,h => by
  obtain rfl : lv = 5 := by omega
  rw [gX_un,prim_eq]
  exact .alt (.alt En.prim)
 | d + 1,lv,h => by
  rw [gX_low (by omega)]
  exact .bind (En.x d (lv + 1) (by omega)) fun a => En.l lv a
theorem Shr.l (lv : Nat) (a : Ex) : Shr (gL lv a) := fun r b r' e => (pE_len _).2 _ _ _ _ _ e
theorem Pf.xl : ∀ (N : Nat),(∀ lv,lv ≤ 5 → Pf N (gX lv)) ∧ (∀ lv,lv ≤ 4 → ∀ a,Pf N (gL lv a))
 | 0 => ⟨fun lv _ => .zero (Shs.gx lv).le,fun lv _ a => .zero (Shr.l lv a)⟩
 | N + 1 => by
  obtain ⟨ih1,ih2⟩ := Pf.xl N
  have x : ∀ lv,lv ≤ 5 → ∀ M,M + 1 ≤ N + 1 → PE M (gX lv) := fun lv h M hM => ⟨(ih1 lv h).le (by omega),En.x (5 - lv) lv (by omega)⟩
  have hk : ∀ lv op a b,lv ≤ 4 → ∀ M,M + 1 ≤ N + 1 → PE M (gK lv op a b) := fun lv op a b h M hM => by
   unfold gK
   split
   ·exact .pure _
   ·exact ⟨(ih2 lv h _).le (by omega),En.l lv _⟩
  have hl : ∀ lv,lv ≤ 4 → ∀ a,Pf (N + 1) (gL lv a) := fun lv h a => by
   refine .choice (c := fun r => (opAt lv r).isSome) (p := fun t => match opAt lv [t] with | some op => gBind (gX (lv + 1)) (gK lv op a) | none => gPure a) (q := gPure a) ?_ (fun _ _ _ => rfl) ?_ ?_ ?_ (.pure _) (.pure _)
   ·show (opAt lv []).isSome = false
    rw [opAt_nil]
    rfl
   ·intro t r e
    obtain ⟨op,e⟩ := Option.isSome_iff_exists.1 e
    have e2 : opAt lv [t] = some op := e
    simp only [e2]
    show pL lv a (t :: r) = _
    rw [pL_some h e]
    refine Rs.bind_congr rfl fun b q _ => ?_
    unfold gK
    split <;> rfl
   ·intro r e
    have e2 : opAt lv r = none := by
     cases k : opAt lv r with
     | none => rfl
     | some op => rw [k] at e;cases e
    exact pL_none e2
   ·intro t M hM
    show Pf M (match opAt lv [t] with | some op => gBind (gX (lv + 1)) (gK lv op a) | none => gPure a)
    cases opAt lv [t] with
    | none => exact .pure _
    | some op => exact (PE.bind (x (lv + 1) (by omega) M hM) fun b => hk lv op a b h M hM).pf
  have key : ∀ op nm M,M + 1 ≤ N + 1 → PE M (gKey op nm) := fun op nm M hM => .bind (x 0 (by omega) M hM) fun _ => .bind (.nd _) fun _ => .pure _
  have nam : PE (N + 1) gNam := .bind .nm fun s => .alt (fun M hM => key 6 s M hM) (.pure _)
  have last : PE (N + 1) gLast := ⟨.look (c := isNum) (p := gNum) (q := gNam) rfl (fun _ _ _ => rfl) (fun r h => by unfold gLast;rw [if_pos h]) (fun r h => by unfold gLast;rw [if_neg (by rw [h];decide)]) (PE.bind .nu fun _ => .pure _).pf nam.pf nam.en,nam.en⟩
  have prim : PE (N + 1) gPrim := .alt (fun _ _ => .pure _)<|.alt (fun _ _ => .pure _)<|.alt (fun _ _ => .pure _)<|.alt (fun _ _ => .bind .nm fun _ => .pure _)<|.alt (fun M hM => .bind .nm fun s => .bind (.nd _) fun _ => key 7 s M hM)<|.alt (fun M hM => .bind (x 0 (by omega) M hM) fun _ => .bind (.nd _) fun _ => .pure _) last
  have h5 : PE (N + 1) (gX 5) := by
   rw [gX_un,prim_eq]
   exact .alt (fun M hM => .bind (x 5 (by omega) M hM) fun _ => .pure _)<|.alt (fun M hM => .bind (x 5 (by omega) M hM) fun _ => .pure _) prim
  have all : ∀ d lv,lv + d = 5 → PE (N + 1) (gX lv) := fun d => by
   induction d with
   | zero =>
    intro lv h
    obtain rfl : lv = 5 := by omega
    exact h5
   | succ d ih =>
    intro lv h
    rw [gX_low (by omega)]
    exact .bind (ih (lv + 1) (by omega)) fun a => ⟨hl lv (by omega) a,En.l lv a⟩
  exact ⟨fun lv h => (all (5 - lv) lv (by omega)).pf,hl⟩
theorem PE.ex {N : Nat} : PE N gEx := ⟨(Pf.xl N).1 0 (by omega),En.x 5 0 rfl⟩
theorem PE.st {N : Nat} {b : Pz (List Sm)} (hb : ∀ M,M + 1 ≤ N → PE M b) : PE N (gSt b) := by
 have blk : ∀ M,M + 1 ≤ N → PE M (gBlk b) := fun M h => .bind (.nd _) fun _ => .bind (hb M h) fun _ => .bind (.nd _) fun _ => .pure _
 have els : ∀ M,M + 1 ≤ N → PE M (gEls b) := fun M h => .alt (fun M' h' => blk M' (by omega)) (.pure _)
 have oth : ∀ M,M + 1 ≤ N → PE M (gOth b) := fun M h => .alt (fun M' h' => blk M' (by omega)) (.bind (.nd _) fun _ => .pure _)
 have lst : ∀ M,PE M (gList gEx) := fun M => .list Shs.ex.le fun _ _ => .ex
 exact .alt (fun M h => .bind .ex fun _ => .bind (blk M h) fun _ => .bind (els M h) fun _ => .pure _)<|.alt (fun M h => .bind .ex fun _ => .bind (blk M h) fun _ => .pure _)<|.alt (fun M h => .bind .ex fun _ => .bind (.nd _) fun _ => .bind .ex fun _ => .bind (oth M h) fun _ => .pure _)<|.alt (fun M h => .bind .nm fun _ => .bind (.nd _) fun _ => .bind .ex fun _ => .bind (oth M h) fun _ => .pure _)<|.alt (fun M h => .bind .nm fun _ => .bind (.nd _) fun _ => .bind .nm fun _ => .bind (lst M) fun _ => .bind (.nd _) fun _ => .pure _)<|.alt (fun M h => .bind .ex fun _ => .bind (.nd _) fun _ => .bind .nm fun _ => .bind (lst M) fun _ => .bind (.nd _) fun _ => .pure _)<|.alt (fun M h => .bind (.nd _) fun _ => .pure _)<|.alt (fun M h => .bind .nm fun _ => .bind (.nd _) fun _ => .bind .ex fun _ => .bind (.nd _) fun _ => .bind (.nd _) fun _ => .pure _)<|.bind .nm fun _ => .alt (fun M h => .bind .ex fun _ => .bind (.nd _) fun _ => .bind (.nd _) fun _ => .bind .ex fun _ => .bind (.nd _) fun _ => .pure _)
  (.bind (.nd _) fun _ => .bind .ex fun _ => .bind (.nd _) fun _ => .pure _)
theorem En.b : En gB := .inl (by rw [gB_eq];rfl)
theorem PE.b : ∀ N,PE N gB
 | 0 => ⟨.zero Shr.b,En.b⟩
 | N + 1 => by
  have st : PE (N + 1) (gSt gB) := .st fun M h => (PE.b N).le (by omega)
  have rest : ∀ a : Sm,PE N (gBind gB fun l => gPure (a :: l)) := fun a => .bind (PE.b N) fun _ => .pure _
  refine ⟨.look (c := isT [125]) (p := gPure []) (q := gBind (gSt gB) fun s => gBind gB fun l => gPure (s :: l)) rfl (fun _ _ _ => rfl) (fun r h => ?_) (fun r h => ?_) (.pure _)
   (.bindS st.pf (fun r a q hr e => ?_) (fun a => (rest a).pf) (fun a => (rest a).en)) (.bind st.en fun a => (rest a).en),En.b⟩
  ·rw [gB_eq,if_pos h]
   rfl
  ·rw [gB_eq,if_neg (by rw [h];decide)]
   rfl
  ·have := Shs.st Shr.b _ _ _ e
   omega
theorem PE.blk {N : Nat} : PE N (gBlk gB) := .bind (.nd _) fun _ => .bind (.b N) fun _ => .bind (.nd _) fun _ => .pure _
theorem PE.int {N : Nat} : PE N gInt := .alt (fun _ _ => .bind .nu fun _ => .pure _) .nu
theorem PE.hd {N : Nat} : PE N gHd := .bind .nm fun _ => .bind (.list Shs.nm.le fun _ _ => .nm) fun _ => .bind .blk fun _ => .pure _
structure Xf {α : Type} (p : Pz α) : Prop where
 no : p [] = .er [] 8
 go : ∀ r a q w,p r = .ok a q → p (r ++ w) = .ok a (q ++ w)
theorem Xf.nd (w : Str) : Xf (gNd w) := ⟨rfl,fun r a q z e => by
 cases r with
 | nil => cases e
 | cons t r =>
  unfold gNd at e
  split at e
  ·rename_i h
   injection e with _ e
   subst e
   show (if isT w (t :: (r ++ z)) = true then _ else _) = _
   have h2 : isT w (t :: (r ++ z)) = true := h
   rw [if_pos h2]
   rfl
  ·cases e⟩
theorem Xf.pure {α β : Type} {p : Pz α} {f : α → β} (h : Xf p) : Xf (gBind p fun a => gPure (f a)) := ⟨by unfold gBind;rw [h.no];rfl,fun r b q w e => by
 obtain ⟨a,q1,h1,h2⟩ := Rs.bind_ok e
 injection h2 with h2 h3
 subst h2;subst h3
 unfold gBind
 rw [h.go r a q1 w h1]
 rfl⟩
theorem Xf.bind {α β : Type} {p : Pz α} {f : α → Pz β} (hp : ∀ N,PE N p) (hf : ∀ a,Xf (f a)) : Xf (gBind p f) := ⟨by
 unfold gBind
 rcases (hp 0).en with h | ⟨b,h⟩
 ·rw [h];rfl
 ·rw [h]
  exact (hf b).no,fun r b q' w e => by
 obtain ⟨a,q,h1,h2⟩ := Rs.bind_ok e
 have hq : q ≠ [] := fun k => by
  subst k
  rw [(hf a).no] at h2
  cases h2
 obtain ⟨u,rfl,_,B⟩ := (hp r.length).pf _ _ _ (Nat.le_refl _) h1
 have h3 := B (q ++ w) (fun k => hq (List.append_eq_nil_iff.1 k).1) (by cases q with | nil => exact absurd rfl hq | cons t q => rfl)
 unfold gBind
 rw [List.append_assoc,h3]
 exact (hf a).go q b q' w h2⟩
def exB : Nat → Ex → Ex → Bool
 | 0,_,_ => false
 | f + 1,.mk o n v l,.mk o' n' v' l' => decide (o = o') && decide (n = n') && decide (v = v') && (decide (l.length = l'.length) && (l.zip l').all fun p => exB f p.1 p.2)
theorem zip_eq {α : Type} {r : α → α → Bool} (h : ∀ a b,r a b = true → a = b) : ∀ (l m : List α),l.length = m.length → ((l.zip m).all fun p => r p.1 p.2) = true → l = m
 | [],[],_,_ => rfl
 | [],_ :: _,e,_ => by cases e
 | _ :: _,[],e,_ => by cases e
 | a :: l,b :: m,e,k => by
  rw [List.zip_cons_cons,List.all_cons,Bool.and_eq_true] at k
  rw [h a b k.1,zip_eq h l m (by simpa using e) k.2]
theorem exB_eq : ∀ (f : Nat) (a b : Ex),exB f a b = true → a = b
 | 0,_,_,h => by cases h
 | f + 1,.mk o n v l,.mk o' n' v' l',h => by
  unfold exB at h
  simp only [Bool.and_eq_true,decide_eq_true_eq] at h
  obtain ⟨⟨⟨rfl,rfl⟩,rfl⟩,h1,h2⟩ := h
  rw [zip_eq (r := exB f) (exB_eq f) l l' h1 h2]
def nmE (c : UInt8) : Ex := .mk 5 [c] 0 []
def txA : Str := [110,111,116,32,97,32,61,61,32,98]
def txB : Str := [97,32,60,32,98,32,60,32,99]
def txC : Str := [102,108,101,101,116] ++ [32,102,32,123,32] ++ [108,105,110,107] ++ [32,97,32,45,62,32,98,32] ++ [108,97,116,101,110,99,121] ++ [32] ++ [57,50,50,51,51,55,50,48,51,54,56,53,52,55,55,53,56,48,56] ++ [59,32,125]
def txD : Str := [40,97]
def okBq (x : Rs Ex) (a : Ex) : Bool := match x with | .ok b r => r.isEmpty && exB 5 b a | .er _ _ => false
theorem okB_eq {x : Rs Ex} {a : Ex} (h : okBq x a = true) : x = .ok a [] := by
 unfold okBq at h
 cases x with
 | er r c => cases h
 | ok b r =>
  simp only [Bool.and_eq_true,List.isEmpty_iff] at h
  rw [h.1,exB_eq 5 _ _ h.2]
theorem awA : gX 0 (lexR txA) = .ok (opE 16 [opE 10 [nmE 97],nmE 98]) [] := okB_eq (by decide +kernel)
theorem awB : (sgZ (gX 0) txB).e = 8 ∧ (sgZ (gX 0) txB).o = 6 := by decide +kernel
theorem awC : (sgZ gFt txC).e = 2 ∧ (sgZ gFt txC).o = 30 := by decide +kernel
theorem awD : (sgZ (gX 0) txD).e = 8 ∧ (sgZ (gX 0) txD).o = 2 := by decide +kernel
end Go.Proofs.YthhoebdlfjffkaaGreatDoor
namespace Go.Proofs.YthhoebdlfjffkaaGreatDoor
open Go.RowKit Go.Par Go.Sx
theorem Fx.call11 : callN Tryz.prog 11 = Bool.true := by kernel_rfl
theorem Fx.call19 : callN Tryz.prog 19 = Bool.true := by kernel_rfl
theorem awA_check : checkE (opE 16 [opE 10 [nmE 97],nmE 98]) = 0 := by decide +kernel
theorem parse_bad {H : Hp} (G : Gl H) {w0 W : World} {bs : List Res} {t : Str} {c o : Nat} (ht : t.length ≤ 9223372036854775807) (hc : (sgZ gFt t).e = c) (ho : (sgZ gFt t).o = o) (h0 : c ≠ 0)
 (hcp : (up t.length (gMany [108,105,110,107] gLk) (up t.length (gMany [102,108,97,103] gFg) (up t.length (gNd [123]) (up t.length gNm (up t.length (gNd [102,108,101,101,116]) (sg0 t)))))).e = 0 → False) (s : St H w0 bs W) :
 Calls Tryz.prog 19 #[strV t] W fun e W' => ∃ z : Hp,HUp w0 H z ∧ e = .returned (.tuple #[.agg ([.string ⟨#[]⟩,.slice none 0 0,.slice none 0 0,.slice none 0 0] : List Value).toArray,.int .i64 (o : Nat),.int .i64 (c : Nat)]) ∧ St z w0 bs W' := by
 subst hc ho
 refine (parse_st G t ht (fun f _ h => absurd h h0) (fun h => (hcp h).elim) s).mono ?_
 rintro e W' ⟨z,⟨h1,h2,h3⟩,h4,h5⟩
 refine ⟨z.2.2,h2,?_,h5⟩
 rw [h4]
 unfold pzR pzO pzE
 simp only [h0,if_false,false_and]
set_option maxRecDepth 100000 in
theorem awake_any (H : Hp) (G : Gl H) (w : World) (hA : Agr H w) : Calls Tryz.prog 9 #[] w fun r w' => r = .returned (.bool true) ∧ Ext w w' := by
 refine Sx.enter (H := H) Tryz.func9 rfl Tryz.ntmps9 rfl hA ?_
 refine .sr<|.a Z Z<|.ns<|.cs (X := List Value × Hp) Fx.call11 Z (fun W s => exprP_ok (t := txA) G (by decide) awA awA_check s) Z fun z1 hz1 => ?_
 obtain ⟨c1,H1⟩ := z1
 obtain ⟨u1,r1⟩ := hz1
 dsimp only at u1 r1 ⊢
 obtain ⟨p,c,rfl,hs,_⟩ := ex_open r1
 obtain ⟨bE,oE,cE,hpE,rE,lE,mE⟩ := hs.elem (i := 0) (d := dEx .u8 (opE 10 [nmE 97])) rfl
 obtain ⟨bF,oF,cF,hpF,rF,lF,mF⟩ := hs.elem (i := 1) (d := dEx .u8 (nmE 98)) rfl
 cases hpE
 cases hpF
 obtain ⟨p2,c2,rfl,_,_⟩ := ex_open rE
 obtain ⟨p3,c3,rfl,_,_⟩ := ex_open rF
 refine .m Z Z<|.yv (.extract Z Z) Z<|.yv (.extract Z Z) Z<|.yv (.extract Z Z) Z<|.al Fx.zero27 Z fun b1 => .sW .head Z Z Fx.size27 (Rep.one r1) Z<|.a Z Z<|.a Z Z<|.nt<|.sq<|.sr<|.m Z Z<|.yv (.cast (.neq Z Z) (congrArg Value.bool (decide_eq_false (fun h => h Z)))) Z<|.m Z Z<|.gd Z Z<|.yv (.move Z) Z<|.gd Z Z<|.yv (.cast (.neq Z Z) (congrArg Value.bool (decide_eq_false (fun h => h Z)))) Z<|.yv (.pickF Z Z) Z<|.m Z Z<|.gd Z Z<|.yv (.fieldAddr Z Fx.field27_0) Z<|.gd Z Z<|.yv (.load Z Fx.agg24 (.head _) Z) Z<|.gd Z Z<|.yv (.cast (.neq Z Z) (congrArg Value.bool (decide_eq_false (fun h => h Z)))) Z<|.yv (.pickF Z Z) Z<|.m Z Z<|.gd Z Z<|.yv (.fieldAddr Z Fx.field27_3) Z<|.gd Z Z<|.yv (.load Z Fx.agg25 (.head _) Z) Z<|.gd Z Z<|.yv (.lenSl Fx.sl25 Z) Z<|.gd Z Z<|.yv (.cast (.neq Z Z) (congrArg Value.bool (decide_eq_false (fun h => h Z)))) Z<|.yv (.pickF Z Z) Z<|.m Z Z<|.gd Z Z<|.yv (.fieldAddr Z Fx.field27_3) Z<|.gd Z Z<|.yv (.load Z Fx.agg25 (.head _) Z) Z<|.gd Z Z<|.yv (.indexSl Fx.sl25 Z Z (i := 0) Z (by decide) (q := oE + 0 * 4) (by omega)) Z<|.gd Z Z<|.yv (.fieldAddr Z Fx.field27_0) Z<|.gd Z Z<|.yv (.loadM Z Fx.agg24 mE (k := 0) Z Z) Z<|.gd Z Z<|.yv (.cast (.neq Z Z) (congrArg Value.bool (decide_eq_false (fun h => h Z)))) Z<|.yv (.pickF Z Z) Z<|.m Z Z<|.gd Z Z<|.yv (.fieldAddr Z Fx.field27_3) Z<|.gd Z Z<|.yv (.load Z Fx.agg25 (.head _) Z) Z<|.gd Z Z<|.yv (.indexSl Fx.sl25 Z Z (i := 1) Z (by decide) (q := oE + 1 * 4) (by omega)) Z<|.gd Z Z<|.yv (.fieldAddr Z Fx.field27_1) Z<|.gd Z Z<|.yv (.loadM Z Fx.agg9 mF (k := 1) Z Z) Z<|.gd Z Z<|.yv (.cast (.neS Z Z) (congrArg Value.bool (decide_eq_false (fun h => h Z)))) Z<|.yv (.pickF Z Z) Z<|.nt<|.cF Z<|.sk<|.tN<|.sr<|.cs (X := Hp) Fx.call11 Z (fun W s => exprP_bad (t := txB) (G.up u1.up) (by decide) awB.1 awB.2 (by decide) s) Z fun H2 u2 => .m Z Z<|.yv (.extract Z Z) Z<|.yv (.extract Z Z) Z<|.yv (.extract Z Z) Z<|.a Z Z<|.a Z Z<|.ns<|.cs (X := Hp) Fx.call19 Z (fun W s => parse_bad (t := txC) ((G.up u1.up).up u2.up) (by decide) awC.1 awC.2 (by decide) (fun h => absurd h (by decide +kernel)) s) Z fun H3 u3 => .m Z Z<|.yv (.extract Z Z) Z<|.yv (.extract Z Z) Z<|.yv (.extract Z Z) Z<|.al Fx.zero49 Z fun b4 => .sW .head Z Z Fx.size49 (by simp [Value.oneCell']) Z<|.a Z Z<|.a Z Z<|.ns<|.cs (X := Hp) Fx.call11 Z (fun W s => exprP_bad (t := txD) (((G.up u1.up).up u2.up).up u3.up) (by decide) awD.1 awD.2 (by decide) s) Z fun H4 u4 => .m Z Z<|.yv (.extract Z Z) Z<|.yv (.extract Z Z) Z<|.yv (.extract Z Z) Z<|.al Fx.zero27 Z fun b7 => .sW .head Z Z Fx.size27 (by simp [Value.oneCell']) Z<|.a Z Z<|.a Z Z<|.ns<|.m Z Z<|.yv (.cast (.eql Z Z) (congrArg Value.bool (decide_eq_true Z))) Z<|.m Z Z<|.gd Z Z<|.yv (.move Z) Z<|.gd Z Z<|.yv (.cast (.eql Z Z) (congrArg Value.bool (decide_eq_true Z))) Z<|.yv (.pickT Z Z) Z<|.m Z Z<|.gd Z Z<|.yv (.move Z) Z<|.gd Z Z<|.yv (.cast (.eql Z Z) (congrArg Value.bool (decide_eq_true Z))) Z<|.yv (.pickT Z Z) Z<|.m Z Z<|.gd Z Z<|.yv (.move Z) Z<|.gd Z Z<|.yv (.cast (.eql Z Z) (congrArg Value.bool (decide_eq_true Z))) Z<|.yv (.pickT Z Z) Z<|.m Z Z<|.gd Z Z<|.yv (.move Z) Z<|.gd Z Z<|.yv (.cast (.eql Z Z) (congrArg Value.bool (decide_eq_true Z))) Z<|.yv (.pickT Z Z) Z<|.m Z Z<|.gd Z Z<|.yv (.move Z) Z<|.gd Z Z<|.yv (.cast (.eql Z Z) (congrArg Value.bool (decide_eq_true Z))) Z<|.yv (.pickT Z Z) Z<|.a Z Z<|.nt<|.rt<|?_
 exact Sx.ret1 (.inl rfl) rfl (.tmp rfl) fun W s => ⟨rfl,s.ext⟩
noncomputable def eqP (p : Prop) : Bool := @decide p (Classical.propDecidable p)
theorem eqP_iff {p : Prop} : eqP p = true ↔ p := by unfold eqP;exact @decide_eq_true_iff p (Classical.propDecidable p)
theorem eqP_false {p : Prop} : eqP p = false ↔ ¬ p := ⟨fun h k => (by rw [eqP_iff.2 k] at h;cases h),fun h => (by cases e : eqP p with | false => rfl | true => exact absurd (eqP_iff.1 e) h)⟩
def EqAt (gf : FuncId) {α : Type} (d : α → D) (H : Hp) (a b : α) : Prop := ∀ (ca cb : List Value) (w : World),Rep H (d a) ca → Rep H (d b) cb → Agr H w → Calls Tryz.prog gf #[.agg ca.toArray,.agg cb.toArray] w fun r w' => r = .returned (.bool (eqP (a = b))) ∧ Ext w w'
theorem take_eq_succ {α : Type} {l m : List α} {k : Nat} (h : k < l.length) (h2 : k < m.length) (ht : l.take k = m.take k) (he : l[k] = m[k]) : l.take (k + 1) = m.take (k + 1) := by rw [take_snoc h,take_snoc h2,ht,he]
set_option maxRecDepth 100000 in
theorem eqFuncE (H : Hp) (gf : FuncId) (hgf : callN Tryz.prog gf = true) (l m : List Ex) (hq : ∀ a ∈ l,∀ b,EqAt gf (dEx .u8) H a b) (v u : Value) (hs : Rep H (.seq 4 (l.map (dEx .u8))) [v]) (ht : Rep H (.seq 4 (m.map (dEx .u8))) [u]) (w : World) (hA : Agr H w) :
 Calls Tryz.prog 28 #[v,u,.func (.func gf) #[] #[]] w fun r w' => r = .returned (.bool (eqP (l = m))) ∧ Ext w w' := by
 obtain ⟨p,c,e,_⟩ := hs.sl
 simp only [List.cons.injEq,and_true,List.length_map] at e
 subst e
 obtain ⟨p2,c2,e,_⟩ := ht.sl
 simp only [List.cons.injEq,and_true,List.length_map] at e
 subst e
 have hcap := hs.cap
 have hcap2 := ht.cap
 refine Sx.enter (H := H) Tryz.func28 rfl Tryz.ntmps28 rfl hA ?_
 refine .sr<|.a Z Z<|.nt<|.sq<|.sr<|.m Z Z<|.yv (.lenSl Fx.sl25 Z) Z<|.m Z Z<|.yv (.lenSl Fx.sl25 Z) Z<|.yv (.neq Z Z) Z<|.nt<|.cd Z (fun h14 => ?_) (fun h14 => ?_)
 ·try simp only [dt] at h14
  have hne : ¬ l = m := fun e => by rw [e] at h14;exact h14 rfl
  refine .sr<|.a Z Z<|.nt<|.rt<|.tR<|?_
  refine Sx.ret1 (.inl rfl) rfl (.tmp rfl) fun W s => ⟨retB ?_,s.ext⟩
  first
   | (rw [eqP_iff];exact ⟨fun h => (by cases h),fun h => absurd h hne⟩)
   | (rw [eqP_iff];exact ⟨fun _ => heq,fun _ => rfl⟩)
 try simp only [df] at h14
 have hlen : l.length = m.length := by omega
 refine .sk<|.tN<|.sq<|.sr<|.m Z Z<|.yv (.lenSl Fx.sl25 Z) Z<|.m Z Z<|.nt<|.bk<|.lp (X := Nat) [(1,_),(2,_),(15,_),(16,_)] ⟨rfl,rfl,rfl,rfl,trivial⟩ [] (fun k => [(17,.int .i64 (k : Nat))]) (fun k => H) (fun k => []) (fun k => k ≤ l.length ∧ l.take k = m.take k) (fun k => l.length - k) 0 (fun _ s => s) ⟨rfl,trivial⟩ ⟨by omega,rfl⟩ fun k hC => ?_
 obtain ⟨hk0,hal⟩ := hC
 refine .sr<|.yv (.lss Z Z) Z<|.nt<|.sq<|.cd Z (fun h18 => ?_) (fun h18 => ?_)
 ·try simp only [dt] at h18
  have hk : k < l.length := by omega
  have hkm : k < m.length := by omega
  obtain ⟨bE,oE,cE,hpE,rE,lE,mE⟩ := hs.elem (map_at hk)
  cases hpE
  obtain ⟨bF,oF,cF,hpF,rF,lF,mF⟩ := ht.elem (map_at hkm)
  cases hpF
  refine .sk<|.tN<|.sq<|.bk<|.sr<|.m Z Z<|.yv (.indexSl Fx.sl25 Z Z Z (by omega) (q := oE + k * 4) Z) Z<|.yv (.loadMW Z Fx.agg27 mE lE) Z<|.al Fx.zero27 Z fun b8 => .a Z Z<|.sV .head Z Z Fx.size27 lE rE.one Z<|.ns<|.m Z Z<|.m Z Z<|.yv (.indexSl Fx.sl25 Z Z Z (by omega) (q := oF + k * 4) Z) Z<|.yv (.loadMW Z Fx.agg27 mF lF) Z<|.al Fx.zero27 Z fun b9 => .sV .head Z Z Fx.size27 lF rF.one Z<|.ns<|.m Z Z<|.yv (.loadW Z Fx.agg27 (.tail _<|.head _) lE) Z<|.yv (.loadW Z Fx.agg27 (.head _) lF) Z<|.yv (.callV (fi := []) (ca := []) Z hgf Z (fun W s => hq _ (List.getElem_mem hk) _ cE cF W rE rF s.agr)) Z<|.yv (.not Z) Z<|.nt<|.cd Z (fun h30 => ?_) (fun h30 => ?_)
  ·try simp only [dt] at h30
   have hne : ¬ l = m := fun e => by subst e;rw [eqP_iff.2 rfl] at h30;cases h30
   refine .sr<|.a Z Z<|.nt<|.rt<|.bR<|.tR<|.tR<|.bR<|.tR<|?_
   refine Sx.ret1 (.inl rfl) rfl (.tmp rfl) fun W s => ⟨retB ?_,s.ext⟩
   first
    | (rw [eqP_iff];exact ⟨fun h => (by cases h),fun h => absurd h hne⟩)
    | (rw [eqP_iff];exact ⟨fun _ => heq,fun _ => rfl⟩)
  try simp only [df] at h30
  have heq : l[k] = m[k] := eqP_iff.1 (by simpa using h30)
  exact .sk<|.bN<|.tN<|.rg<|.yv (.add Z Z (w6 (by omega))) Z<|.m Z Z<|.nt<|.ag (k + 1) ⟨rfl,trivial⟩ ⟨rfl,rfl,rfl,rfl,trivial⟩ (fun _ s => s.pick [] [] Z Z) ⟨by omega,take_eq_succ hk hkm hal heq⟩ (by omega)
 try simp only [df] at h18
 have heq : l = m := by
  have e : k = l.length := by omega
  have e2 : k = m.length := by omega
  have h1 := hal
  rw [e,List.take_length,hlen,List.take_length] at h1
  exact h1
 refine .ex<|.tE<|.tE<|.bE<|.tN<|.sr<|.a Z Z<|.nt<|.rt<|?_
 refine Sx.ret1 (.inl rfl) rfl (.tmp rfl) fun W s => ⟨retB ?_,s.ext⟩
 first
  | (rw [eqP_iff];exact ⟨fun h => (by cases h),fun h => absurd h hne⟩)
  | (rw [eqP_iff];exact ⟨fun _ => heq,fun _ => rfl⟩)
set_option maxRecDepth 100000 in
theorem equalExpr_any (H : Hp) (a : Ex) : ∀ b,EqAt 13 (dEx .u8) H a b := by
 induction a using Ex.ind with | _ op nm n args ih
 intro b ca cb w ha hb hA
 obtain ⟨op2,nm2,n2,args2⟩ := b
 obtain ⟨p,c,rfl,hs,hnm⟩ := ex_open ha
 obtain ⟨p2,c2,rfl,hs2,hnm2⟩ := ex_open hb
 refine Sx.enter (H := H) Tryz.func13 rfl Tryz.ntmps13 rfl hA ?_
 refine .sr<|.bx Z Z Z fun b2 => .bx Z Z Z fun b3 => .a Z Z<|.ns<|.yv (.fieldAddr Z Fx.field27_0) Z<|.yv (.load Z Fx.agg24 (.tail _<|.head _) Z) Z<|.yv (.fieldAddr Z Fx.field27_0) Z<|.yv (.load Z Fx.agg24 (.head _) Z) Z<|.yv (.eql Z Z) Z<|.m Z Z<|.b2 (fun h10 => ?_) (fun h10 => ?_)
 ·try simp only [dt] at h10
  have e1 : op = op2 := UInt8.toNat_inj.1 (by omega)
  refine .gd Z Z<|.yv (.fieldAddr Z Fx.field27_1) Z<|.gd Z Z<|.yv (.load Z Fx.agg9 (.tail _<|.head _) Z) Z<|.gd Z Z<|.yv (.fieldAddr Z Fx.field27_1) Z<|.gd Z Z<|.yv (.load Z Fx.agg9 (.head _) Z) Z<|.gd Z Z<|.yv (.eqS Z Z) Z<|.yv (.pickT Z Z) Z<|.m Z Z<|.b2 (fun h17 => ?_) (fun h17 => ?_)
  ·try simp only [dt] at h17
   have e2 : nm = nm2 := h17
   refine .gd Z Z<|.yv (.fieldAddr Z Fx.field27_2) Z<|.gd Z Z<|.yv (.load Z Fx.agg2 (.tail _<|.head _) Z) Z<|.gd Z Z<|.yv (.fieldAddr Z Fx.field27_2) Z<|.gd Z Z<|.yv (.load Z Fx.agg2 (.head _) Z) Z<|.gd Z Z<|.yv (.eql Z Z) Z<|.yv (.pickT Z Z) Z<|.m Z Z<|.b2 (fun h24 => ?_) (fun h24 => ?_)
   ·try simp only [dt] at h24
    have e3 : n = n2 := Int64.toInt_inj.1 h24
    refine .gd Z Z<|.yv (.fieldAddr Z Fx.field27_3) Z<|.gd Z Z<|.yv (.load Z Fx.agg25 (.tail _<|.head _) Z) Z<|.gd Z Z<|.yv (.fieldAddr Z Fx.field27_3) Z<|.gd Z Z<|.yv (.load Z Fx.agg25 (.head _) Z) Z<|.gd Z Z<|.yv (.call Fx.call28 Z (fun W s => eqFuncE H 13 Fx.call13 args args2 ih _ _ hs hs2 W s.agr)) Z<|.yv (.pickT Z Z) Z<|.a Z Z<|.nt<|.rt<|?_
    refine Sx.ret1 (.inl rfl) rfl (.tmp rfl) fun W s => ⟨retB ?_,s.ext⟩
    first
     | (rw [eqP_iff,eqP_iff,Ex.mk.injEq];exact ⟨fun d => ⟨e1,e2,e3,d⟩,fun h => h.2.2.2⟩)
     | (rw [eqP_iff,Ex.mk.injEq];exact ⟨fun h => (by cases h),fun h => absurd h.1 e1⟩)
     | (rw [eqP_iff,Ex.mk.injEq];exact ⟨fun h => (by cases h),fun h => absurd h.2.1 e2⟩)
     | (rw [eqP_iff,Ex.mk.injEq];exact ⟨fun h => (by cases h),fun h => absurd h.2.2.1 e3⟩)
   try simp only [df] at h24
   have e3 : ¬ n = n2 := fun e => h24 (by rw [e])
   refine .gF Z Z Z Z<|.gF Z Z Z Z<|.gF Z Z Z Z<|.gF Z Z Z Z<|.gF Z Z Z Z<|.yv (.pickF Z Z) Z<|.a Z Z<|.nt<|.rt<|?_
   refine Sx.ret1 (.inl rfl) rfl (.tmp rfl) fun W s => ⟨retB ?_,s.ext⟩
   first
    | (rw [eqP_iff,eqP_iff,Ex.mk.injEq];exact ⟨fun d => ⟨e1,e2,e3,d⟩,fun h => h.2.2.2⟩)
    | (rw [eqP_iff,Ex.mk.injEq];exact ⟨fun h => (by cases h),fun h => absurd h.1 e1⟩)
    | (rw [eqP_iff,Ex.mk.injEq];exact ⟨fun h => (by cases h),fun h => absurd h.2.1 e2⟩)
    | (rw [eqP_iff,Ex.mk.injEq];exact ⟨fun h => (by cases h),fun h => absurd h.2.2.1 e3⟩)
  try simp only [df] at h17
  have e2 : ¬ nm = nm2 := h17
  refine .gF Z Z Z Z<|.gF Z Z Z Z<|.gF Z Z Z Z<|.gF Z Z Z Z<|.gF Z Z Z Z<|.yv (.pickF Z Z) Z<|.m Z Z<|.gF Z Z Z Z<|.gF Z Z Z Z<|.gF Z Z Z Z<|.gF Z Z Z Z<|.gF Z Z Z Z<|.yv (.pickF Z Z) Z<|.a Z Z<|.nt<|.rt<|?_
  refine Sx.ret1 (.inl rfl) rfl (.tmp rfl) fun W s => ⟨retB ?_,s.ext⟩
  first
   | (rw [eqP_iff,eqP_iff,Ex.mk.injEq];exact ⟨fun d => ⟨e1,e2,e3,d⟩,fun h => h.2.2.2⟩)
   | (rw [eqP_iff,Ex.mk.injEq];exact ⟨fun h => (by cases h),fun h => absurd h.1 e1⟩)
   | (rw [eqP_iff,Ex.mk.injEq];exact ⟨fun h => (by cases h),fun h => absurd h.2.1 e2⟩)
   | (rw [eqP_iff,Ex.mk.injEq];exact ⟨fun h => (by cases h),fun h => absurd h.2.2.1 e3⟩)
 try simp only [df] at h10
 have e1 : ¬ op = op2 := fun e => h10 (by rw [e])
 refine .gF Z Z Z Z<|.gF Z Z Z Z<|.gF Z Z Z Z<|.gF Z Z Z Z<|.gF Z Z Z Z<|.yv (.pickF Z Z) Z<|.m Z Z<|.gF Z Z Z Z<|.gF Z Z Z Z<|.gF Z Z Z Z<|.gF Z Z Z Z<|.gF Z Z Z Z<|.yv (.pickF Z Z) Z<|.m Z Z<|.gF Z Z Z Z<|.gF Z Z Z Z<|.gF Z Z Z Z<|.gF Z Z Z Z<|.gF Z Z Z Z<|.yv (.pickF Z Z) Z<|.a Z Z<|.nt<|.rt<|?_
 refine Sx.ret1 (.inl rfl) rfl (.tmp rfl) fun W s => ⟨retB ?_,s.ext⟩
 first
  | (rw [eqP_iff,eqP_iff,Ex.mk.injEq];exact ⟨fun d => ⟨e1,e2,e3,d⟩,fun h => h.2.2.2⟩)
  | (rw [eqP_iff,Ex.mk.injEq];exact ⟨fun h => (by cases h),fun h => absurd h.1 e1⟩)
  | (rw [eqP_iff,Ex.mk.injEq];exact ⟨fun h => (by cases h),fun h => absurd h.2.1 e2⟩)
  | (rw [eqP_iff,Ex.mk.injEq];exact ⟨fun h => (by cases h),fun h => absurd h.2.2.1 e3⟩)
theorem Fx.call9 : callN Tryz.prog 9 = Bool.true := by kernel_rfl
theorem Fx.call10 : callN Tryz.prog 10 = Bool.true := by kernel_rfl
set_option maxRecDepth 100000 in
theorem short_any (l : Str) (w : World) : Calls Tryz.prog 10 #[strV l] w fun r w' => r = .returned (strV (l.take 5000)) ∧ Ext w w' := by
 refine Sx.enter (H := (fun _ => none)) Tryz.func10 rfl Tryz.ntmps10 rfl (fun _ _ e => by cases e) ?_
 refine .sr<|.a Z Z<|.ns<|.m Z Z<|.m Z Z<|.yv (.lenS Fx.str9 Z) Z<|.yv (.min2 Z Z (c := ((min l.length 5000 : Nat) : Int)) (by omega)) Z<|.yv (.takeS Fx.str9 Z Z (hi := min l.length 5000) Z (by omega)) Z<|.a Z Z<|.nt<|.rt<|?_
 refine Sx.ret1 (.inl rfl) rfl (.tmp rfl) fun W s => ⟨?_,s.ext⟩
 rw [show l.take (min l.length 5000) = l.take 5000 by rw [Nat.min_comm,← List.take_take,List.take_length]]
 rfl
theorem fg_eq {a b : Fg} : a = b ↔ a.nm = b.nm ∧ a.init = b.init := by cases a;cases b;simp
theorem lk_eq {a b : Lk} : a = b ↔ a.fr = b.fr ∧ a.to = b.to ∧ a.lat.toInt = b.lat.toInt := by cases a;cases b;simp [Int64.toInt_inj]
theorem vr_eq {a b : Vr} : a = b ↔ a.nm = b.nm ∧ a.ty.toNat = b.ty.toNat ∧ a.init.toInt = b.init.toInt := by cases a;cases b;simp [Int64.toInt_inj,UInt8.toNat_inj]
set_option maxRecDepth 100000 in
theorem slEqF (H : Hp) (l m : List Fg) (v u : Value) (hs : Rep H (.seq 2 (l.map dFg)) [v]) (ht : Rep H (.seq 2 (m.map dFg)) [u]) (w : World) (hA : Agr H w) :
 Calls Tryz.prog 39 #[v,u] w fun r w' => r = .returned (.bool (eqP (l = m))) ∧ Ext w w' := by
 obtain ⟨p,c,e,_⟩ := hs.sl
 simp only [List.cons.injEq,and_true,List.length_map] at e
 subst e
 obtain ⟨p2,c2,e,_⟩ := ht.sl
 simp only [List.cons.injEq,and_true,List.length_map] at e
 subst e
 have hcap := hs.cap
 have hcap2 := ht.cap
 refine Sx.enter (H := H) Tryz.func39 rfl Tryz.ntmps39 rfl hA ?_
 refine .sr<|.a Z Z<|.nt<|.sq<|.sr<|.m Z Z<|.yv (.lenSl Fx.sl45 Z) Z<|.m Z Z<|.yv (.lenSl Fx.sl45 Z) Z<|.yv (.neq Z Z) Z<|.nt<|.cd Z (fun h10 => ?_) (fun h10 => ?_)
 ·try simp only [dt] at h10
  have hne : ¬ l = m := fun e => by rw [e] at h10;exact h10 rfl
  refine .sr<|.a Z Z<|.nt<|.rt<|.tR<|?_
  refine Sx.ret1 (.inl rfl) rfl (.tmp rfl) fun W s => ⟨retB ?_,s.ext⟩
  first
   | (rw [eqP_iff];exact ⟨fun h => (by cases h),fun h => absurd h hne⟩)
   | (rw [eqP_iff];exact ⟨fun _ => heq,fun _ => rfl⟩)
 try simp only [df] at h10
 have hlen : l.length = m.length := by omega
 refine .sk<|.tN<|.sq<|.sr<|.m Z Z<|.yv (.lenSl Fx.sl45 Z) Z<|.m Z Z<|.nt<|.bk<|.lp (X := Nat) [(0,_),(1,_),(12,_)] ⟨rfl,rfl,rfl,trivial⟩ [] (fun k => [(13,.int .i64 (k : Nat))]) (fun k => H) (fun k => []) (fun k => k ≤ l.length ∧ l.take k = m.take k) (fun k => l.length - k) 0 (fun _ s => s) ⟨rfl,trivial⟩ ⟨by omega,rfl⟩ fun k hC => ?_
 obtain ⟨hk0,hal⟩ := hC
 refine .sr<|.yv (.lss Z Z) Z<|.nt<|.sq<|.cd Z (fun h14 => ?_) (fun h14 => ?_)
 ·try simp only [dt] at h14
  have hk : k < l.length := by omega
  have hkm : k < m.length := by omega
  obtain ⟨bE,oE,cE,hpE,rE,lE,mE⟩ := hs.elem (map_at (f := dFg) hk)
  cases hpE
  generalize hxE : l[k] = xE at rE
  obtain ⟨rfl,_⟩ := fg_open rE
  obtain ⟨bF,oF,cF,hpF,rF,lF,mF⟩ := ht.elem (map_at (f := dFg) hkm)
  cases hpF
  generalize hxF : m[k] = xF at rF
  obtain ⟨rfl,_⟩ := fg_open rF
  refine .sk<|.tN<|.sq<|.bk<|.sr<|.m Z Z<|.a Z Z<|.nt<|.sq<|.fl (trip := [(_,_,_),(_,_,_),(_,_,_),(_,_,_),(_,_,_),(_,_,_),(_,_,_),(_,_,_)]) 8 [(0,0),(1,0),(2,0),(3,0),(4,0),(5,0),(6,0),(7,0)] (by kernel_rfl) (by kernel_rfl) Z<|.m Z Z<|.m Z Z<|.yv (.indexSl Fx.sl45 Z Z Z (by omega) (q := oE + k * 2) Z) Z<|.yv (.loadMW Z Fx.agg102 mE Z) Z<|.m Z Z<|.m Z Z<|.yv (.indexSl Fx.sl45 Z Z Z (by omega) (q := oF + k * 2) Z) Z<|.yv (.loadMW Z Fx.agg102 mF Z) Z<|.fn (tl := [_]) Z<|.yv (.neA Fx.eqt102 Z Z Z) Z<|.nt<|.cd Z (fun h24 => ?_) (fun h24 => ?_)
  ·try simp only [dt] at h24
   have hne : ¬ l = m := fun e => by
    subst e
    rw [hxE] at hxF
    subst hxF
    simp at h24
   refine .sr<|.a Z Z<|.nt<|.rt<|.bR<|.tR<|.tR<|.bR<|.tR<|?_
   refine Sx.ret1 (.inl rfl) rfl (.tmp rfl) fun W s => ⟨retB ?_,s.ext⟩
   first
    | (rw [eqP_iff];exact ⟨fun h => (by cases h),fun h => absurd h hne⟩)
    | (rw [eqP_iff];exact ⟨fun _ => heq,fun _ => rfl⟩)
  try simp only [df] at h24
  have heq : l[k] = m[k] := by
   rw [hxE,hxF]
   rw [fg_eq];simpa [str_inj] using h24
  exact .sk<|.bN<|.tN<|.rg<|.yv (.add Z Z (w6 (by omega))) Z<|.m Z Z<|.nt<|.ag (k + 1) ⟨rfl,trivial⟩ ⟨rfl,rfl,rfl,trivial⟩ (fun _ s => s) ⟨by omega,take_eq_succ hk hkm hal heq⟩ (by omega)
 try simp only [df] at h14
 have heq : l = m := by
  have e : k = l.length := by omega
  have e2 : k = m.length := by omega
  have h1 := hal
  rw [e,List.take_length,hlen,List.take_length] at h1
  exact h1
 refine .ex<|.tE<|.tE<|.bE<|.tN<|.sr<|.a Z Z<|.nt<|.rt<|?_
 refine Sx.ret1 (.inl rfl) rfl (.tmp rfl) fun W s => ⟨retB ?_,s.ext⟩
 first
  | (rw [eqP_iff];exact ⟨fun h => (by cases h),fun h => absurd h hne⟩)
  | (rw [eqP_iff];exact ⟨fun _ => heq,fun _ => rfl⟩)
set_option maxRecDepth 100000 in
theorem slEqL (H : Hp) (l m : List Lk) (v u : Value) (hs : Rep H (.seq 3 (l.map dLk)) [v]) (ht : Rep H (.seq 3 (m.map dLk)) [u]) (w : World) (hA : Agr H w) :
 Calls Tryz.prog 40 #[v,u] w fun r w' => r = .returned (.bool (eqP (l = m))) ∧ Ext w w' := by
 obtain ⟨p,c,e,_⟩ := hs.sl
 simp only [List.cons.injEq,and_true,List.length_map] at e
 subst e
 obtain ⟨p2,c2,e,_⟩ := ht.sl
 simp only [List.cons.injEq,and_true,List.length_map] at e
 subst e
 have hcap := hs.cap
 have hcap2 := ht.cap
 refine Sx.enter (H := H) Tryz.func40 rfl Tryz.ntmps40 rfl hA ?_
 refine .sr<|.a Z Z<|.nt<|.sq<|.sr<|.m Z Z<|.yv (.lenSl Fx.sl46 Z) Z<|.m Z Z<|.yv (.lenSl Fx.sl46 Z) Z<|.yv (.neq Z Z) Z<|.nt<|.cd Z (fun h10 => ?_) (fun h10 => ?_)
 ·try simp only [dt] at h10
  have hne : ¬ l = m := fun e => by rw [e] at h10;exact h10 rfl
  refine .sr<|.a Z Z<|.nt<|.rt<|.tR<|?_
  refine Sx.ret1 (.inl rfl) rfl (.tmp rfl) fun W s => ⟨retB ?_,s.ext⟩
  first
   | (rw [eqP_iff];exact ⟨fun h => (by cases h),fun h => absurd h hne⟩)
   | (rw [eqP_iff];exact ⟨fun _ => heq,fun _ => rfl⟩)
 try simp only [df] at h10
 have hlen : l.length = m.length := by omega
 refine .sk<|.tN<|.sq<|.sr<|.m Z Z<|.yv (.lenSl Fx.sl46 Z) Z<|.m Z Z<|.nt<|.bk<|.lp (X := Nat) [(0,_),(1,_),(12,_)] ⟨rfl,rfl,rfl,trivial⟩ [] (fun k => [(13,.int .i64 (k : Nat))]) (fun k => H) (fun k => []) (fun k => k ≤ l.length ∧ l.take k = m.take k) (fun k => l.length - k) 0 (fun _ s => s) ⟨rfl,trivial⟩ ⟨by omega,rfl⟩ fun k hC => ?_
 obtain ⟨hk0,hal⟩ := hC
 refine .sr<|.yv (.lss Z Z) Z<|.nt<|.sq<|.cd Z (fun h14 => ?_) (fun h14 => ?_)
 ·try simp only [dt] at h14
  have hk : k < l.length := by omega
  have hkm : k < m.length := by omega
  obtain ⟨bE,oE,cE,hpE,rE,lE,mE⟩ := hs.elem (map_at (f := dLk) hk)
  cases hpE
  generalize hxE : l[k] = xE at rE
  obtain ⟨rfl,_⟩ := lk_open rE
  obtain ⟨bF,oF,cF,hpF,rF,lF,mF⟩ := ht.elem (map_at (f := dLk) hkm)
  cases hpF
  generalize hxF : m[k] = xF at rF
  obtain ⟨rfl,_⟩ := lk_open rF
  refine .sk<|.tN<|.sq<|.bk<|.sr<|.m Z Z<|.a Z Z<|.nt<|.sq<|.fl (trip := [(_,_,_),(_,_,_),(_,_,_),(_,_,_),(_,_,_),(_,_,_),(_,_,_),(_,_,_)]) 8 [(0,0),(1,0),(2,0),(3,0),(4,0),(5,0),(6,0),(7,0)] (by kernel_rfl) (by kernel_rfl) Z<|.m Z Z<|.m Z Z<|.yv (.indexSl Fx.sl46 Z Z Z (by omega) (q := oE + k * 3) Z) Z<|.yv (.loadMW Z Fx.agg105 mE Z) Z<|.m Z Z<|.m Z Z<|.yv (.indexSl Fx.sl46 Z Z Z (by omega) (q := oF + k * 3) Z) Z<|.yv (.loadMW Z Fx.agg105 mF Z) Z<|.fn (tl := [_]) Z<|.yv (.neA Fx.eqt105 Z Z Z) Z<|.nt<|.cd Z (fun h24 => ?_) (fun h24 => ?_)
  ·try simp only [dt] at h24
   have hne : ¬ l = m := fun e => by
    subst e
    rw [hxE] at hxF
    subst hxF
    simp at h24
   refine .sr<|.a Z Z<|.nt<|.rt<|.bR<|.tR<|.tR<|.bR<|.tR<|?_
   refine Sx.ret1 (.inl rfl) rfl (.tmp rfl) fun W s => ⟨retB ?_,s.ext⟩
   first
    | (rw [eqP_iff];exact ⟨fun h => (by cases h),fun h => absurd h hne⟩)
    | (rw [eqP_iff];exact ⟨fun _ => heq,fun _ => rfl⟩)
  try simp only [df] at h24
  have heq : l[k] = m[k] := by
   rw [hxE,hxF]
   rw [lk_eq];simpa [str_inj] using h24
  exact .sk<|.bN<|.tN<|.rg<|.yv (.add Z Z (w6 (by omega))) Z<|.m Z Z<|.nt<|.ag (k + 1) ⟨rfl,trivial⟩ ⟨rfl,rfl,rfl,trivial⟩ (fun _ s => s) ⟨by omega,take_eq_succ hk hkm hal heq⟩ (by omega)
 try simp only [df] at h14
 have heq : l = m := by
  have e : k = l.length := by omega
  have e2 : k = m.length := by omega
  have h1 := hal
  rw [e,List.take_length,hlen,List.take_length] at h1
  exact h1
 refine .ex<|.tE<|.tE<|.bE<|.tN<|.sr<|.a Z Z<|.nt<|.rt<|?_
 refine Sx.ret1 (.inl rfl) rfl (.tmp rfl) fun W s => ⟨retB ?_,s.ext⟩
 first
  | (rw [eqP_iff];exact ⟨fun h => (by cases h),fun h => absurd h hne⟩)
  | (rw [eqP_iff];exact ⟨fun _ => heq,fun _ => rfl⟩)
set_option maxRecDepth 100000 in
theorem slEqV (H : Hp) (l m : List Vr) (v u : Value) (hs : Rep H (.seq 3 (l.map (dVr .u8))) [v]) (ht : Rep H (.seq 3 (m.map (dVr .u8))) [u]) (w : World) (hA : Agr H w) :
 Calls Tryz.prog 78 #[v,u] w fun r w' => r = .returned (.bool (eqP (l = m))) ∧ Ext w w' := by
 obtain ⟨p,c,e,_⟩ := hs.sl
 simp only [List.cons.injEq,and_true,List.length_map] at e
 subst e
 obtain ⟨p2,c2,e,_⟩ := ht.sl
 simp only [List.cons.injEq,and_true,List.length_map] at e
 subst e
 have hcap := hs.cap
 have hcap2 := ht.cap
 refine Sx.enter (H := H) Tryz.func78 rfl Tryz.ntmps78 rfl hA ?_
 refine .sr<|.a Z Z<|.nt<|.sq<|.sr<|.m Z Z<|.yv (.lenSl Fx.sl107 Z) Z<|.m Z Z<|.yv (.lenSl Fx.sl107 Z) Z<|.yv (.neq Z Z) Z<|.nt<|.cd Z (fun h10 => ?_) (fun h10 => ?_)
 ·try simp only [dt] at h10
  have hne : ¬ l = m := fun e => by rw [e] at h10;exact h10 rfl
  refine .sr<|.a Z Z<|.nt<|.rt<|.tR<|?_
  refine Sx.ret1 (.inl rfl) rfl (.tmp rfl) fun W s => ⟨retB ?_,s.ext⟩
  first
   | (rw [eqP_iff];exact ⟨fun h => (by cases h),fun h => absurd h hne⟩)
   | (rw [eqP_iff];exact ⟨fun _ => heq,fun _ => rfl⟩)
 try simp only [df] at h10
 have hlen : l.length = m.length := by omega
 refine .sk<|.tN<|.sq<|.sr<|.m Z Z<|.yv (.lenSl Fx.sl107 Z) Z<|.m Z Z<|.nt<|.bk<|.lp (X := Nat) [(0,_),(1,_),(12,_)] ⟨rfl,rfl,rfl,trivial⟩ [] (fun k => [(13,.int .i64 (k : Nat))]) (fun k => H) (fun k => []) (fun k => k ≤ l.length ∧ l.take k = m.take k) (fun k => l.length - k) 0 (fun _ s => s) ⟨rfl,trivial⟩ ⟨by omega,rfl⟩ fun k hC => ?_
 obtain ⟨hk0,hal⟩ := hC
 refine .sr<|.yv (.lss Z Z) Z<|.nt<|.sq<|.cd Z (fun h14 => ?_) (fun h14 => ?_)
 ·try simp only [dt] at h14
  have hk : k < l.length := by omega
  have hkm : k < m.length := by omega
  obtain ⟨bE,oE,cE,hpE,rE,lE,mE⟩ := hs.elem (map_at (f := (dVr .u8)) hk)
  cases hpE
  generalize hxE : l[k] = xE at rE
  obtain ⟨rfl,_⟩ := vr_open rE
  obtain ⟨bF,oF,cF,hpF,rF,lF,mF⟩ := ht.elem (map_at (f := (dVr .u8)) hkm)
  cases hpF
  generalize hxF : m[k] = xF at rF
  obtain ⟨rfl,_⟩ := vr_open rF
  refine .sk<|.tN<|.sq<|.bk<|.sr<|.m Z Z<|.a Z Z<|.nt<|.sq<|.fl (trip := [(_,_,_),(_,_,_),(_,_,_),(_,_,_),(_,_,_),(_,_,_),(_,_,_),(_,_,_)]) 8 [(0,0),(1,0),(2,0),(3,0),(4,0),(5,0),(6,0),(7,0)] (by kernel_rfl) (by kernel_rfl) Z<|.m Z Z<|.m Z Z<|.yv (.indexSl Fx.sl107 Z Z Z (by omega) (q := oE + k * 3) Z) Z<|.yv (.loadMW Z Fx.agg151 mE Z) Z<|.m Z Z<|.m Z Z<|.yv (.indexSl Fx.sl107 Z Z Z (by omega) (q := oF + k * 3) Z) Z<|.yv (.loadMW Z Fx.agg151 mF Z) Z<|.fn (tl := [_]) Z<|.yv (.neA Fx.eqt151 Z Z Z) Z<|.nt<|.cd Z (fun h24 => ?_) (fun h24 => ?_)
  ·try simp only [dt] at h24
   have hne : ¬ l = m := fun e => by
    subst e
    rw [hxE] at hxF
    subst hxF
    simp at h24
   refine .sr<|.a Z Z<|.nt<|.rt<|.bR<|.tR<|.tR<|.bR<|.tR<|?_
   refine Sx.ret1 (.inl rfl) rfl (.tmp rfl) fun W s => ⟨retB ?_,s.ext⟩
   first
    | (rw [eqP_iff];exact ⟨fun h => (by cases h),fun h => absurd h hne⟩)
    | (rw [eqP_iff];exact ⟨fun _ => heq,fun _ => rfl⟩)
  try simp only [df] at h24
  have heq : l[k] = m[k] := by
   rw [hxE,hxF]
   rw [vr_eq];have h9 := h24;simp [str_inj] at h9;exact ⟨h9.1,by omega,h9.2.2⟩
  exact .sk<|.bN<|.tN<|.rg<|.yv (.add Z Z (w6 (by omega))) Z<|.m Z Z<|.nt<|.ag (k + 1) ⟨rfl,trivial⟩ ⟨rfl,rfl,rfl,trivial⟩ (fun _ s => s) ⟨by omega,take_eq_succ hk hkm hal heq⟩ (by omega)
 try simp only [df] at h14
 have heq : l = m := by
  have e : k = l.length := by omega
  have e2 : k = m.length := by omega
  have h1 := hal
  rw [e,List.take_length,hlen,List.take_length] at h1
  exact h1
 refine .ex<|.tE<|.tE<|.bE<|.tN<|.sr<|.a Z Z<|.nt<|.rt<|?_
 refine Sx.ret1 (.inl rfl) rfl (.tmp rfl) fun W s => ⟨retB ?_,s.ext⟩
 first
  | (rw [eqP_iff];exact ⟨fun h => (by cases h),fun h => absurd h hne⟩)
  | (rw [eqP_iff];exact ⟨fun _ => heq,fun _ => rfl⟩)
set_option maxRecDepth 100000 in
theorem slEqS (H : Hp) (l m : List Str) (v u : Value) (hs : Rep H (.seq 1 (l.map dStr)) [v]) (ht : Rep H (.seq 1 (m.map dStr)) [u]) (w : World) (hA : Agr H w) :
 Calls Tryz.prog 123 #[v,u] w fun r w' => r = .returned (.bool (eqP (l = m))) ∧ Ext w w' := by
 obtain ⟨p,c,e,_⟩ := hs.sl
 simp only [List.cons.injEq,and_true,List.length_map] at e
 subst e
 obtain ⟨p2,c2,e,_⟩ := ht.sl
 simp only [List.cons.injEq,and_true,List.length_map] at e
 subst e
 have hcap := hs.cap
 have hcap2 := ht.cap
 refine Sx.enter (H := H) Tryz.func123 rfl Tryz.ntmps123 rfl hA ?_
 refine .sr<|.a Z Z<|.nt<|.sq<|.sr<|.m Z Z<|.yv (.lenSl Fx.sl52 Z) Z<|.m Z Z<|.yv (.lenSl Fx.sl52 Z) Z<|.yv (.neq Z Z) Z<|.nt<|.cd Z (fun h10 => ?_) (fun h10 => ?_)
 ·try simp only [dt] at h10
  have hne : ¬ l = m := fun e => by rw [e] at h10;exact h10 rfl
  refine .sr<|.a Z Z<|.nt<|.rt<|.tR<|?_
  refine Sx.ret1 (.inl rfl) rfl (.tmp rfl) fun W s => ⟨retB ?_,s.ext⟩
  first
   | (rw [eqP_iff];exact ⟨fun h => (by cases h),fun h => absurd h hne⟩)
   | (rw [eqP_iff];exact ⟨fun _ => heq,fun _ => rfl⟩)
 try simp only [df] at h10
 have hlen : l.length = m.length := by omega
 refine .sk<|.tN<|.sq<|.sr<|.m Z Z<|.yv (.lenSl Fx.sl52 Z) Z<|.m Z Z<|.nt<|.bk<|.lp (X := Nat) [(0,_),(1,_),(12,_)] ⟨rfl,rfl,rfl,trivial⟩ [] (fun k => [(13,.int .i64 (k : Nat))]) (fun k => H) (fun k => []) (fun k => k ≤ l.length ∧ l.take k = m.take k) (fun k => l.length - k) 0 (fun _ s => s) ⟨rfl,trivial⟩ ⟨by omega,rfl⟩ fun k hC => ?_
 obtain ⟨hk0,hal⟩ := hC
 refine .sr<|.yv (.lss Z Z) Z<|.nt<|.sq<|.cd Z (fun h14 => ?_) (fun h14 => ?_)
 ·try simp only [dt] at h14
  have hk : k < l.length := by omega
  have hkm : k < m.length := by omega
  obtain ⟨bE,oE,cE,hpE,rE,lE,mE⟩ := hs.elem (map_at (f := dStr) hk)
  cases hpE
  generalize hxE : l[k] = xE at rE
  obtain ⟨rfl,_⟩ := str_open rE
  obtain ⟨bF,oF,cF,hpF,rF,lF,mF⟩ := ht.elem (map_at (f := dStr) hkm)
  cases hpF
  generalize hxF : m[k] = xF at rF
  obtain ⟨rfl,_⟩ := str_open rF
  refine .sk<|.tN<|.sq<|.bk<|.sr<|.m Z Z<|.a Z Z<|.nt<|.sq<|.fl (trip := [(_,_,_),(_,_,_),(_,_,_),(_,_,_),(_,_,_),(_,_,_),(_,_,_),(_,_,_)]) 8 [(0,0),(1,0),(2,0),(3,0),(4,0),(5,0),(6,0),(7,0)] (by kernel_rfl) (by kernel_rfl) Z<|.m Z Z<|.m Z Z<|.yv (.indexSl Fx.sl52 Z Z Z (by omega) (q := oE + k * 1) Z) Z<|.yv (.loadM Z Fx.agg9 mE (k := 0) Z Z) Z<|.m Z Z<|.m Z Z<|.yv (.indexSl Fx.sl52 Z Z Z (by omega) (q := oF + k * 1) Z) Z<|.yv (.loadM Z Fx.agg9 mF (k := 0) Z Z) Z<|.fn (tl := [_]) Z<|.yv (.neS Z Z) Z<|.nt<|.cd Z (fun h24 => ?_) (fun h24 => ?_)
  ·try simp only [dt] at h24
   have hne : ¬ l = m := fun e => by
    subst e
    rw [hxE] at hxF
    subst hxF
    simp at h24
   refine .sr<|.a Z Z<|.nt<|.rt<|.bR<|.tR<|.tR<|.bR<|.tR<|?_
   refine Sx.ret1 (.inl rfl) rfl (.tmp rfl) fun W s => ⟨retB ?_,s.ext⟩
   first
    | (rw [eqP_iff];exact ⟨fun h => (by cases h),fun h => absurd h hne⟩)
    | (rw [eqP_iff];exact ⟨fun _ => heq,fun _ => rfl⟩)
  try simp only [df] at h24
  have heq : l[k] = m[k] := by
   rw [hxE,hxF]
   simpa using h24
  exact .sk<|.bN<|.tN<|.rg<|.yv (.add Z Z (w6 (by omega))) Z<|.m Z Z<|.nt<|.ag (k + 1) ⟨rfl,trivial⟩ ⟨rfl,rfl,rfl,trivial⟩ (fun _ s => s) ⟨by omega,take_eq_succ hk hkm hal heq⟩ (by omega)
 try simp only [df] at h14
 have heq : l = m := by
  have e : k = l.length := by omega
  have e2 : k = m.length := by omega
  have h1 := hal
  rw [e,List.take_length,hlen,List.take_length] at h1
  exact h1
 refine .ex<|.tE<|.tE<|.bE<|.tN<|.sr<|.a Z Z<|.nt<|.rt<|?_
 refine Sx.ret1 (.inl rfl) rfl (.tmp rfl) fun W s => ⟨retB ?_,s.ext⟩
 first
  | (rw [eqP_iff];exact ⟨fun h => (by cases h),fun h => absurd h hne⟩)
  | (rw [eqP_iff];exact ⟨fun _ => heq,fun _ => rfl⟩)
theorem hd_eq {a b : Hd} : a = b ↔ a.nm = b.nm ∧ a.ps = b.ps ∧ a.body = b.body := by cases a;cases b;simp
theorem cp_eq {a b : Cp} : a = b ↔ a.nm = b.nm ∧ a.vars = b.vars ∧ a.vers = b.vers := by cases a;cases b;simp
theorem ft_eq {a b : Ft} : a = b ↔ a.nm = b.nm ∧ a.flags = b.flags ∧ a.links = b.links ∧ a.comps = b.comps := by cases a;cases b;simp
set_option maxRecDepth 100000 in
theorem eqFuncS (H : Hp) (gf : FuncId) (hgf : callN Tryz.prog gf = true) (l m : List Sm) (hq : ∀ a ∈ l,∀ b,EqAt gf (dSm .u8) H a b) (v u : Value) (hs : Rep H (.seq 6 (l.map (dSm .u8))) [v]) (ht : Rep H (.seq 6 (m.map (dSm .u8))) [u]) (w : World) (hA : Agr H w) :
 Calls Tryz.prog 124 #[v,u,.func (.func gf) #[] #[]] w fun r w' => r = .returned (.bool (eqP (l = m))) ∧ Ext w w' := by
 obtain ⟨p,c,e,_⟩ := hs.sl
 simp only [List.cons.injEq,and_true,List.length_map] at e
 subst e
 obtain ⟨p2,c2,e,_⟩ := ht.sl
 simp only [List.cons.injEq,and_true,List.length_map] at e
 subst e
 have hcap := hs.cap
 have hcap2 := ht.cap
 refine Sx.enter (H := H) Tryz.func124 rfl Tryz.ntmps124 rfl hA ?_
 refine .sr<|.a Z Z<|.nt<|.sq<|.sr<|.m Z Z<|.yv (.lenSl Fx.sl159 Z) Z<|.m Z Z<|.yv (.lenSl Fx.sl159 Z) Z<|.yv (.neq Z Z) Z<|.nt<|.cd Z (fun h14 => ?_) (fun h14 => ?_)
 ·try simp only [dt] at h14
  have hne : ¬ l = m := fun e => by rw [e] at h14;exact h14 rfl
  refine .sr<|.a Z Z<|.nt<|.rt<|.tR<|?_
  refine Sx.ret1 (.inl rfl) rfl (.tmp rfl) fun W s => ⟨retB ?_,s.ext⟩
  first
   | (rw [eqP_iff];exact ⟨fun h => (by cases h),fun h => absurd h hne⟩)
   | (rw [eqP_iff];exact ⟨fun _ => heq,fun _ => rfl⟩)
 try simp only [df] at h14
 have hlen : l.length = m.length := by omega
 refine .sk<|.tN<|.sq<|.sr<|.m Z Z<|.yv (.lenSl Fx.sl159 Z) Z<|.m Z Z<|.nt<|.bk<|.lp (X := Nat) [(1,_),(2,_),(15,_),(16,_)] ⟨rfl,rfl,rfl,rfl,trivial⟩ [] (fun k => [(17,.int .i64 (k : Nat))]) (fun k => H) (fun k => []) (fun k => k ≤ l.length ∧ l.take k = m.take k) (fun k => l.length - k) 0 (fun _ s => s) ⟨rfl,trivial⟩ ⟨by omega,rfl⟩ fun k hC => ?_
 obtain ⟨hk0,hal⟩ := hC
 refine .sr<|.yv (.lss Z Z) Z<|.nt<|.sq<|.cd Z (fun h18 => ?_) (fun h18 => ?_)
 ·try simp only [dt] at h18
  have hk : k < l.length := by omega
  have hkm : k < m.length := by omega
  obtain ⟨bE,oE,cE,hpE,rE,lE,mE⟩ := hs.elem (map_at hk)
  cases hpE
  obtain ⟨bF,oF,cF,hpF,rF,lF,mF⟩ := ht.elem (map_at hkm)
  cases hpF
  refine .sk<|.tN<|.sq<|.bk<|.sr<|.m Z Z<|.yv (.indexSl Fx.sl159 Z Z Z (by omega) (q := oE + k * 6) Z) Z<|.yv (.loadMW Z Fx.agg208 mE lE) Z<|.al Fx.zero208 Z fun b8 => .a Z Z<|.sV .head Z Z Fx.size208 lE rE.one Z<|.ns<|.m Z Z<|.m Z Z<|.yv (.indexSl Fx.sl159 Z Z Z (by omega) (q := oF + k * 6) Z) Z<|.yv (.loadMW Z Fx.agg208 mF lF) Z<|.al Fx.zero208 Z fun b9 => .sV .head Z Z Fx.size208 lF rF.one Z<|.ns<|.m Z Z<|.yv (.loadW Z Fx.agg208 (.tail _<|.head _) lE) Z<|.yv (.loadW Z Fx.agg208 (.head _) lF) Z<|.yv (.callV (fi := []) (ca := []) Z hgf Z (fun W s => hq _ (List.getElem_mem hk) _ cE cF W rE rF s.agr)) Z<|.yv (.not Z) Z<|.nt<|.cd Z (fun h30 => ?_) (fun h30 => ?_)
  ·try simp only [dt] at h30
   have hne : ¬ l = m := fun e => by subst e;rw [eqP_iff.2 rfl] at h30;cases h30
   refine .sr<|.a Z Z<|.nt<|.rt<|.bR<|.tR<|.tR<|.bR<|.tR<|?_
   refine Sx.ret1 (.inl rfl) rfl (.tmp rfl) fun W s => ⟨retB ?_,s.ext⟩
   first
    | (rw [eqP_iff];exact ⟨fun h => (by cases h),fun h => absurd h hne⟩)
    | (rw [eqP_iff];exact ⟨fun _ => heq,fun _ => rfl⟩)
  try simp only [df] at h30
  have heq : l[k] = m[k] := eqP_iff.1 (by simpa using h30)
  exact .sk<|.bN<|.tN<|.rg<|.yv (.add Z Z (w6 (by omega))) Z<|.m Z Z<|.nt<|.ag (k + 1) ⟨rfl,trivial⟩ ⟨rfl,rfl,rfl,rfl,trivial⟩ (fun _ s => s.pick [] [] Z Z) ⟨by omega,take_eq_succ hk hkm hal heq⟩ (by omega)
 try simp only [df] at h18
 have heq : l = m := by
  have e : k = l.length := by omega
  have e2 : k = m.length := by omega
  have h1 := hal
  rw [e,List.take_length,hlen,List.take_length] at h1
  exact h1
 refine .ex<|.tE<|.tE<|.bE<|.tN<|.sr<|.a Z Z<|.nt<|.rt<|?_
 refine Sx.ret1 (.inl rfl) rfl (.tmp rfl) fun W s => ⟨retB ?_,s.ext⟩
 first
  | (rw [eqP_iff];exact ⟨fun h => (by cases h),fun h => absurd h hne⟩)
  | (rw [eqP_iff];exact ⟨fun _ => heq,fun _ => rfl⟩)
set_option maxRecDepth 100000 in
theorem equalStmt_any (H : Hp) (a : Sm) : ∀ b,EqAt 125 (dSm .u8) H a b := by
 induction a using Sm.ind with | _ kd nm hd ex th el ih1 ih2
 intro b ca cb w ha hb hA
 obtain ⟨kd2,nm2,hd2,ex2,th2,el2⟩ := b
 obtain ⟨p,c,p1,c1,p2,c2,rfl,k1,k2,k3,_,_⟩ := sm_open ha
 obtain ⟨q,d,q1,d1,q2,d2,rfl,g1,g2,g3,_,_⟩ := sm_open hb
 refine Sx.enter (H := H) Tryz.func125 rfl Tryz.ntmps125 rfl hA ?_
 refine .sr<|.bx Z Z Z fun b2 => .bx Z Z Z fun b3 => .a Z Z<|.ns<|.yv (.fieldAddr Z Fx.field208_0) Z<|.yv (.load Z Fx.agg206 (.tail _<|.head _) Z) Z<|.yv (.fieldAddr Z Fx.field208_0) Z<|.yv (.load Z Fx.agg206 (.head _) Z) Z<|.yv (.eql Z Z) Z<|.m Z Z<|.b2 (fun h10 => ?_) (fun h10 => ?_)
 ·try simp only [dt] at h10
  have e1 := UInt8.toNat_inj.1 (by omega : kd.toNat = kd2.toNat)
  refine .gd Z Z<|.yv (.fieldAddr Z Fx.field208_1) Z<|.gd Z Z<|.yv (.load Z Fx.agg9 (.tail _<|.head _) Z) Z<|.gd Z Z<|.yv (.fieldAddr Z Fx.field208_1) Z<|.gd Z Z<|.yv (.load Z Fx.agg9 (.head _) Z) Z<|.gd Z Z<|.yv (.eqS Z Z) Z<|.yv (.pickT Z Z) Z<|.m Z Z<|.b2 (fun h17 => ?_) (fun h17 => ?_)
  ·try simp only [dt] at h17
   have e2 := (id h17 : nm = nm2)
   refine .gd Z Z<|.yv (.fieldAddr Z Fx.field208_2) Z<|.gd Z Z<|.yv (.load Z Fx.agg9 (.tail _<|.head _) Z) Z<|.gd Z Z<|.yv (.fieldAddr Z Fx.field208_2) Z<|.gd Z Z<|.yv (.load Z Fx.agg9 (.head _) Z) Z<|.gd Z Z<|.yv (.eqS Z Z) Z<|.yv (.pickT Z Z) Z<|.m Z Z<|.b2 (fun h24 => ?_) (fun h24 => ?_)
   ·try simp only [dt] at h24
    have e3 := (id h24 : hd = hd2)
    refine .gd Z Z<|.yv (.fieldAddr Z Fx.field208_3) Z<|.gd Z Z<|.yv (.load Z Fx.agg25 (.tail _<|.head _) Z) Z<|.gd Z Z<|.yv (.fieldAddr Z Fx.field208_3) Z<|.gd Z Z<|.yv (.load Z Fx.agg25 (.head _) Z) Z<|.gd Z Z<|.yv (.call Fx.call28 Z (fun W s => eqFuncE H 13 Fx.call13 ex ex2 (fun a _ => equalExpr_any H a) _ _ k1 g1 W s.agr)) Z<|.yv (.pickT Z Z) Z<|.m Z Z<|.b2 (fun h31 => ?_) (fun h31 => ?_)
    ·try simp only [dt] at h31
     have e4 := eqP_iff.1 h31
     refine .gd Z Z<|.yv (.fieldAddr Z Fx.field208_4) Z<|.gd Z Z<|.yv (.load Z Fx.agg159 (.tail _<|.head _) Z) Z<|.gd Z Z<|.yv (.fieldAddr Z Fx.field208_4) Z<|.gd Z Z<|.yv (.load Z Fx.agg159 (.head _) Z) Z<|.gd Z Z<|.yv (.call Fx.call124 Z (fun W s => eqFuncS H 125 Fx.call125 th th2 ih1 _ _ k2 g2 W s.agr)) Z<|.yv (.pickT Z Z) Z<|.m Z Z<|.b2 (fun h38 => ?_) (fun h38 => ?_)
     ·try simp only [dt] at h38
      have e5 := eqP_iff.1 h38
      refine .gd Z Z<|.yv (.fieldAddr Z Fx.field208_5) Z<|.gd Z Z<|.yv (.load Z Fx.agg159 (.tail _<|.head _) Z) Z<|.gd Z Z<|.yv (.fieldAddr Z Fx.field208_5) Z<|.gd Z Z<|.yv (.load Z Fx.agg159 (.head _) Z) Z<|.gd Z Z<|.yv (.call Fx.call124 Z (fun W s => eqFuncS H 125 Fx.call125 el el2 ih2 _ _ k3 g3 W s.agr)) Z<|.yv (.pickT Z Z) Z<|.a Z Z<|.nt<|.rt<|?_
      refine Sx.ret1 (.inl rfl) rfl (.tmp rfl) fun W s => ⟨retB ?_,s.ext⟩
      first
       | (rw [eqP_iff,eqP_iff,Sm.mk.injEq];exact ⟨fun d => ⟨e1,e2,e3,e4,e5,d⟩,fun h => h.2.2.2.2.2⟩)
       | (rw [eqP_iff,Sm.mk.injEq];exact ⟨fun h => (by cases h),fun h => absurd h.1 e1⟩)
       | (rw [eqP_iff,Sm.mk.injEq];exact ⟨fun h => (by cases h),fun h => absurd h.2.1 e2⟩)
       | (rw [eqP_iff,Sm.mk.injEq];exact ⟨fun h => (by cases h),fun h => absurd h.2.2.1 e3⟩)
       | (rw [eqP_iff,Sm.mk.injEq];exact ⟨fun h => (by cases h),fun h => absurd h.2.2.2.1 e4⟩)
       | (rw [eqP_iff,Sm.mk.injEq];exact ⟨fun h => (by cases h),fun h => absurd h.2.2.2.2.1 e5⟩)
     try simp only [df] at h38
     have e5 := eqP_false.1 h38
     refine .gF Z Z Z Z<|.gF Z Z Z Z<|.gF Z Z Z Z<|.gF Z Z Z Z<|.gF Z Z Z Z<|.yv (.pickF Z Z) Z<|.a Z Z<|.nt<|.rt<|?_
     refine Sx.ret1 (.inl rfl) rfl (.tmp rfl) fun W s => ⟨retB ?_,s.ext⟩
     first
      | (rw [eqP_iff,eqP_iff,Sm.mk.injEq];exact ⟨fun d => ⟨e1,e2,e3,e4,e5,d⟩,fun h => h.2.2.2.2.2⟩)
      | (rw [eqP_iff,Sm.mk.injEq];exact ⟨fun h => (by cases h),fun h => absurd h.1 e1⟩)
      | (rw [eqP_iff,Sm.mk.injEq];exact ⟨fun h => (by cases h),fun h => absurd h.2.1 e2⟩)
      | (rw [eqP_iff,Sm.mk.injEq];exact ⟨fun h => (by cases h),fun h => absurd h.2.2.1 e3⟩)
      | (rw [eqP_iff,Sm.mk.injEq];exact ⟨fun h => (by cases h),fun h => absurd h.2.2.2.1 e4⟩)
      | (rw [eqP_iff,Sm.mk.injEq];exact ⟨fun h => (by cases h),fun h => absurd h.2.2.2.2.1 e5⟩)
    try simp only [df] at h31
    have e4 := eqP_false.1 h31
    refine .gF Z Z Z Z<|.gF Z Z Z Z<|.gF Z Z Z Z<|.gF Z Z Z Z<|.gF Z Z Z Z<|.yv (.pickF Z Z) Z<|.m Z Z<|.gF Z Z Z Z<|.gF Z Z Z Z<|.gF Z Z Z Z<|.gF Z Z Z Z<|.gF Z Z Z Z<|.yv (.pickF Z Z) Z<|.a Z Z<|.nt<|.rt<|?_
    refine Sx.ret1 (.inl rfl) rfl (.tmp rfl) fun W s => ⟨retB ?_,s.ext⟩
    first
     | (rw [eqP_iff,eqP_iff,Sm.mk.injEq];exact ⟨fun d => ⟨e1,e2,e3,e4,e5,d⟩,fun h => h.2.2.2.2.2⟩)
     | (rw [eqP_iff,Sm.mk.injEq];exact ⟨fun h => (by cases h),fun h => absurd h.1 e1⟩)
     | (rw [eqP_iff,Sm.mk.injEq];exact ⟨fun h => (by cases h),fun h => absurd h.2.1 e2⟩)
     | (rw [eqP_iff,Sm.mk.injEq];exact ⟨fun h => (by cases h),fun h => absurd h.2.2.1 e3⟩)
     | (rw [eqP_iff,Sm.mk.injEq];exact ⟨fun h => (by cases h),fun h => absurd h.2.2.2.1 e4⟩)
     | (rw [eqP_iff,Sm.mk.injEq];exact ⟨fun h => (by cases h),fun h => absurd h.2.2.2.2.1 e5⟩)
   try simp only [df] at h24
   have e3 := (id h24 : ¬ hd = hd2)
   refine .gF Z Z Z Z<|.gF Z Z Z Z<|.gF Z Z Z Z<|.gF Z Z Z Z<|.gF Z Z Z Z<|.yv (.pickF Z Z) Z<|.m Z Z<|.gF Z Z Z Z<|.gF Z Z Z Z<|.gF Z Z Z Z<|.gF Z Z Z Z<|.gF Z Z Z Z<|.yv (.pickF Z Z) Z<|.m Z Z<|.gF Z Z Z Z<|.gF Z Z Z Z<|.gF Z Z Z Z<|.gF Z Z Z Z<|.gF Z Z Z Z<|.yv (.pickF Z Z) Z<|.a Z Z<|.nt<|.rt<|?_
   refine Sx.ret1 (.inl rfl) rfl (.tmp rfl) fun W s => ⟨retB ?_,s.ext⟩
   first
    | (rw [eqP_iff,eqP_iff,Sm.mk.injEq];exact ⟨fun d => ⟨e1,e2,e3,e4,e5,d⟩,fun h => h.2.2.2.2.2⟩)
    | (rw [eqP_iff,Sm.mk.injEq];exact ⟨fun h => (by cases h),fun h => absurd h.1 e1⟩)
    | (rw [eqP_iff,Sm.mk.injEq];exact ⟨fun h => (by cases h),fun h => absurd h.2.1 e2⟩)
    | (rw [eqP_iff,Sm.mk.injEq];exact ⟨fun h => (by cases h),fun h => absurd h.2.2.1 e3⟩)
    | (rw [eqP_iff,Sm.mk.injEq];exact ⟨fun h => (by cases h),fun h => absurd h.2.2.2.1 e4⟩)
    | (rw [eqP_iff,Sm.mk.injEq];exact ⟨fun h => (by cases h),fun h => absurd h.2.2.2.2.1 e5⟩)
  try simp only [df] at h17
  have e2 := (id h17 : ¬ nm = nm2)
  refine .gF Z Z Z Z<|.gF Z Z Z Z<|.gF Z Z Z Z<|.gF Z Z Z Z<|.gF Z Z Z Z<|.yv (.pickF Z Z) Z<|.m Z Z<|.gF Z Z Z Z<|.gF Z Z Z Z<|.gF Z Z Z Z<|.gF Z Z Z Z<|.gF Z Z Z Z<|.yv (.pickF Z Z) Z<|.m Z Z<|.gF Z Z Z Z<|.gF Z Z Z Z<|.gF Z Z Z Z<|.gF Z Z Z Z<|.gF Z Z Z Z<|.yv (.pickF Z Z) Z<|.m Z Z<|.gF Z Z Z Z<|.gF Z Z Z Z<|.gF Z Z Z Z<|.gF Z Z Z Z<|.gF Z Z Z Z<|.yv (.pickF Z Z) Z<|.a Z Z<|.nt<|.rt<|?_
  refine Sx.ret1 (.inl rfl) rfl (.tmp rfl) fun W s => ⟨retB ?_,s.ext⟩
  first
   | (rw [eqP_iff,eqP_iff,Sm.mk.injEq];exact ⟨fun d => ⟨e1,e2,e3,e4,e5,d⟩,fun h => h.2.2.2.2.2⟩)
   | (rw [eqP_iff,Sm.mk.injEq];exact ⟨fun h => (by cases h),fun h => absurd h.1 e1⟩)
   | (rw [eqP_iff,Sm.mk.injEq];exact ⟨fun h => (by cases h),fun h => absurd h.2.1 e2⟩)
   | (rw [eqP_iff,Sm.mk.injEq];exact ⟨fun h => (by cases h),fun h => absurd h.2.2.1 e3⟩)
   | (rw [eqP_iff,Sm.mk.injEq];exact ⟨fun h => (by cases h),fun h => absurd h.2.2.2.1 e4⟩)
   | (rw [eqP_iff,Sm.mk.injEq];exact ⟨fun h => (by cases h),fun h => absurd h.2.2.2.2.1 e5⟩)
 try simp only [df] at h10
 have e1 := (fun e => h10 (by rw [e]) : ¬ kd = kd2)
 refine .gF Z Z Z Z<|.gF Z Z Z Z<|.gF Z Z Z Z<|.gF Z Z Z Z<|.gF Z Z Z Z<|.yv (.pickF Z Z) Z<|.m Z Z<|.gF Z Z Z Z<|.gF Z Z Z Z<|.gF Z Z Z Z<|.gF Z Z Z Z<|.gF Z Z Z Z<|.yv (.pickF Z Z) Z<|.m Z Z<|.gF Z Z Z Z<|.gF Z Z Z Z<|.gF Z Z Z Z<|.gF Z Z Z Z<|.gF Z Z Z Z<|.yv (.pickF Z Z) Z<|.m Z Z<|.gF Z Z Z Z<|.gF Z Z Z Z<|.gF Z Z Z Z<|.gF Z Z Z Z<|.gF Z Z Z Z<|.yv (.pickF Z Z) Z<|.m Z Z<|.gF Z Z Z Z<|.gF Z Z Z Z<|.gF Z Z Z Z<|.gF Z Z Z Z<|.gF Z Z Z Z<|.yv (.pickF Z Z) Z<|.a Z Z<|.nt<|.rt<|?_
 refine Sx.ret1 (.inl rfl) rfl (.tmp rfl) fun W s => ⟨retB ?_,s.ext⟩
 first
  | (rw [eqP_iff,eqP_iff,Sm.mk.injEq];exact ⟨fun d => ⟨e1,e2,e3,e4,e5,d⟩,fun h => h.2.2.2.2.2⟩)
  | (rw [eqP_iff,Sm.mk.injEq];exact ⟨fun h => (by cases h),fun h => absurd h.1 e1⟩)
  | (rw [eqP_iff,Sm.mk.injEq];exact ⟨fun h => (by cases h),fun h => absurd h.2.1 e2⟩)
  | (rw [eqP_iff,Sm.mk.injEq];exact ⟨fun h => (by cases h),fun h => absurd h.2.2.1 e3⟩)
  | (rw [eqP_iff,Sm.mk.injEq];exact ⟨fun h => (by cases h),fun h => absurd h.2.2.2.1 e4⟩)
  | (rw [eqP_iff,Sm.mk.injEq];exact ⟨fun h => (by cases h),fun h => absurd h.2.2.2.2.1 e5⟩)
set_option maxRecDepth 100000 in
theorem eqFuncH (H : Hp) (gf : FuncId) (hgf : callN Tryz.prog gf = true) (l m : List Hd) (hq : ∀ a ∈ l,∀ b,EqAt gf (dHd .u8) H a b) (v u : Value) (hs : Rep H (.seq 3 (l.map (dHd .u8))) [v]) (ht : Rep H (.seq 3 (m.map (dHd .u8))) [u]) (w : World) (hA : Agr H w) :
 Calls Tryz.prog 81 #[v,u,.func (.func gf) #[] #[]] w fun r w' => r = .returned (.bool (eqP (l = m))) ∧ Ext w w' := by
 obtain ⟨p,c,e,_⟩ := hs.sl
 simp only [List.cons.injEq,and_true,List.length_map] at e
 subst e
 obtain ⟨p2,c2,e,_⟩ := ht.sl
 simp only [List.cons.injEq,and_true,List.length_map] at e
 subst e
 have hcap := hs.cap
 have hcap2 := ht.cap
 refine Sx.enter (H := H) Tryz.func81 rfl Tryz.ntmps81 rfl hA ?_
 refine .sr<|.a Z Z<|.nt<|.sq<|.sr<|.m Z Z<|.yv (.lenSl Fx.sl153 Z) Z<|.m Z Z<|.yv (.lenSl Fx.sl153 Z) Z<|.yv (.neq Z Z) Z<|.nt<|.cd Z (fun h14 => ?_) (fun h14 => ?_)
 ·try simp only [dt] at h14
  have hne : ¬ l = m := fun e => by rw [e] at h14;exact h14 rfl
  refine .sr<|.a Z Z<|.nt<|.rt<|.tR<|?_
  refine Sx.ret1 (.inl rfl) rfl (.tmp rfl) fun W s => ⟨retB ?_,s.ext⟩
  first
   | (rw [eqP_iff];exact ⟨fun h => (by cases h),fun h => absurd h hne⟩)
   | (rw [eqP_iff];exact ⟨fun _ => heq,fun _ => rfl⟩)
 try simp only [df] at h14
 have hlen : l.length = m.length := by omega
 refine .sk<|.tN<|.sq<|.sr<|.m Z Z<|.yv (.lenSl Fx.sl153 Z) Z<|.m Z Z<|.nt<|.bk<|.lp (X := Nat) [(1,_),(2,_),(15,_),(16,_)] ⟨rfl,rfl,rfl,rfl,trivial⟩ [] (fun k => [(17,.int .i64 (k : Nat))]) (fun k => H) (fun k => []) (fun k => k ≤ l.length ∧ l.take k = m.take k) (fun k => l.length - k) 0 (fun _ s => s) ⟨rfl,trivial⟩ ⟨by omega,rfl⟩ fun k hC => ?_
 obtain ⟨hk0,hal⟩ := hC
 refine .sr<|.yv (.lss Z Z) Z<|.nt<|.sq<|.cd Z (fun h18 => ?_) (fun h18 => ?_)
 ·try simp only [dt] at h18
  have hk : k < l.length := by omega
  have hkm : k < m.length := by omega
  obtain ⟨bE,oE,cE,hpE,rE,lE,mE⟩ := hs.elem (map_at hk)
  cases hpE
  obtain ⟨bF,oF,cF,hpF,rF,lF,mF⟩ := ht.elem (map_at hkm)
  cases hpF
  refine .sk<|.tN<|.sq<|.bk<|.sr<|.m Z Z<|.yv (.indexSl Fx.sl153 Z Z Z (by omega) (q := oE + k * 3) Z) Z<|.yv (.loadMW Z Fx.agg162 mE lE) Z<|.al Fx.zero162 Z fun b8 => .a Z Z<|.sV .head Z Z Fx.size162 lE rE.one Z<|.ns<|.m Z Z<|.m Z Z<|.yv (.indexSl Fx.sl153 Z Z Z (by omega) (q := oF + k * 3) Z) Z<|.yv (.loadMW Z Fx.agg162 mF lF) Z<|.al Fx.zero162 Z fun b9 => .sV .head Z Z Fx.size162 lF rF.one Z<|.ns<|.m Z Z<|.yv (.loadW Z Fx.agg162 (.tail _<|.head _) lE) Z<|.yv (.loadW Z Fx.agg162 (.head _) lF) Z<|.yv (.callV (fi := []) (ca := []) Z hgf Z (fun W s => hq _ (List.getElem_mem hk) _ cE cF W rE rF s.agr)) Z<|.yv (.not Z) Z<|.nt<|.cd Z (fun h30 => ?_) (fun h30 => ?_)
  ·try simp only [dt] at h30
   have hne : ¬ l = m := fun e => by subst e;rw [eqP_iff.2 rfl] at h30;cases h30
   refine .sr<|.a Z Z<|.nt<|.rt<|.bR<|.tR<|.tR<|.bR<|.tR<|?_
   refine Sx.ret1 (.inl rfl) rfl (.tmp rfl) fun W s => ⟨retB ?_,s.ext⟩
   first
    | (rw [eqP_iff];exact ⟨fun h => (by cases h),fun h => absurd h hne⟩)
    | (rw [eqP_iff];exact ⟨fun _ => heq,fun _ => rfl⟩)
  try simp only [df] at h30
  have heq : l[k] = m[k] := eqP_iff.1 (by simpa using h30)
  exact .sk<|.bN<|.tN<|.rg<|.yv (.add Z Z (w6 (by omega))) Z<|.m Z Z<|.nt<|.ag (k + 1) ⟨rfl,trivial⟩ ⟨rfl,rfl,rfl,rfl,trivial⟩ (fun _ s => s.pick [] [] Z Z) ⟨by omega,take_eq_succ hk hkm hal heq⟩ (by omega)
 try simp only [df] at h18
 have heq : l = m := by
  have e : k = l.length := by omega
  have e2 : k = m.length := by omega
  have h1 := hal
  rw [e,List.take_length,hlen,List.take_length] at h1
  exact h1
 refine .ex<|.tE<|.tE<|.bE<|.tN<|.sr<|.a Z Z<|.nt<|.rt<|?_
 refine Sx.ret1 (.inl rfl) rfl (.tmp rfl) fun W s => ⟨retB ?_,s.ext⟩
 first
  | (rw [eqP_iff];exact ⟨fun h => (by cases h),fun h => absurd h hne⟩)
  | (rw [eqP_iff];exact ⟨fun _ => heq,fun _ => rfl⟩)
set_option maxRecDepth 100000 in
theorem equalHandler_any (H : Hp) (a b : Hd) : EqAt 82 (dHd .u8) H a b := by
 intro ca cb w ha hb hA
 obtain ⟨p1,c1,p2,c2,rfl,_,k1,k2⟩ := hd_open ha
 obtain ⟨q1,d1,q2,d2,rfl,_,g1,g2⟩ := hd_open hb
 refine Sx.enter (H := H) Tryz.func82 rfl Tryz.ntmps82 rfl hA ?_
 refine .sr<|.bx Z Z Z fun b2 => .bx Z Z Z fun b3 => .a Z Z<|.ns<|.yv (.fieldAddr Z Fx.field162_0) Z<|.yv (.load Z Fx.agg9 (.tail _<|.head _) Z) Z<|.yv (.fieldAddr Z Fx.field162_0) Z<|.yv (.load Z Fx.agg9 (.head _) Z) Z<|.yv (.eqS Z Z) Z<|.m Z Z<|.b2 (fun h10 => ?_) (fun h10 => ?_)
 ·try simp only [dt] at h10
  have e1 := (id h10 : a.nm = b.nm)
  refine .gd Z Z<|.yv (.fieldAddr Z Fx.field162_1) Z<|.gd Z Z<|.yv (.load Z Fx.agg52 (.tail _<|.head _) Z) Z<|.gd Z Z<|.yv (.fieldAddr Z Fx.field162_1) Z<|.gd Z Z<|.yv (.load Z Fx.agg52 (.head _) Z) Z<|.gd Z Z<|.yv (.call Fx.call123 Z (fun W s => slEqS H a.ps b.ps _ _ k1 g1 W s.agr)) Z<|.yv (.pickT Z Z) Z<|.m Z Z<|.b2 (fun h17 => ?_) (fun h17 => ?_)
  ·try simp only [dt] at h17
   have e2 := eqP_iff.1 h17
   refine .gd Z Z<|.yv (.fieldAddr Z Fx.field162_2) Z<|.gd Z Z<|.yv (.load Z Fx.agg159 (.tail _<|.head _) Z) Z<|.gd Z Z<|.yv (.fieldAddr Z Fx.field162_2) Z<|.gd Z Z<|.yv (.load Z Fx.agg159 (.head _) Z) Z<|.gd Z Z<|.yv (.call Fx.call124 Z (fun W s => eqFuncS H 125 Fx.call125 a.body b.body (fun x _ => equalStmt_any H x) _ _ k2 g2 W s.agr)) Z<|.yv (.pickT Z Z) Z<|.a Z Z<|.nt<|.rt<|?_
   refine Sx.ret1 (.inl rfl) rfl (.tmp rfl) fun W s => ⟨retB ?_,s.ext⟩
   first
    | (rw [eqP_iff,eqP_iff,hd_eq];exact ⟨fun d => ⟨e1,e2,d⟩,fun h => h.2.2⟩)
    | (rw [eqP_iff,hd_eq];exact ⟨fun h => (by cases h),fun h => absurd h.1 e1⟩)
    | (rw [eqP_iff,hd_eq];exact ⟨fun h => (by cases h),fun h => absurd h.2.1 e2⟩)
  try simp only [df] at h17
  have e2 := eqP_false.1 h17
  refine .gF Z Z Z Z<|.gF Z Z Z Z<|.gF Z Z Z Z<|.gF Z Z Z Z<|.gF Z Z Z Z<|.yv (.pickF Z Z) Z<|.a Z Z<|.nt<|.rt<|?_
  refine Sx.ret1 (.inl rfl) rfl (.tmp rfl) fun W s => ⟨retB ?_,s.ext⟩
  first
   | (rw [eqP_iff,eqP_iff,hd_eq];exact ⟨fun d => ⟨e1,e2,d⟩,fun h => h.2.2⟩)
   | (rw [eqP_iff,hd_eq];exact ⟨fun h => (by cases h),fun h => absurd h.1 e1⟩)
   | (rw [eqP_iff,hd_eq];exact ⟨fun h => (by cases h),fun h => absurd h.2.1 e2⟩)
 try simp only [df] at h10
 have e1 := (id h10 : ¬ a.nm = b.nm)
 refine .gF Z Z Z Z<|.gF Z Z Z Z<|.gF Z Z Z Z<|.gF Z Z Z Z<|.gF Z Z Z Z<|.yv (.pickF Z Z) Z<|.m Z Z<|.gF Z Z Z Z<|.gF Z Z Z Z<|.gF Z Z Z Z<|.gF Z Z Z Z<|.gF Z Z Z Z<|.yv (.pickF Z Z) Z<|.a Z Z<|.nt<|.rt<|?_
 refine Sx.ret1 (.inl rfl) rfl (.tmp rfl) fun W s => ⟨retB ?_,s.ext⟩
 first
  | (rw [eqP_iff,eqP_iff,hd_eq];exact ⟨fun d => ⟨e1,e2,d⟩,fun h => h.2.2⟩)
  | (rw [eqP_iff,hd_eq];exact ⟨fun h => (by cases h),fun h => absurd h.1 e1⟩)
  | (rw [eqP_iff,hd_eq];exact ⟨fun h => (by cases h),fun h => absurd h.2.1 e2⟩)
set_option maxRecDepth 100000 in
theorem eqFuncV (H : Hp) (gf : FuncId) (hgf : callN Tryz.prog gf = true) (l m : List (List Hd)) (hq : ∀ a ∈ l,∀ b,EqAt gf (dVs .u8) H a b) (v u : Value) (hs : Rep H (.seq 1 (l.map (dVs .u8))) [v]) (ht : Rep H (.seq 1 (m.map (dVs .u8))) [u]) (w : World) (hA : Agr H w) :
 Calls Tryz.prog 79 #[v,u,.func (.func gf) #[] #[]] w fun r w' => r = .returned (.bool (eqP (l = m))) ∧ Ext w w' := by
 obtain ⟨p,c,e,_⟩ := hs.sl
 simp only [List.cons.injEq,and_true,List.length_map] at e
 subst e
 obtain ⟨p2,c2,e,_⟩ := ht.sl
 simp only [List.cons.injEq,and_true,List.length_map] at e
 subst e
 have hcap := hs.cap
 have hcap2 := ht.cap
 refine Sx.enter (H := H) Tryz.func79 rfl Tryz.ntmps79 rfl hA ?_
 refine .sr<|.a Z Z<|.nt<|.sq<|.sr<|.m Z Z<|.yv (.lenSl Fx.sl108 Z) Z<|.m Z Z<|.yv (.lenSl Fx.sl108 Z) Z<|.yv (.neq Z Z) Z<|.nt<|.cd Z (fun h14 => ?_) (fun h14 => ?_)
 ·try simp only [dt] at h14
  have hne : ¬ l = m := fun e => by rw [e] at h14;exact h14 rfl
  refine .sr<|.a Z Z<|.nt<|.rt<|.tR<|?_
  refine Sx.ret1 (.inl rfl) rfl (.tmp rfl) fun W s => ⟨retB ?_,s.ext⟩
  first
   | (rw [eqP_iff];exact ⟨fun h => (by cases h),fun h => absurd h hne⟩)
   | (rw [eqP_iff];exact ⟨fun _ => heq,fun _ => rfl⟩)
 try simp only [df] at h14
 have hlen : l.length = m.length := by omega
 refine .sk<|.tN<|.sq<|.sr<|.m Z Z<|.yv (.lenSl Fx.sl108 Z) Z<|.m Z Z<|.nt<|.bk<|.lp (X := Nat) [(1,_),(2,_),(15,_),(16,_)] ⟨rfl,rfl,rfl,rfl,trivial⟩ [] (fun k => [(17,.int .i64 (k : Nat))]) (fun k => H) (fun k => []) (fun k => k ≤ l.length ∧ l.take k = m.take k) (fun k => l.length - k) 0 (fun _ s => s) ⟨rfl,trivial⟩ ⟨by omega,rfl⟩ fun k hC => ?_
 obtain ⟨hk0,hal⟩ := hC
 refine .sr<|.yv (.lss Z Z) Z<|.nt<|.sq<|.cd Z (fun h18 => ?_) (fun h18 => ?_)
 ·try simp only [dt] at h18
  have hk : k < l.length := by omega
  have hkm : k < m.length := by omega
  obtain ⟨bE,oE,cE,hpE,rE,lE,mE⟩ := hs.elem (map_at hk)
  cases hpE
  obtain ⟨bF,oF,cF,hpF,rF,lF,mF⟩ := ht.elem (map_at hkm)
  cases hpF
  refine .sk<|.tN<|.sq<|.bk<|.sr<|.m Z Z<|.yv (.indexSl Fx.sl108 Z Z Z (by omega) (q := oE + k * 1) Z) Z<|.yv (.loadMW Z Fx.agg155 mE lE) Z<|.al Fx.zero155 Z fun b8 => .a Z Z<|.sV .head Z Z Fx.size155 lE rE.one Z<|.ns<|.m Z Z<|.m Z Z<|.yv (.indexSl Fx.sl108 Z Z Z (by omega) (q := oF + k * 1) Z) Z<|.yv (.loadMW Z Fx.agg155 mF lF) Z<|.al Fx.zero155 Z fun b9 => .sV .head Z Z Fx.size155 lF rF.one Z<|.ns<|.m Z Z<|.yv (.loadW Z Fx.agg155 (.tail _<|.head _) lE) Z<|.yv (.loadW Z Fx.agg155 (.head _) lF) Z<|.yv (.callV (fi := []) (ca := []) Z hgf Z (fun W s => hq _ (List.getElem_mem hk) _ cE cF W rE rF s.agr)) Z<|.yv (.not Z) Z<|.nt<|.cd Z (fun h30 => ?_) (fun h30 => ?_)
  ·try simp only [dt] at h30
   have hne : ¬ l = m := fun e => by subst e;rw [eqP_iff.2 rfl] at h30;cases h30
   refine .sr<|.a Z Z<|.nt<|.rt<|.bR<|.tR<|.tR<|.bR<|.tR<|?_
   refine Sx.ret1 (.inl rfl) rfl (.tmp rfl) fun W s => ⟨retB ?_,s.ext⟩
   first
    | (rw [eqP_iff];exact ⟨fun h => (by cases h),fun h => absurd h hne⟩)
    | (rw [eqP_iff];exact ⟨fun _ => heq,fun _ => rfl⟩)
  try simp only [df] at h30
  have heq : l[k] = m[k] := eqP_iff.1 (by simpa using h30)
  exact .sk<|.bN<|.tN<|.rg<|.yv (.add Z Z (w6 (by omega))) Z<|.m Z Z<|.nt<|.ag (k + 1) ⟨rfl,trivial⟩ ⟨rfl,rfl,rfl,rfl,trivial⟩ (fun _ s => s.pick [] [] Z Z) ⟨by omega,take_eq_succ hk hkm hal heq⟩ (by omega)
 try simp only [df] at h18
 have heq : l = m := by
  have e : k = l.length := by omega
  have e2 : k = m.length := by omega
  have h1 := hal
  rw [e,List.take_length,hlen,List.take_length] at h1
  exact h1
 refine .ex<|.tE<|.tE<|.bE<|.tN<|.sr<|.a Z Z<|.nt<|.rt<|?_
 refine Sx.ret1 (.inl rfl) rfl (.tmp rfl) fun W s => ⟨retB ?_,s.ext⟩
 first
  | (rw [eqP_iff];exact ⟨fun h => (by cases h),fun h => absurd h hne⟩)
  | (rw [eqP_iff];exact ⟨fun _ => heq,fun _ => rfl⟩)
set_option maxRecDepth 100000 in
theorem equalVersion_any (H : Hp) (a b : List Hd) : EqAt 80 (dVs .u8) H a b := by
 intro ca cb w ha hb hA
 obtain ⟨p1,c1,rfl,k1⟩ := vs_open ha
 obtain ⟨q1,d1,rfl,g1⟩ := vs_open hb
 refine Sx.enter (H := H) Tryz.func80 rfl Tryz.ntmps80 rfl hA ?_
 refine .sr<|.bx Z Z Z fun b2 => .bx Z Z Z fun b3 => .a Z Z<|.ns<|.yv (.fieldAddr Z Fx.field155_0) Z<|.yv (.load Z Fx.agg153 (.tail _<|.head _) Z) Z<|.yv (.fieldAddr Z Fx.field155_0) Z<|.yv (.load Z Fx.agg153 (.head _) Z) Z<|.yv (.call Fx.call81 Z (fun W s => eqFuncH H 82 Fx.call82 a b (fun x _ => equalHandler_any H x) _ _ k1 g1 W s.agr)) Z<|.a Z Z<|.nt<|.rt<|?_
 exact Sx.ret1 (.inl rfl) rfl (.tmp rfl) fun W s => ⟨rfl,s.ext⟩
set_option maxRecDepth 100000 in
theorem equalComponent_any (H : Hp) (a b : Cp) : EqAt 42 (dCp .u8) H a b := by
 intro ca cb w ha hb hA
 obtain ⟨p1,c1,p2,c2,rfl,_,k1,k2⟩ := cp_open ha
 obtain ⟨q1,d1,q2,d2,rfl,_,g1,g2⟩ := cp_open hb
 refine Sx.enter (H := H) Tryz.func42 rfl Tryz.ntmps42 rfl hA ?_
 refine .sr<|.bx Z Z Z fun b2 => .bx Z Z Z fun b3 => .a Z Z<|.ns<|.yv (.fieldAddr Z Fx.field110_0) Z<|.yv (.load Z Fx.agg9 (.tail _<|.head _) Z) Z<|.yv (.fieldAddr Z Fx.field110_0) Z<|.yv (.load Z Fx.agg9 (.head _) Z) Z<|.yv (.eqS Z Z) Z<|.m Z Z<|.b2 (fun h10 => ?_) (fun h10 => ?_)
 ·try simp only [dt] at h10
  have e1 := (id h10 : a.nm = b.nm)
  refine .gd Z Z<|.yv (.fieldAddr Z Fx.field110_1) Z<|.gd Z Z<|.yv (.load Z Fx.agg107 (.tail _<|.head _) Z) Z<|.gd Z Z<|.yv (.fieldAddr Z Fx.field110_1) Z<|.gd Z Z<|.yv (.load Z Fx.agg107 (.head _) Z) Z<|.gd Z Z<|.yv (.call Fx.call78 Z (fun W s => slEqV H a.vars b.vars _ _ k1 g1 W s.agr)) Z<|.yv (.pickT Z Z) Z<|.m Z Z<|.b2 (fun h17 => ?_) (fun h17 => ?_)
  ·try simp only [dt] at h17
   have e2 := eqP_iff.1 h17
   refine .gd Z Z<|.yv (.fieldAddr Z Fx.field110_2) Z<|.gd Z Z<|.yv (.load Z Fx.agg108 (.tail _<|.head _) Z) Z<|.gd Z Z<|.yv (.fieldAddr Z Fx.field110_2) Z<|.gd Z Z<|.yv (.load Z Fx.agg108 (.head _) Z) Z<|.gd Z Z<|.yv (.call Fx.call79 Z (fun W s => eqFuncV H 80 Fx.call80 a.vers b.vers (fun x _ => equalVersion_any H x) _ _ k2 g2 W s.agr)) Z<|.yv (.pickT Z Z) Z<|.a Z Z<|.nt<|.rt<|?_
   refine Sx.ret1 (.inl rfl) rfl (.tmp rfl) fun W s => ⟨retB ?_,s.ext⟩
   first
    | (rw [eqP_iff,eqP_iff,cp_eq];exact ⟨fun d => ⟨e1,e2,d⟩,fun h => h.2.2⟩)
    | (rw [eqP_iff,cp_eq];exact ⟨fun h => (by cases h),fun h => absurd h.1 e1⟩)
    | (rw [eqP_iff,cp_eq];exact ⟨fun h => (by cases h),fun h => absurd h.2.1 e2⟩)
  try simp only [df] at h17
  have e2 := eqP_false.1 h17
  refine .gF Z Z Z Z<|.gF Z Z Z Z<|.gF Z Z Z Z<|.gF Z Z Z Z<|.gF Z Z Z Z<|.yv (.pickF Z Z) Z<|.a Z Z<|.nt<|.rt<|?_
  refine Sx.ret1 (.inl rfl) rfl (.tmp rfl) fun W s => ⟨retB ?_,s.ext⟩
  first
   | (rw [eqP_iff,eqP_iff,cp_eq];exact ⟨fun d => ⟨e1,e2,d⟩,fun h => h.2.2⟩)
   | (rw [eqP_iff,cp_eq];exact ⟨fun h => (by cases h),fun h => absurd h.1 e1⟩)
   | (rw [eqP_iff,cp_eq];exact ⟨fun h => (by cases h),fun h => absurd h.2.1 e2⟩)
 try simp only [df] at h10
 have e1 := (id h10 : ¬ a.nm = b.nm)
 refine .gF Z Z Z Z<|.gF Z Z Z Z<|.gF Z Z Z Z<|.gF Z Z Z Z<|.gF Z Z Z Z<|.yv (.pickF Z Z) Z<|.m Z Z<|.gF Z Z Z Z<|.gF Z Z Z Z<|.gF Z Z Z Z<|.gF Z Z Z Z<|.gF Z Z Z Z<|.yv (.pickF Z Z) Z<|.a Z Z<|.nt<|.rt<|?_
 refine Sx.ret1 (.inl rfl) rfl (.tmp rfl) fun W s => ⟨retB ?_,s.ext⟩
 first
  | (rw [eqP_iff,eqP_iff,cp_eq];exact ⟨fun d => ⟨e1,e2,d⟩,fun h => h.2.2⟩)
  | (rw [eqP_iff,cp_eq];exact ⟨fun h => (by cases h),fun h => absurd h.1 e1⟩)
  | (rw [eqP_iff,cp_eq];exact ⟨fun h => (by cases h),fun h => absurd h.2.1 e2⟩)
set_option maxRecDepth 100000 in
theorem eqFuncC (H : Hp) (gf : FuncId) (hgf : callN Tryz.prog gf = true) (l m : List Cp) (hq : ∀ a ∈ l,∀ b,EqAt gf (dCp .u8) H a b) (v u : Value) (hs : Rep H (.seq 3 (l.map (dCp .u8))) [v]) (ht : Rep H (.seq 3 (m.map (dCp .u8))) [u]) (w : World) (hA : Agr H w) :
 Calls Tryz.prog 41 #[v,u,.func (.func gf) #[] #[]] w fun r w' => r = .returned (.bool (eqP (l = m))) ∧ Ext w w' := by
 obtain ⟨p,c,e,_⟩ := hs.sl
 simp only [List.cons.injEq,and_true,List.length_map] at e
 subst e
 obtain ⟨p2,c2,e,_⟩ := ht.sl
 simp only [List.cons.injEq,and_true,List.length_map] at e
 subst e
 have hcap := hs.cap
 have hcap2 := ht.cap
 refine Sx.enter (H := H) Tryz.func41 rfl Tryz.ntmps41 rfl hA ?_
 refine .sr<|.a Z Z<|.nt<|.sq<|.sr<|.m Z Z<|.yv (.lenSl Fx.sl47 Z) Z<|.m Z Z<|.yv (.lenSl Fx.sl47 Z) Z<|.yv (.neq Z Z) Z<|.nt<|.cd Z (fun h14 => ?_) (fun h14 => ?_)
 ·try simp only [dt] at h14
  have hne : ¬ l = m := fun e => by rw [e] at h14;exact h14 rfl
  refine .sr<|.a Z Z<|.nt<|.rt<|.tR<|?_
  refine Sx.ret1 (.inl rfl) rfl (.tmp rfl) fun W s => ⟨retB ?_,s.ext⟩
  first
   | (rw [eqP_iff];exact ⟨fun h => (by cases h),fun h => absurd h hne⟩)
   | (rw [eqP_iff];exact ⟨fun _ => heq,fun _ => rfl⟩)
 try simp only [df] at h14
 have hlen : l.length = m.length := by omega
 refine .sk<|.tN<|.sq<|.sr<|.m Z Z<|.yv (.lenSl Fx.sl47 Z) Z<|.m Z Z<|.nt<|.bk<|.lp (X := Nat) [(1,_),(2,_),(15,_),(16,_)] ⟨rfl,rfl,rfl,rfl,trivial⟩ [] (fun k => [(17,.int .i64 (k : Nat))]) (fun k => H) (fun k => []) (fun k => k ≤ l.length ∧ l.take k = m.take k) (fun k => l.length - k) 0 (fun _ s => s) ⟨rfl,trivial⟩ ⟨by omega,rfl⟩ fun k hC => ?_
 obtain ⟨hk0,hal⟩ := hC
 refine .sr<|.yv (.lss Z Z) Z<|.nt<|.sq<|.cd Z (fun h18 => ?_) (fun h18 => ?_)
 ·try simp only [dt] at h18
  have hk : k < l.length := by omega
  have hkm : k < m.length := by omega
  obtain ⟨bE,oE,cE,hpE,rE,lE,mE⟩ := hs.elem (map_at hk)
  cases hpE
  obtain ⟨bF,oF,cF,hpF,rF,lF,mF⟩ := ht.elem (map_at hkm)
  cases hpF
  refine .sk<|.tN<|.sq<|.bk<|.sr<|.m Z Z<|.yv (.indexSl Fx.sl47 Z Z Z (by omega) (q := oE + k * 3) Z) Z<|.yv (.loadMW Z Fx.agg110 mE lE) Z<|.al Fx.zero110 Z fun b8 => .a Z Z<|.sV .head Z Z Fx.size110 lE rE.one Z<|.ns<|.m Z Z<|.m Z Z<|.yv (.indexSl Fx.sl47 Z Z Z (by omega) (q := oF + k * 3) Z) Z<|.yv (.loadMW Z Fx.agg110 mF lF) Z<|.al Fx.zero110 Z fun b9 => .sV .head Z Z Fx.size110 lF rF.one Z<|.ns<|.m Z Z<|.yv (.loadW Z Fx.agg110 (.tail _<|.head _) lE) Z<|.yv (.loadW Z Fx.agg110 (.head _) lF) Z<|.yv (.callV (fi := []) (ca := []) Z hgf Z (fun W s => hq _ (List.getElem_mem hk) _ cE cF W rE rF s.agr)) Z<|.yv (.not Z) Z<|.nt<|.cd Z (fun h30 => ?_) (fun h30 => ?_)
  ·try simp only [dt] at h30
   have hne : ¬ l = m := fun e => by subst e;rw [eqP_iff.2 rfl] at h30;cases h30
   refine .sr<|.a Z Z<|.nt<|.rt<|.bR<|.tR<|.tR<|.bR<|.tR<|?_
   refine Sx.ret1 (.inl rfl) rfl (.tmp rfl) fun W s => ⟨retB ?_,s.ext⟩
   first
    | (rw [eqP_iff];exact ⟨fun h => (by cases h),fun h => absurd h hne⟩)
    | (rw [eqP_iff];exact ⟨fun _ => heq,fun _ => rfl⟩)
  try simp only [df] at h30
  have heq : l[k] = m[k] := eqP_iff.1 (by simpa using h30)
  exact .sk<|.bN<|.tN<|.rg<|.yv (.add Z Z (w6 (by omega))) Z<|.m Z Z<|.nt<|.ag (k + 1) ⟨rfl,trivial⟩ ⟨rfl,rfl,rfl,rfl,trivial⟩ (fun _ s => s.pick [] [] Z Z) ⟨by omega,take_eq_succ hk hkm hal heq⟩ (by omega)
 try simp only [df] at h18
 have heq : l = m := by
  have e : k = l.length := by omega
  have e2 : k = m.length := by omega
  have h1 := hal
  rw [e,List.take_length,hlen,List.take_length] at h1
  exact h1
 refine .ex<|.tE<|.tE<|.bE<|.tN<|.sr<|.a Z Z<|.nt<|.rt<|?_
 refine Sx.ret1 (.inl rfl) rfl (.tmp rfl) fun W s => ⟨retB ?_,s.ext⟩
 first
  | (rw [eqP_iff];exact ⟨fun h => (by cases h),fun h => absurd h hne⟩)
  | (rw [eqP_iff];exact ⟨fun _ => heq,fun _ => rfl⟩)
set_option maxRecDepth 100000 in
theorem equal_any (H : Hp) (a b : Ft) : EqAt 20 (dFt .u8) H a b := by
 intro ca cb w ha hb hA
 obtain ⟨p1,c1,p2,c2,p3,c3,rfl,_,k1,k2,k3⟩ := ft_open ha
 obtain ⟨q1,d1,q2,d2,q3,d3,rfl,_,g1,g2,g3⟩ := ft_open hb
 refine Sx.enter (H := H) Tryz.func20 rfl Tryz.ntmps20 rfl hA ?_
 refine .sr<|.bx Z Z Z fun b2 => .bx Z Z Z fun b3 => .a Z Z<|.ns<|.yv (.fieldAddr Z Fx.field49_0) Z<|.yv (.load Z Fx.agg9 (.tail _<|.head _) Z) Z<|.yv (.fieldAddr Z Fx.field49_0) Z<|.yv (.load Z Fx.agg9 (.head _) Z) Z<|.yv (.eqS Z Z) Z<|.m Z Z<|.b2 (fun h10 => ?_) (fun h10 => ?_)
 ·try simp only [dt] at h10
  have e1 := (id h10 : a.nm = b.nm)
  refine .gd Z Z<|.yv (.fieldAddr Z Fx.field49_1) Z<|.gd Z Z<|.yv (.load Z Fx.agg45 (.tail _<|.head _) Z) Z<|.gd Z Z<|.yv (.fieldAddr Z Fx.field49_1) Z<|.gd Z Z<|.yv (.load Z Fx.agg45 (.head _) Z) Z<|.gd Z Z<|.yv (.call Fx.call39 Z (fun W s => slEqF H a.flags b.flags _ _ k1 g1 W s.agr)) Z<|.yv (.pickT Z Z) Z<|.m Z Z<|.b2 (fun h17 => ?_) (fun h17 => ?_)
  ·try simp only [dt] at h17
   have e2 := eqP_iff.1 h17
   refine .gd Z Z<|.yv (.fieldAddr Z Fx.field49_2) Z<|.gd Z Z<|.yv (.load Z Fx.agg46 (.tail _<|.head _) Z) Z<|.gd Z Z<|.yv (.fieldAddr Z Fx.field49_2) Z<|.gd Z Z<|.yv (.load Z Fx.agg46 (.head _) Z) Z<|.gd Z Z<|.yv (.call Fx.call40 Z (fun W s => slEqL H a.links b.links _ _ k2 g2 W s.agr)) Z<|.yv (.pickT Z Z) Z<|.m Z Z<|.b2 (fun h24 => ?_) (fun h24 => ?_)
   ·try simp only [dt] at h24
    have e3 := eqP_iff.1 h24
    refine .gd Z Z<|.yv (.fieldAddr Z Fx.field49_3) Z<|.gd Z Z<|.yv (.load Z Fx.agg47 (.tail _<|.head _) Z) Z<|.gd Z Z<|.yv (.fieldAddr Z Fx.field49_3) Z<|.gd Z Z<|.yv (.load Z Fx.agg47 (.head _) Z) Z<|.gd Z Z<|.yv (.call Fx.call41 Z (fun W s => eqFuncC H 42 Fx.call42 a.comps b.comps (fun x _ => equalComponent_any H x) _ _ k3 g3 W s.agr)) Z<|.yv (.pickT Z Z) Z<|.a Z Z<|.nt<|.rt<|?_
    refine Sx.ret1 (.inl rfl) rfl (.tmp rfl) fun W s => ⟨retB ?_,s.ext⟩
    first
     | (rw [eqP_iff,eqP_iff,ft_eq];exact ⟨fun d => ⟨e1,e2,e3,d⟩,fun h => h.2.2.2⟩)
     | (rw [eqP_iff,ft_eq];exact ⟨fun h => (by cases h),fun h => absurd h.1 e1⟩)
     | (rw [eqP_iff,ft_eq];exact ⟨fun h => (by cases h),fun h => absurd h.2.1 e2⟩)
     | (rw [eqP_iff,ft_eq];exact ⟨fun h => (by cases h),fun h => absurd h.2.2.1 e3⟩)
   try simp only [df] at h24
   have e3 := eqP_false.1 h24
   refine .gF Z Z Z Z<|.gF Z Z Z Z<|.gF Z Z Z Z<|.gF Z Z Z Z<|.gF Z Z Z Z<|.yv (.pickF Z Z) Z<|.a Z Z<|.nt<|.rt<|?_
   refine Sx.ret1 (.inl rfl) rfl (.tmp rfl) fun W s => ⟨retB ?_,s.ext⟩
   first
    | (rw [eqP_iff,eqP_iff,ft_eq];exact ⟨fun d => ⟨e1,e2,e3,d⟩,fun h => h.2.2.2⟩)
    | (rw [eqP_iff,ft_eq];exact ⟨fun h => (by cases h),fun h => absurd h.1 e1⟩)
    | (rw [eqP_iff,ft_eq];exact ⟨fun h => (by cases h),fun h => absurd h.2.1 e2⟩)
    | (rw [eqP_iff,ft_eq];exact ⟨fun h => (by cases h),fun h => absurd h.2.2.1 e3⟩)
  try simp only [df] at h17
  have e2 := eqP_false.1 h17
  refine .gF Z Z Z Z<|.gF Z Z Z Z<|.gF Z Z Z Z<|.gF Z Z Z Z<|.gF Z Z Z Z<|.yv (.pickF Z Z) Z<|.m Z Z<|.gF Z Z Z Z<|.gF Z Z Z Z<|.gF Z Z Z Z<|.gF Z Z Z Z<|.gF Z Z Z Z<|.yv (.pickF Z Z) Z<|.a Z Z<|.nt<|.rt<|?_
  refine Sx.ret1 (.inl rfl) rfl (.tmp rfl) fun W s => ⟨retB ?_,s.ext⟩
  first
   | (rw [eqP_iff,eqP_iff,ft_eq];exact ⟨fun d => ⟨e1,e2,e3,d⟩,fun h => h.2.2.2⟩)
   | (rw [eqP_iff,ft_eq];exact ⟨fun h => (by cases h),fun h => absurd h.1 e1⟩)
   | (rw [eqP_iff,ft_eq];exact ⟨fun h => (by cases h),fun h => absurd h.2.1 e2⟩)
   | (rw [eqP_iff,ft_eq];exact ⟨fun h => (by cases h),fun h => absurd h.2.2.1 e3⟩)
 try simp only [df] at h10
 have e1 := (id h10 : ¬ a.nm = b.nm)
 refine .gF Z Z Z Z<|.gF Z Z Z Z<|.gF Z Z Z Z<|.gF Z Z Z Z<|.gF Z Z Z Z<|.yv (.pickF Z Z) Z<|.m Z Z<|.gF Z Z Z Z<|.gF Z Z Z Z<|.gF Z Z Z Z<|.gF Z Z Z Z<|.gF Z Z Z Z<|.yv (.pickF Z Z) Z<|.m Z Z<|.gF Z Z Z Z<|.gF Z Z Z Z<|.gF Z Z Z Z<|.gF Z Z Z Z<|.gF Z Z Z Z<|.yv (.pickF Z Z) Z<|.a Z Z<|.nt<|.rt<|?_
 refine Sx.ret1 (.inl rfl) rfl (.tmp rfl) fun W s => ⟨retB ?_,s.ext⟩
 first
  | (rw [eqP_iff,eqP_iff,ft_eq];exact ⟨fun d => ⟨e1,e2,e3,d⟩,fun h => h.2.2.2⟩)
  | (rw [eqP_iff,ft_eq];exact ⟨fun h => (by cases h),fun h => absurd h.1 e1⟩)
  | (rw [eqP_iff,ft_eq];exact ⟨fun h => (by cases h),fun h => absurd h.2.1 e2⟩)
  | (rw [eqP_iff,ft_eq];exact ⟨fun h => (by cases h),fun h => absurd h.2.2.1 e3⟩)
end Go.Proofs.YthhoebdlfjffkaaGreatDoor
namespace Go.Proofs.YthhoebdlfjffkaaGreatDoor
def okS3 (N : Nat) : Sm → Bool
 | .mk _ _ _ ex _ _ => decide (ex.length ≤ N) && ex.all (Ex.all narrow)
structure syL (N : Nat) (l : List Sm) : Prop where
 cnt : Sm.counts l ≤ N
 dep : Sm.deeps l ≤ N
 all : Sm.alls (okS3 N) l = true
theorem okS2_3 {N : Nat} : ∀ s,okS2 N s = true → okS3 N s = true
 | .mk kd nm hd ex th el,h => by
  simp only [okS2,okS3,Bool.and_eq_true,decide_eq_true_eq,List.all_eq_true] at h ⊢
  exact ⟨h.1,fun e he => by have := h.2 e he;simp only [okE,Bool.and_eq_true] at this;exact this.2⟩
theorem okL.sy {N : Nat} {l : List Sm} (h : okL N l) : syL N l := ⟨h.cnt,h.dep,salls_imp okS2_3 l h.all⟩
theorem syL.len {N : Nat} {l : List Sm} (h : syL N l) : l.length ≤ N := Nat.le_trans (scounts_len l) h.cnt
theorem syL.left {N : Nat} {a b : List Sm} (h : syL N (a ++ b)) : syL N a := by
 obtain ⟨h1,h2,h3⟩ := h
 rw [scounts_app] at h1
 rw [sdeeps_app] at h2
 rw [salls_app,Bool.and_eq_true] at h3
 exact ⟨by omega,by omega,h3.1⟩
theorem syL.right {N : Nat} {a b : List Sm} (h : syL N (a ++ b)) : syL N b := by
 obtain ⟨h1,h2,h3⟩ := h
 rw [scounts_app] at h1
 rw [sdeeps_app] at h2
 rw [salls_app,Bool.and_eq_true] at h3
 exact ⟨by omega,by omega,h3.2⟩
theorem syL.at {N : Nat} {l : List Sm} (h : syL N l) {j : Nat} (hj : j < l.length) : syL N [l[j]] := by
 have h2 := h
 rw [split_at hj] at h2
 exact h2.right.left
theorem syL_one {N : Nat} {kd : UInt8} {nm hd : Str} {ex : List Ex} {th el : List Sm} (h : syL N [.mk kd nm hd ex th el]) : Sm.counts th + Sm.counts el + 1 ≤ N ∧ Sm.deeps th + 1 ≤ N ∧ Sm.deeps el + 1 ≤ N ∧ ex.length ≤ N ∧ ex.all (Ex.all narrow) = true ∧ Sm.alls (okS3 N) th = true ∧ Sm.alls (okS3 N) el = true := by
 obtain ⟨h1,h2,h3⟩ := h
 simp only [Sm.counts,scount_mk] at h1
 simp only [Sm.deeps,sdepth_mk] at h2
 simp only [Sm.alls,sall_mk,okS3,Bool.and_eq_true,decide_eq_true_eq] at h3
 exact ⟨by omega,by omega,by omega,h3.1.1.1.1,h3.1.1.1.2,h3.1.1.2,h3.1.2⟩
structure syHd (N : Nat) (h : Hd) : Prop where
 ps : h.ps.length ≤ N
 body : syL N h.body
structure syV2 (N : Nat) (v : List Hd) : Prop where
 len : v.length ≤ N
 all : ∀ h ∈ v,syHd N h
structure syCp (N : Nat) (c : Cp) : Prop where
 vars : c.vars.length ≤ N
 vers : c.vers.length ≤ N
 all : ∀ v ∈ c.vers,syV2 N v
structure syFt (N : Nat) (f : Ft) : Prop where
 flags : f.flags.length ≤ N
 links : f.links.length ≤ N
 comps : f.comps.length ≤ N
 all : ∀ c ∈ f.comps,syCp N c
theorem okFt.sy {N : Nat} {f : Ft} (h : okFt N f) : syFt N f :=
 ⟨h.flags,h.links,h.comps,fun c hc => ⟨(h.all c hc).vars,(h.all c hc).vers,fun v hv => ⟨((h.all c hc).all v hv).len,fun x hx => ⟨(((h.all c hc).all v hv).all x hx).ps,(((h.all c hc).all v hv).all x hx).body.sy⟩⟩⟩⟩
end Go.Proofs.YthhoebdlfjffkaaGreatDoor
namespace Go.Proofs.YthhoebdlfjffkaaGreatDoor
open Go.RowKit Go.Par Go.Sx
set_option maxHeartbeats 2000000 in
set_option maxRecDepth 100000 in
theorem bodyL_sy (N : Nat) (hN : N ≤ 1000000) : ∀ (l : List Sm),syL N l → ∀ (H : Hp) (v : Value) (w : World),Rep H (.seq 6 (l.map (dSm .i64))) [v] → Agr H w →
 Calls Tryz.prog 60 #[v] w fun r w' => ∃ (y : Value) (H' : Hp),Rep H' (.seq 6 (l.map (dSm .u8))) [y] ∧ r = .returned y ∧ Grow H w H' w' := by
 refine Sm.lists fun l ih => ?_
 intro hok H v w hs hA
 obtain ⟨p,c,e,_⟩ := hs.sl
 simp only [List.cons.injEq,and_true,List.length_map] at e
 subst e
 have hcap := hs.cap
 have hll := hok.len
 refine Sx.enter (H := H) Tryz.func60 rfl Tryz.ntmps60 rfl hA ?_
 refine .sr<|.a Z Z<|.ns<|.a Z Z<|?_
 refine Sx.row0 208 6 ?_
 refine .nt<|.sq<|.sr<|.m Z Z<|.yv (.lenSl Fx.sl156 Z) Z<|.m Z Z<|.nt<|.bk<|.lp (X := Nat × Hp × Value × List Value) [(9,_),(10,_)] ⟨rfl,rfl,trivial⟩ [] (fun z => [(3,z.2.2.1),(11,.int .i64 (z.1 : Nat))]) (fun z => z.2.1) (fun z => [.row 208 6 z.2.2.1 z.1 z.2.2.2]) (fun z => z.1 ≤ l.length ∧ HUp w H z.2.1 ∧ RepZ z.2.1 6 ((l.take z.1).map (dSm .u8)) z.2.2.2) (fun z => l.length - z.1) (0,H,.slice none 0 0,[]) (fun _ s => s) ⟨rfl,rfl,trivial⟩ ⟨by simp,.refl,RepZ.nil⟩ fun z hC => ?_
 obtain ⟨k,H1,r,xs⟩ := z
 dsimp only at hC ⊢
 obtain ⟨hk0,u1,hz⟩ := hC
 refine .sr<|.yv (.lss Z Z) Z<|.nt<|.sq<|.cd Z (fun h12 => ?_) (fun h12 => ?_)
 ·try simp only [dt] at h12
  have hk : k < l.length := by omega
  obtain ⟨bE,oE,cE,hpE,rE,lE,mE⟩ := (hs.up u1.up).elem (map_at (f := dSm .i64) hk)
  cases hpE
  have hi := ih _ (List.getElem_mem hk)
  have hka := hok.at hk
  generalize hx : l[k] = x at rE hi hka
  obtain ⟨kd,nm,hd,ex,th,el⟩ := x
  obtain ⟨p1,c1,p2,c2,p3,c3,rfl,hs1,hs2,hs3,hn1,hn2⟩ := sm_open rE
  simp only [Sm.th,Sm.el] at hi
  obtain ⟨k1,k2,k3,k4,k5,k6,k7⟩ := syL_one hka
  have hit := hi.1 ⟨by omega,by omega,k6⟩
  have hie := hi.2 ⟨by omega,by omega,k7⟩
  have hcap1 := hs1.cap
  refine .sk<|.tN<|.sq<|.bk<|.sr<|.yv (.indexSl Fx.sl156 Z Z Z (by omega) (q := oE + k * 6) Z) Z<|.yv (.loadMW Z Fx.agg205 mE Z) Z<|.al Fx.zero205 Z fun b5 => .sW .head Z Z Fx.size205 (by simp [Value.oneCell',strV]) Z<|.nt<|.sq<|.ft (p := .light _ _ (.light _ _ (.light _ _ (.light _ _ (.light _ _ (.light _ _ (.light _ _ (.light _ _ (.light _ _ (.light _ _ (.light _ _ (.alt _ _ _ (.alt _ _ _ (.light _ _ (.alt _ _ _ (.done) (.no))) (.alt _ _ _ (.alt _ _ _ (.light _ _ (.done)) (.no)) (.no))) (.alt _ _ _ (.alt _ _ _ (.alt _ _ _ (.light _ _ (.done)) (.no)) (.no)) (.no)))))))))))))) 15 (.light 0 (.light 1 (.light 2 (.light 3 (.light 4 (.light 5 (.light 6 (.light 7 (.light 8 (.light 10 (.light 11 (.alt 9 0 (.alt 12 0 (.light 13 (.alt 14 0 (.done) (.no))) (.alt 14 0 (.alt 12 0 (.light 13 (.done)) (.no)) (.no))) (.alt 14 0 (.alt 9 0 (.alt 12 0 (.light 13 (.done)) (.no)) (.no)) (.no)))))))))))))) (by kernel_rfl) (by kernel_rfl) Z<|.yv (.fieldAddr Z Fx.field205_0) Z<|.yv (.load Z Fx.agg3 (.head _) Z) Z<|.yv (.conv Z Fx.int3 Fx.int206 (c := (kd.toNat : Nat)) (by have := kd.toNat_lt;simp only [IntKind.wrap,IntKind.signed,IntKind.bits];simp;omega)) Z<|.yv (.fieldAddr Z Fx.field205_1) Z<|.yv (.load Z Fx.agg9 (.head _) Z) Z<|.yv (.fieldAddr Z Fx.field205_2) Z<|.yv (.load Z Fx.agg9 (.head _) Z) Z<|.yv (.fieldAddr Z Fx.field205_4) Z<|.yv (.load Z Fx.agg156 (.head _) Z) Z<|.yv (.fieldAddr Z Fx.field205_5) Z<|.yv (.load Z Fx.agg156 (.head _) Z) Z<|.h ?_ (.h ?_ .nn)
  ·
   refine .ct (X := Value) Fx.call60 Z (fun W s => hit H1 _ W hs2 s.agr) Z fun y24 H24 hy24 u24 => ?_
   obtain ⟨q24,d24,e24,_⟩ := hy24.sl
   simp only [List.cons.injEq,and_true,List.length_map] at e24
   subst e24
   refine .h ?_ (.h ?_ .nn)
   ·
    refine .ct (X := Value) Fx.call60 Z (fun W s => hie H24 _ W (hs3.up u24.up) s.agr) Z fun y27 H27 hy27 u27 => ?_
    obtain ⟨q27,d27,e27,_⟩ := hy27.sl
    simp only [List.cons.injEq,and_true,List.length_map] at e27
    subst e27
    have u5 := u24.trans u27
    have hs1b := hs1.up u5.up
    have hy24b := hy24.up u27.up
    refine .yv (.build Z (Fx.bld208_0_1_2_4_5 _ _ _ _ _ _ _ _ _)) Z<|.h1<|.al Fx.zero208 Z fun b6 => .fn (tl := [_]) Z<|.sW .head Z Z Fx.size208 (by simp [Value.oneCell',strV]) Z<|.nt<|.sq<|.sr<|.yv (.fieldAddr Z Fx.field205_3) Z<|.yv (.load Z Fx.agg31 (.tail _<|.head _) Z) Z<|.yv (.lenSl Fx.sl31 Z) Z<|.m Z Z<|?_
    refine Sx.row0 27 4 ?_
    refine .nt<|.bk<|.lp (X := Nat × Hp × Value × List Value) [(3,_),(6,_),(9,_),(10,_),(11,_),(30,_),(31,_)] ⟨rfl,rfl,rfl,rfl,rfl,rfl,rfl,trivial⟩ [_,_] (fun z => [(32,.int .i64 (z.1 : Nat))]) (fun z => z.2.1) (fun z => [.row 27 4 z.2.2.1 z.1 z.2.2.2,.box b6 [.int .u8 kd.toNat,strV nm,strV hd,z.2.2.1,.slice q24 th.length d24,.slice q27 el.length d27] 208]) (fun z => z.1 ≤ ex.length ∧ HUp w H27 z.2.1 ∧ RepZ z.2.1 4 ((ex.take z.1).map (dEx .u8)) z.2.2.2) (fun z => ex.length - z.1) (0,H27,.slice none 0 0,[]) (fun _ s => s) ⟨rfl,trivial⟩ ⟨by simp,.refl,RepZ.nil⟩ fun z hC => ?_
    obtain ⟨j,H3,re,ys⟩ := z
    dsimp only at hC ⊢
    obtain ⟨hj0,u3,hze⟩ := hC
    refine .sr<|.yv (.lss Z Z) Z<|.nt<|.sq<|.cd Z (fun h33 => ?_) (fun h33 => ?_)
    ·try simp only [dt] at h33
     have hj : j < ex.length := by omega
     obtain ⟨bF,oF,cF,hpF,rF,lF,mF⟩ := (hs1b.up u3.up).elem (map_at (f := dEx .i64) hj)
     cases hpF
     have hnj : Ex.all narrow ex[j] = true := List.all_eq_true.1 k5 _ (List.getElem_mem hj)
     refine .sk<|.tN<|.sq<|.bk<|.sr<|.yv (.indexSl Fx.sl31 Z Z Z (by omega) (q := oF + j * 4) Z) Z<|.yv (.loadMW Z Fx.agg33 mF lF) Z<|.al Fx.zero33 Z fun b8 => .sV .head Z Z Fx.size33 lF rF.one Z<|.nt<|.fl (trip := [(_,_,_),(_,_,_),(_,_,_),(_,_,_),(_,_,_)]) 5 [(0,0),(1,0),(2,0),(3,1),(4,1)] (by kernel_rfl) (by kernel_rfl) Z<|.yv (.fieldAddr Z Fx.field208_3) Z<|.yv (.load Z Fx.agg25 (.tail _<|.tail _<|.head _) Z) Z<|.yv (.loadW Z Fx.agg33 (.head _) lF) Z<|.ct (X := List Value) Fx.call14 Z (fun W s => expr_any _ hnj H3 cF W rF s.agr) Z fun x39 H39 hx39 u39 => ?_
     generalize hxj : ex[j] = xj at hx39
     obtain ⟨op2,nm2,n2,args2⟩ := xj
     obtain ⟨pz,cz,rfl,hz2,hnm2⟩ := ex_open hx39
     exact .bl Z (Fx.bsl25_1 _ _ _ _) Z fun b40 => .fn (tl := [_,_,_]) Z<|.ap (news := [.int .u8 op2.toNat,strV nm2,.int .i64 n2.toInt,.slice pz args2.length cz]) Fx.row25 Z (fun _ => (.tail<|.tail<|.head)) Z (.box (.head _) z0) Z (by simp [Value.oneCell',strV]) (by simp [maxLen];omega) (by omega) Z fun r41 _ => .ra (.tail _<|.tail _<|.head _) fun p41 c41 e41 => .yv (.fieldAddr Z Fx.field208_3) Z<|.st (.tail<|.tail<|.tail<|.head) Z Z Fx.size25 (by rw [e41];rfl) (nb Z) Z<|.nl<|.bN<|.tN<|.rg<|.yv (.add Z Z (w6 (by omega))) Z<|.m Z Z<|.nt<|.ag (x := (j,H3,re,ys)) (j + 1,H39,r41,ys ++ [.int .u8 op2.toNat,strV nm2,.int .i64 n2.toInt,.slice pz args2.length cz]) ⟨rfl,trivial⟩ ⟨rfl,rfl,rfl,rfl,rfl,rfl,rfl,trivial⟩ (fun _ s => (s.pick [2,3,4,5] _ Z Z)) ⟨by dsimp only;omega,u3.trans u39,by dsimp only;rw [take_snoc hj,hxj,List.map_append];exact (hze.up u39.up).snoc hx39 Z⟩ (by dsimp only;omega)
    try simp only [df] at h33
    obtain rfl : j = ex.length := by omega
    rw [List.take_length] at hze
    refine Sx.freezeSeq (ds := ex.map (dEx .u8)) (by simp) hze fun H3 pX cX u6 eX hX => ?_
    subst eX
    have uX := u5.trans (u3.trans u6)
    have hy24X := hy24b.up (u3.trans u6).up
    have hy27X := hy27.up (u3.trans u6).up
    exact .ex<|.tE<|.tE<|.bE<|.tN<|.rg<|.m Z Z<|.yv (.loadW Z Fx.agg208 (.head _) Z) Z<|.bl Z (Fx.bsl159_1 _ _ _ _ _ _) Z fun b46 => .ap (news := [.int .u8 kd.toNat,strV nm,strV hd,.slice pX ex.length cX,.slice q24 th.length d24,.slice q27 el.length d27]) Fx.row159 Z (fun _ => (.tail<|.tail<|.tail<|.head)) Z (.box (.head _) z0) Z (by simp [Value.oneCell',strV]) (by simp [maxLen];omega) (by omega) Z fun r47 _ => .a Z Z<|.nl<|.bN<|.tN<|.rg<|.yv (.add Z Z (w6 (by omega))) Z<|.m Z Z<|.nt<|.ag (x := (k,H1,r,xs)) (k + 1,H3,r47,xs ++ [.int .u8 kd.toNat,strV nm,strV hd,.slice pX ex.length cX,.slice q24 th.length d24,.slice q27 el.length d27]) ⟨rfl,rfl,trivial⟩ ⟨rfl,rfl,trivial⟩ (fun _ s => (s.pick [3] _ Z Z)) ⟨by dsimp only;omega,u1.trans uX,by dsimp only;rw [take_snoc hk,hx,List.map_append];exact (hz.up uX.up).snoc (sm_shut (by omega) (by omega) hX hy24X hy27X) Z⟩ (by dsimp only;omega)
   refine .al Fx.zero208 Z fun b6 => .h1<|.ct (X := Value) Fx.call60 Z (fun W s => hie H24 _ W (hs3.up u24.up) s.agr) Z fun y27 H27 hy27 u27 => ?_
   obtain ⟨q27,d27,e27,_⟩ := hy27.sl
   simp only [List.cons.injEq,and_true,List.length_map] at e27
   subst e27
   have u5 := u24.trans u27
   have hs1b := hs1.up u5.up
   have hy24b := hy24.up u27.up
   refine .yv (.build Z (Fx.bld208_0_1_2_4_5 _ _ _ _ _ _ _ _ _)) Z<|.fn (tl := [_]) Z<|.sW .head Z Z Fx.size208 (by simp [Value.oneCell',strV]) Z<|.nt<|.sq<|.sr<|.yv (.fieldAddr Z Fx.field205_3) Z<|.yv (.load Z Fx.agg31 (.tail _<|.head _) Z) Z<|.yv (.lenSl Fx.sl31 Z) Z<|.m Z Z<|?_
   refine Sx.row0 27 4 ?_
   refine .nt<|.bk<|.lp (X := Nat × Hp × Value × List Value) [(3,_),(6,_),(9,_),(10,_),(11,_),(30,_),(31,_)] ⟨rfl,rfl,rfl,rfl,rfl,rfl,rfl,trivial⟩ [_,_] (fun z => [(32,.int .i64 (z.1 : Nat))]) (fun z => z.2.1) (fun z => [.row 27 4 z.2.2.1 z.1 z.2.2.2,.box b6 [.int .u8 kd.toNat,strV nm,strV hd,z.2.2.1,.slice q24 th.length d24,.slice q27 el.length d27] 208]) (fun z => z.1 ≤ ex.length ∧ HUp w H27 z.2.1 ∧ RepZ z.2.1 4 ((ex.take z.1).map (dEx .u8)) z.2.2.2) (fun z => ex.length - z.1) (0,H27,.slice none 0 0,[]) (fun _ s => s) ⟨rfl,trivial⟩ ⟨by simp,.refl,RepZ.nil⟩ fun z hC => ?_
   obtain ⟨j,H3,re,ys⟩ := z
   dsimp only at hC ⊢
   obtain ⟨hj0,u3,hze⟩ := hC
   refine .sr<|.yv (.lss Z Z) Z<|.nt<|.sq<|.cd Z (fun h33 => ?_) (fun h33 => ?_)
   ·try simp only [dt] at h33
    have hj : j < ex.length := by omega
    obtain ⟨bF,oF,cF,hpF,rF,lF,mF⟩ := (hs1b.up u3.up).elem (map_at (f := dEx .i64) hj)
    cases hpF
    have hnj : Ex.all narrow ex[j] = true := List.all_eq_true.1 k5 _ (List.getElem_mem hj)
    refine .sk<|.tN<|.sq<|.bk<|.sr<|.yv (.indexSl Fx.sl31 Z Z Z (by omega) (q := oF + j * 4) Z) Z<|.yv (.loadMW Z Fx.agg33 mF lF) Z<|.al Fx.zero33 Z fun b8 => .sV .head Z Z Fx.size33 lF rF.one Z<|.nt<|.fl (trip := [(_,_,_),(_,_,_),(_,_,_),(_,_,_),(_,_,_)]) 5 [(0,0),(1,0),(2,0),(3,1),(4,1)] (by kernel_rfl) (by kernel_rfl) Z<|.yv (.fieldAddr Z Fx.field208_3) Z<|.yv (.load Z Fx.agg25 (.tail _<|.tail _<|.head _) Z) Z<|.yv (.loadW Z Fx.agg33 (.head _) lF) Z<|.ct (X := List Value) Fx.call14 Z (fun W s => expr_any _ hnj H3 cF W rF s.agr) Z fun x39 H39 hx39 u39 => ?_
    generalize hxj : ex[j] = xj at hx39
    obtain ⟨op2,nm2,n2,args2⟩ := xj
    obtain ⟨pz,cz,rfl,hz2,hnm2⟩ := ex_open hx39
    exact .bl Z (Fx.bsl25_1 _ _ _ _) Z fun b40 => .fn (tl := [_,_,_]) Z<|.ap (news := [.int .u8 op2.toNat,strV nm2,.int .i64 n2.toInt,.slice pz args2.length cz]) Fx.row25 Z (fun _ => (.tail<|.tail<|.head)) Z (.box (.head _) z0) Z (by simp [Value.oneCell',strV]) (by simp [maxLen];omega) (by omega) Z fun r41 _ => .ra (.tail _<|.tail _<|.head _) fun p41 c41 e41 => .yv (.fieldAddr Z Fx.field208_3) Z<|.st (.tail<|.tail<|.tail<|.head) Z Z Fx.size25 (by rw [e41];rfl) (nb Z) Z<|.nl<|.bN<|.tN<|.rg<|.yv (.add Z Z (w6 (by omega))) Z<|.m Z Z<|.nt<|.ag (x := (j,H3,re,ys)) (j + 1,H39,r41,ys ++ [.int .u8 op2.toNat,strV nm2,.int .i64 n2.toInt,.slice pz args2.length cz]) ⟨rfl,trivial⟩ ⟨rfl,rfl,rfl,rfl,rfl,rfl,rfl,trivial⟩ (fun _ s => (s.pick [2,3,4,5] _ Z Z)) ⟨by dsimp only;omega,u3.trans u39,by dsimp only;rw [take_snoc hj,hxj,List.map_append];exact (hze.up u39.up).snoc hx39 Z⟩ (by dsimp only;omega)
   try simp only [df] at h33
   obtain rfl : j = ex.length := by omega
   rw [List.take_length] at hze
   refine Sx.freezeSeq (ds := ex.map (dEx .u8)) (by simp) hze fun H3 pX cX u6 eX hX => ?_
   subst eX
   have uX := u5.trans (u3.trans u6)
   have hy24X := hy24b.up (u3.trans u6).up
   have hy27X := hy27.up (u3.trans u6).up
   exact .ex<|.tE<|.tE<|.bE<|.tN<|.rg<|.m Z Z<|.yv (.loadW Z Fx.agg208 (.head _) Z) Z<|.bl Z (Fx.bsl159_1 _ _ _ _ _ _) Z fun b46 => .ap (news := [.int .u8 kd.toNat,strV nm,strV hd,.slice pX ex.length cX,.slice q24 th.length d24,.slice q27 el.length d27]) Fx.row159 Z (fun _ => (.tail<|.tail<|.tail<|.head)) Z (.box (.head _) z0) Z (by simp [Value.oneCell',strV]) (by simp [maxLen];omega) (by omega) Z fun r47 _ => .a Z Z<|.nl<|.bN<|.tN<|.rg<|.yv (.add Z Z (w6 (by omega))) Z<|.m Z Z<|.nt<|.ag (x := (k,H1,r,xs)) (k + 1,H3,r47,xs ++ [.int .u8 kd.toNat,strV nm,strV hd,.slice pX ex.length cX,.slice q24 th.length d24,.slice q27 el.length d27]) ⟨rfl,rfl,trivial⟩ ⟨rfl,rfl,trivial⟩ (fun _ s => (s.pick [3] _ Z Z)) ⟨by dsimp only;omega,u1.trans uX,by dsimp only;rw [take_snoc hk,hx,List.map_append];exact (hz.up uX.up).snoc (sm_shut (by omega) (by omega) hX hy24X hy27X) Z⟩ (by dsimp only;omega)
  refine .al Fx.zero208 Z fun b6 => .h1<|.ct (X := Value) Fx.call60 Z (fun W s => hit H1 _ W hs2 s.agr) Z fun y24 H24 hy24 u24 => ?_
  obtain ⟨q24,d24,e24,_⟩ := hy24.sl
  simp only [List.cons.injEq,and_true,List.length_map] at e24
  subst e24
  refine .h1<|.ct (X := Value) Fx.call60 Z (fun W s => hie H24 _ W (hs3.up u24.up) s.agr) Z fun y27 H27 hy27 u27 => ?_
  obtain ⟨q27,d27,e27,_⟩ := hy27.sl
  simp only [List.cons.injEq,and_true,List.length_map] at e27
  subst e27
  have u5 := u24.trans u27
  have hs1b := hs1.up u5.up
  have hy24b := hy24.up u27.up
  refine .yv (.build Z (Fx.bld208_0_1_2_4_5 _ _ _ _ _ _ _ _ _)) Z<|.fn (tl := [_]) Z<|.sW .head Z Z Fx.size208 (by simp [Value.oneCell',strV]) Z<|.nt<|.sq<|.sr<|.yv (.fieldAddr Z Fx.field205_3) Z<|.yv (.load Z Fx.agg31 (.tail _<|.head _) Z) Z<|.yv (.lenSl Fx.sl31 Z) Z<|.m Z Z<|?_
  refine Sx.row0 27 4 ?_
  refine .nt<|.bk<|.lp (X := Nat × Hp × Value × List Value) [(3,_),(6,_),(9,_),(10,_),(11,_),(30,_),(31,_)] ⟨rfl,rfl,rfl,rfl,rfl,rfl,rfl,trivial⟩ [_,_] (fun z => [(32,.int .i64 (z.1 : Nat))]) (fun z => z.2.1) (fun z => [.row 27 4 z.2.2.1 z.1 z.2.2.2,.box b6 [.int .u8 kd.toNat,strV nm,strV hd,z.2.2.1,.slice q24 th.length d24,.slice q27 el.length d27] 208]) (fun z => z.1 ≤ ex.length ∧ HUp w H27 z.2.1 ∧ RepZ z.2.1 4 ((ex.take z.1).map (dEx .u8)) z.2.2.2) (fun z => ex.length - z.1) (0,H27,.slice none 0 0,[]) (fun _ s => s) ⟨rfl,trivial⟩ ⟨by simp,.refl,RepZ.nil⟩ fun z hC => ?_
  obtain ⟨j,H3,re,ys⟩ := z
  dsimp only at hC ⊢
  obtain ⟨hj0,u3,hze⟩ := hC
  refine .sr<|.yv (.lss Z Z) Z<|.nt<|.sq<|.cd Z (fun h33 => ?_) (fun h33 => ?_)
  ·try simp only [dt] at h33
   have hj : j < ex.length := by omega
   obtain ⟨bF,oF,cF,hpF,rF,lF,mF⟩ := (hs1b.up u3.up).elem (map_at (f := dEx .i64) hj)
   cases hpF
   have hnj : Ex.all narrow ex[j] = true := List.all_eq_true.1 k5 _ (List.getElem_mem hj)
   refine .sk<|.tN<|.sq<|.bk<|.sr<|.yv (.indexSl Fx.sl31 Z Z Z (by omega) (q := oF + j * 4) Z) Z<|.yv (.loadMW Z Fx.agg33 mF lF) Z<|.al Fx.zero33 Z fun b8 => .sV .head Z Z Fx.size33 lF rF.one Z<|.nt<|.fl (trip := [(_,_,_),(_,_,_),(_,_,_),(_,_,_),(_,_,_)]) 5 [(0,0),(1,0),(2,0),(3,1),(4,1)] (by kernel_rfl) (by kernel_rfl) Z<|.yv (.fieldAddr Z Fx.field208_3) Z<|.yv (.load Z Fx.agg25 (.tail _<|.tail _<|.head _) Z) Z<|.yv (.loadW Z Fx.agg33 (.head _) lF) Z<|.ct (X := List Value) Fx.call14 Z (fun W s => expr_any _ hnj H3 cF W rF s.agr) Z fun x39 H39 hx39 u39 => ?_
   generalize hxj : ex[j] = xj at hx39
   obtain ⟨op2,nm2,n2,args2⟩ := xj
   obtain ⟨pz,cz,rfl,hz2,hnm2⟩ := ex_open hx39
   exact .bl Z (Fx.bsl25_1 _ _ _ _) Z fun b40 => .fn (tl := [_,_,_]) Z<|.ap (news := [.int .u8 op2.toNat,strV nm2,.int .i64 n2.toInt,.slice pz args2.length cz]) Fx.row25 Z (fun _ => (.tail<|.tail<|.head)) Z (.box (.head _) z0) Z (by simp [Value.oneCell',strV]) (by simp [maxLen];omega) (by omega) Z fun r41 _ => .ra (.tail _<|.tail _<|.head _) fun p41 c41 e41 => .yv (.fieldAddr Z Fx.field208_3) Z<|.st (.tail<|.tail<|.tail<|.head) Z Z Fx.size25 (by rw [e41];rfl) (nb Z) Z<|.nl<|.bN<|.tN<|.rg<|.yv (.add Z Z (w6 (by omega))) Z<|.m Z Z<|.nt<|.ag (x := (j,H3,re,ys)) (j + 1,H39,r41,ys ++ [.int .u8 op2.toNat,strV nm2,.int .i64 n2.toInt,.slice pz args2.length cz]) ⟨rfl,trivial⟩ ⟨rfl,rfl,rfl,rfl,rfl,rfl,rfl,trivial⟩ (fun _ s => (s.pick [2,3,4,5] _ Z Z)) ⟨by dsimp only;omega,u3.trans u39,by dsimp only;rw [take_snoc hj,hxj,List.map_append];exact (hze.up u39.up).snoc hx39 Z⟩ (by dsimp only;omega)
  try simp only [df] at h33
  obtain rfl : j = ex.length := by omega
  rw [List.take_length] at hze
  refine Sx.freezeSeq (ds := ex.map (dEx .u8)) (by simp) hze fun H3 pX cX u6 eX hX => ?_
  subst eX
  have uX := u5.trans (u3.trans u6)
  have hy24X := hy24b.up (u3.trans u6).up
  have hy27X := hy27.up (u3.trans u6).up
  exact .ex<|.tE<|.tE<|.bE<|.tN<|.rg<|.m Z Z<|.yv (.loadW Z Fx.agg208 (.head _) Z) Z<|.bl Z (Fx.bsl159_1 _ _ _ _ _ _) Z fun b46 => .ap (news := [.int .u8 kd.toNat,strV nm,strV hd,.slice pX ex.length cX,.slice q24 th.length d24,.slice q27 el.length d27]) Fx.row159 Z (fun _ => (.tail<|.tail<|.tail<|.head)) Z (.box (.head _) z0) Z (by simp [Value.oneCell',strV]) (by simp [maxLen];omega) (by omega) Z fun r47 _ => .a Z Z<|.nl<|.bN<|.tN<|.rg<|.yv (.add Z Z (w6 (by omega))) Z<|.m Z Z<|.nt<|.ag (x := (k,H1,r,xs)) (k + 1,H3,r47,xs ++ [.int .u8 kd.toNat,strV nm,strV hd,.slice pX ex.length cX,.slice q24 th.length d24,.slice q27 el.length d27]) ⟨rfl,rfl,trivial⟩ ⟨rfl,rfl,trivial⟩ (fun _ s => (s.pick [3] _ Z Z)) ⟨by dsimp only;omega,u1.trans uX,by dsimp only;rw [take_snoc hk,hx,List.map_append];exact (hz.up uX.up).snoc (sm_shut (by omega) (by omega) hX hy24X hy27X) Z⟩ (by dsimp only;omega)
 try simp only [df] at h12
 obtain rfl : k = l.length := by omega
 rw [List.take_length] at hz
 refine .ex<|.tE<|.tE<|.bE<|.tN<|.sr<|.m Z Z<|.a Z Z<|.nt<|.rt<|?_
 refine Sx.freezeSeq (ds := l.map (dSm .u8)) (by simp) hz fun HZ pZ cZ uZ eZ hZ => ?_
 exact Sx.ret1 (.inl rfl) rfl (.tmp rfl) fun W t => ⟨r,HZ,hZ,rfl,(u1.trans uZ).grow t⟩
end Go.Proofs.YthhoebdlfjffkaaGreatDoor
