/- Texts of the proof, one behind the other. -/
import Derived.Test.YtohfacbajcenoaaGreatDoorMf
import Derived.Test.YtohfacbajcenoaaGreatDoorTie
import Derived.ProofKit
import Derived.OpenShut
import Derived.ShutString
import Derived.Lay
import Derived.Stop.LaidErr
import Derived.Stop.Joined
import Derived.Shelf.Vars
import Derived.Lib.LaidTab
import Derived.Lib.SmallJoins
import Derived.SevenTiedAt
set_option linter.all false
set_option maxRecDepth 100000
namespace Go.Proofs.YtohfacbajcenoaaGreatDoor
open Go.RowKit Go.Par Go.Sx
theorem tr2_refl {H : Hp} : Tr2 H H := ⟨H,trf_refl,trf_refl⟩
theorem Trf.two {H H' : Hp} (t : Trf H H') : Tr2 H H' := ⟨H',t,trf_refl⟩
theorem tr2_up {H H1 H2 : Hp} (u : Up H H1) (t : Tr2 H1 H2) : Tr2 H H2 := by
 obtain ⟨K,a,b⟩ := t;exact ⟨K,trf_up u a,b⟩
theorem tmod2 {i : Int} (h : 0 ≤ i) : i.tmod 2 = i % 2 ∧ 0 ≤ i % 2 ∧ i % 2 ≤ 100 := ⟨Int.tmod_eq_emod_of_nonneg h,by omega,by omega⟩
theorem atN_le (n m : Nat) : atN n m ≤ n := by
 unfold atN
 split
 ·exact Nat.zero_le _
 ·exact Nat.mod_le _ _
set_option maxHeartbeats 8000000 in
set_option maxRecDepth 100000 in
theorem apply8_st {w0 : World} {H0 H : Hp} {W : World} {bs : List Res} {f : Ft} {cs : List Value} {M D : Nat} (c : Chg) (I : Inv w0 H0 H) (h : Rep H (dFt .i64 f) cs) (hp : posF f) (hb : bndF M D f) (hM : M ≤ 1000) (s : St H w0 bs W) :
 Calls Tryz.prog 23 #[.agg cs.toArray,.agg (cChg c).toArray] W fun e W' => ∃ z : Hp,(Tr2 H z ∧ Inv w0 H0 z) ∧ e = .returned (.tuple #[]) ∧ St z w0 bs W' := by
 obtain ⟨q1,d1,q2,d2,q3,d3,rfl,hn,h1,h2,h3⟩ := ft_open h;have hc1 := h1.cap;have hc2 := h2.cap;have hc3 := h3.cap;refine Sx.enterS Tryz.func23 rfl Tryz.ntmps23 rfl s ?_;refine .sr<|.bx Z Z Z fun b2 => .bx Z Z Z fun b3 => .ns<|.yv (.fieldAddr Z Fx.field53_1) Z<|.yv (.load Z Fx.agg5 (.head _) Z) Z<|.yv (.fieldAddr Z Fx.field31_3) Z<|.yv (.load Z Fx.agg29 (.tail _<|.head _) Z) Z<|.yv (.lenSl Fx.sl29 Z) Z<|.yv (.call Fx.call42 Z (fun W t => at8_any H c.i f.comps.length W t.agr)) Z<|.a Z Z<|.nt<|.sq<|?_
 obtain ⟨i1,hi1⟩ : ∃ q,q = atN c.i.toNat f.comps.length := ⟨_,rfl⟩;rw [← hi1];have hi : i1 < f.comps.length := by rw [hi1];exact atN_lt hp.1
 obtain ⟨bC,oC,csC,eC,rC,lC,mC,loC,aC⟩ := h3.elemA (map_at hi) rfl;cases eC;have hpC := hp.2 _ (List.getElem_mem hi);have hbC0 := hb.all _ (List.getElem_mem hi);generalize f.comps[i1] = cp at rC hpC hbC0;obtain ⟨q4,d4,q5,d5,rfl,nmC,hvC,hsC⟩ := cp_open rC;obtain ⟨arC,tC,hHC,hbC,hoC⟩ := I.tgt loC mC (by simp);have hoC : oC + i1 * 3 + 3 ≤ arC.size := hoC;have hcv := hvC.cap;have hcs := hsC.cap;refine .rg<|.yv (.fieldAddr Z Fx.field31_3) Z<|.yv (.load Z Fx.agg29 (.tail _<|.head _) Z) Z<|.m Z Z<|.yv (.indexSl Fx.sl29 Z Z (i := i1) Z hi (q := oC + i1 * 3) Z) Z<|.yv (.loadMW Z Fx.agg78 mC Z) Z<|.al Fx.zero78 Z fun b5 => .sW .head Z Z Fx.size78 (by simp [Value.oneCell',strV]) Z<|.ns<|.yv (.fieldAddr Z Fx.field53_2) Z<|.yv (.load Z Fx.agg5 (.tail _<|.head _) Z) Z<|.yv (.fieldAddr Z Fx.field78_2) Z<|.yv (.load Z Fx.agg76 (.head _) Z) Z<|.yv (.lenSl Fx.sl76 Z) Z<|.yv (.call Fx.call42 Z (fun W t => at8_any H c.j cp.vers.length W t.agr)) Z<|.a Z Z<|.nt<|.sq<|?_
 obtain ⟨i2,hi2⟩ : ∃ q,q = atN c.j.toNat cp.vers.length := ⟨_,rfl⟩;rw [← hi2];have hv2 : i2 < cp.vers.length := by rw [hi2];exact atN_lt hpC.2.1
 obtain ⟨bV,oV,csV,eV,rV,lV,mV⟩ := hsC.elem (map_at hv2);cases eV;have hvn := hpC.2.2 _ (List.getElem_mem hv2);have hvb := hbC0.all _ (List.getElem_mem hv2);generalize cp.vers[i2] = vv at rV hvn hvb;obtain ⟨q6,d6,rfl,hhd⟩ := vs_open rV;have hcv2 := hhd.cap;obtain ⟨i3,hi3⟩ : ∃ q,q = atN (c.j.toNat / 4) vv.length := ⟨_,rfl⟩;have hh3 : i3 < vv.length := by rw [hi3];exact atN_lt (List.length_pos_iff.2 hvn)
 obtain ⟨bH,oH,csH,eH,rH,lH,mH,loH,aH⟩ := hhd.elemA (map_at hh3) rfl;cases eH;have hbH0 := hvb.2 _ (List.getElem_mem hh3);generalize vv[i3] = hd at rH hbH0;obtain ⟨q7,d7,q8,d8,rfl,nmH,hps,hbd⟩ := hd_openP rH;obtain ⟨arH,tH,hHH,hbH,hoH⟩ := I.tgt loH mH (by simp);have hoH : oH + i3 * 3 + 3 ≤ arH.size := hoH;have hpcap := (dPs_seq hps).cap;have hbcap := hbd.cap;refine .fl (trip := [(_,_,_),(_,_,_),(_,_,_),(_,_,_),(_,_,_),(_,_,_),(_,_,_),(_,_,_),(_,_,_),(_,_,_)]) 10 [(0,0),(1,0),(2,0),(3,0),(4,0),(5,0),(6,0),(7,0),(8,0),(9,0)] (by kernel_rfl) (by kernel_rfl) Z<|.yv (.fieldAddr Z Fx.field53_2) Z<|.yv (.load Z Fx.agg5 (.tail _<|.head _) Z) Z<|.yv (.quo Z Z (by decide) (c := ((c.j.toNat / 4 : Nat) : Int)) (qu8 _ c.j.toNat_lt (by decide))) Z<|.yv (.fieldAddr Z Fx.field78_2) Z<|.yv (.load Z Fx.agg76 (.head _) Z) Z<|.m Z Z<|.yv (.indexSl Fx.sl76 Z Z (i := i2) Z hv2 (q := oV + i2 * 1) Z) Z<|.yv (.loadM Z Fx.agg79 mV (k := 0) Z Z) Z<|.yv (.lenSl Fx.sl79 Z) Z<|.yv (.cast (v' := .int .i64 (i3 : Nat)) (.call Fx.call42 Z (fun W s => by have := at8_any H (UInt8.ofNat (c.j.toNat / 4)) vv.length W s.agr;rw [u8q4] at this;exact this)) (by rw [hi3])) Z<|.fn (tl := [_]) Z<|.a Z Z<|.ns<|.yv (.fieldAddr Z Fx.field53_0) Z<|.yv (.load Z Fx.agg5 (.tail _<|.head _) Z) Z<|.yv (.rem Z Z (by decide) (c := ((c.wh.toNat % 10 : Nat) : Int)) (tm2 _ 10)) Z<|.nt<|.bk<|.sr<|.yv (.eql Z Z) Z<|.a Z Z<|.nt<|.cd Z (fun h67 => ?_) (fun h67 => ?_)
 ·try simp only [dt] at h67
  refine .sr<|.yv (.fieldAddr Z Fx.field31_1) Z<|.yv (.load Z Fx.agg27 (.tail _<|.tail _<|.head _) Z) Z<|.yv (.lenSl Fx.sl27 Z) Z<|.yv (.gtr Z Z) Z<|.nt<|.cd Z (fun h72 => ?_) (fun h72 => ?_)
  ·try simp only [dt] at h72
   have hf0 : 0 < f.flags.length := by omega
   obtain ⟨j1,hj1⟩ : ∃ q,q = atN c.k.toNat f.flags.length := ⟨_,rfl⟩;have hj : j1 < f.flags.length := by rw [hj1];exact atN_lt hf0
   obtain ⟨bF,oF,csF,eF,rF,lF,mF,loF,aF⟩ := h1.elemA (map_at hj) rfl;cases eF;obtain ⟨rfl,nmF⟩ := fg_open rF;obtain ⟨arF,tF,hHF,hbF,hoF⟩ := I.tgt loF mF (by simp);have hoF : oF + j1 * 2 + 2 ≤ arF.size := hoF;refine .fl (trip := [(_,_,_),(_,_,_),(_,_,_),(_,_,_),(_,_,_),(_,_,_),(_,_,_),(_,_,_),(_,_,_),(_,_,_),(_,_,_)]) 11 [(0,0),(1,0),(2,0),(3,0),(4,0),(5,0),(6,0),(7,0),(8,0),(9,0),(10,0)] (by kernel_rfl) (by kernel_rfl) Z<|.yv (.fieldAddr Z Fx.field31_1) Z<|.yv (.load Z Fx.agg27 (.tail _<|.tail _<|.head _) Z) Z<|.yv (.fieldAddr Z Fx.field53_3) Z<|.yv (.load Z Fx.agg5 (.tail _<|.head _) Z) Z<|.yv (.fieldAddr Z Fx.field31_1) Z<|.yv (.load Z Fx.agg27 (.tail _<|.tail _<|.head _) Z) Z<|.yv (.lenSl Fx.sl27 Z) Z<|.yv (.cast (v' := .int .i64 (j1 : Nat)) (.call Fx.call42 Z (fun W t => at8_any H c.k f.flags.length W t.agr)) (by rw [hj1])) Z<|.yv (.fieldAddr Z Fx.field53_4) Z<|.yv (.load Z Fx.agg5 (.tail _<|.head _) Z) Z<|.yv (.call Fx.call43 Z (fun W t => name8_any H c.nm W t.agr)) Z<|.fn (tl := [_,_,_]) Z<|.yv (.indexSl Fx.sl27 Z Z (i := j1) Z hj (q := oF + j1 * 2) Z) Z<|.yv (.fieldAddr Z Fx.field88_0) Z<|.stH Z Z Fx.size9 Z hHF hbF (show oF + j1 * 2 + 0 < arF.size by omega) fun H3 e3 => ?_
   have tr : Tr2 H H3 := by rw [e3];exact (tr_str mF (i := 0) rfl hHF (show (nmAt c.nm.toNat).length ≤ 1000000 by have := nmAt_len c.nm.toNat;omega)).two
   have I3 : Inv w0 H0 H3 := by rw [e3];exact I.put hbF
   refine .nl<|.bN<|?_
   exact Sx.retN (.inr rfl) rfl .nil rfl fun W t => ⟨H3,⟨tr,I3⟩,rfl,t.drop.drop.drop⟩
  try simp only [df] at h72
  refine .sk<|.bN<|?_
  exact Sx.retN (.inr rfl) rfl .nil rfl fun W t => ⟨H,⟨tr2_refl,I⟩,rfl,t.drop.drop.drop⟩
 try simp only [df] at h67
 refine .sr<|.yv (.eql Z Z) Z<|.a Z Z<|.nt<|.cd Z (fun h86 => ?_) (fun h86 => ?_)
 ·try simp only [dt] at h86
  refine .sr<|.yv (.fieldAddr Z Fx.field31_2) Z<|.yv (.load Z Fx.agg28 (.tail _<|.tail _<|.head _) Z) Z<|.yv (.lenSl Fx.sl28 Z) Z<|.yv (.gtr Z Z) Z<|.nt<|.cd Z (fun h91 => ?_) (fun h91 => ?_)
  ·try simp only [dt] at h91
   have hf0 : 0 < f.links.length := by omega
   refine .sq<|?_
   obtain ⟨j1,hj1⟩ : ∃ q,q = atN c.k.toNat f.links.length := ⟨_,rfl⟩;have hj : j1 < f.links.length := by rw [hj1];exact atN_lt hf0
   obtain ⟨bF,oF,csF,eF,rF,lF,mF,loF,aF⟩ := h2.elemA (map_at hj) rfl;cases eF;obtain ⟨rfl,nmF,nmG⟩ := lk_open rF;obtain ⟨arF,tF,hHF,hbF,hoF⟩ := I.tgt loF mF (by simp);have hoF : oF + j1 * 3 + 3 ≤ arF.size := hoF;refine .fl (trip := [(_,_,_),(_,_,_),(_,_,_),(_,_,_),(_,_,_),(_,_,_),(_,_,_),(_,_,_),(_,_,_)]) 9 [(0,0),(1,0),(2,0),(3,0),(4,0),(5,0),(6,0),(7,0),(8,0)] (by kernel_rfl) (by kernel_rfl) Z<|.yv (.fieldAddr Z Fx.field31_2) Z<|.yv (.load Z Fx.agg28 (.tail _<|.tail _<|.head _) Z) Z<|.yv (.fieldAddr Z Fx.field53_3) Z<|.yv (.load Z Fx.agg5 (.tail _<|.head _) Z) Z<|.yv (.fieldAddr Z Fx.field31_2) Z<|.yv (.load Z Fx.agg28 (.tail _<|.tail _<|.head _) Z) Z<|.yv (.lenSl Fx.sl28 Z) Z<|.yv (.cast (v' := .int .i64 (j1 : Nat)) (.call Fx.call42 Z (fun W t => at8_any H c.k f.links.length W t.agr)) (by rw [hj1])) Z<|.yv (.indexSl Fx.sl28 Z Z (i := j1) Z hj (q := oF + j1 * 3) Z) Z<|.fn (tl := [_]) Z<|.a Z Z<|.ns<|.yv (.fieldAddr Z Fx.field53_2) Z<|.yv (.load Z Fx.agg5 (.tail _<|.head _) Z) Z<|.yv (.rem Z Z (by decide) (c := ((c.j.toNat % 2 : Nat) : Int)) (tm2 _ 2)) Z<|.yv (.eql Z Z) Z<|.nt<|.cd Z (fun h104 => ?_) (fun h104 => ?_)
   ·try simp only [dt] at h104
    refine .rg<|.m Z Z<|.yv (.fieldAddr Z Fx.field53_4) Z<|.yv (.load Z Fx.agg5 (.tail _<|.head _) Z) Z<|.yv (.call Fx.call43 Z (fun W t => name8_any H c.nm W t.agr)) Z<|.yv (.nilCheck Z) Z<|.yv (.fieldAddr Z Fx.field91_0) Z<|.stH Z Z Fx.size9 Z hHF hbF (show oF + j1 * 3 + 0 < arF.size by omega) fun H3 e3 => ?_
    have tr : Tr2 H H3 := by rw [e3];exact (tr_str mF (i := 0) rfl hHF (show (nmAt c.nm.toNat).length ≤ 1000000 by have := nmAt_len c.nm.toNat;omega)).two
    have I3 : Inv w0 H0 H3 := by rw [e3];exact I.put hbF
    refine .nl<|.bN<|?_
    exact Sx.retN (.inr rfl) rfl .nil rfl fun W t => ⟨H3,⟨tr,I3⟩,rfl,t.drop.drop.drop⟩
   try simp only [df] at h104
   refine .rg<|.m Z Z<|.yv (.fieldAddr Z Fx.field53_4) Z<|.yv (.load Z Fx.agg5 (.tail _<|.head _) Z) Z<|.yv (.call Fx.call43 Z (fun W t => name8_any H c.nm W t.agr)) Z<|.yv (.nilCheck Z) Z<|.yv (.fieldAddr Z Fx.field91_1) Z<|.stH Z Z Fx.size9 Z hHF hbF (show oF + j1 * 3 + 1 < arF.size by omega) fun H3 e3 => ?_
   have tr : Tr2 H H3 := by rw [e3];exact (tr_str mF (i := 1) rfl hHF (show (nmAt c.nm.toNat).length ≤ 1000000 by have := nmAt_len c.nm.toNat;omega)).two
   have I3 : Inv w0 H0 H3 := by rw [e3];exact I.put hbF
   refine .nl<|.bN<|?_
   exact Sx.retN (.inr rfl) rfl .nil rfl fun W t => ⟨H3,⟨tr,I3⟩,rfl,t.drop.drop.drop⟩
  try simp only [df] at h91
  refine .sk<|.bN<|?_
  exact Sx.retN (.inr rfl) rfl .nil rfl fun W t => ⟨H,⟨tr2_refl,I⟩,rfl,t.drop.drop.drop⟩
 try simp only [df] at h86
 refine .sr<|.yv (.eql Z Z) Z<|.a Z Z<|.nt<|.cd Z (fun h117 => ?_) (fun h117 => ?_)
 ·try simp only [dt] at h117
  refine .fl (trip := [(_,_,_),(_,_,_),(_,_,_),(_,_,_),(_,_,_),(_,_,_)]) 6 [(0,0),(1,0),(2,0),(3,0),(4,0),(5,0)] (by kernel_rfl) (by kernel_rfl) Z<|.yv (.fieldAddr Z Fx.field31_3) Z<|.yv (.load Z Fx.agg29 (.tail _<|.tail _<|.head _) Z) Z<|.m Z Z<|.yv (.fieldAddr Z Fx.field53_4) Z<|.yv (.load Z Fx.agg5 (.tail _<|.head _) Z) Z<|.yv (.call Fx.call43 Z (fun W t => name8_any H c.nm W t.agr)) Z<|.fn (tl := [_,_,_]) Z<|.yv (.indexSl Fx.sl29 Z Z (i := i1) Z hi (q := oC + i1 * 3) Z) Z<|.yv (.fieldAddr Z Fx.field78_0) Z<|.stH Z Z Fx.size9 Z hHC hbC (show oC + i1 * 3 + 0 < arC.size by omega) fun H3 e3 => ?_
  have tr : Tr2 H H3 := by rw [e3];exact (tr_str mC (i := 0) rfl hHC (show (nmAt c.nm.toNat).length ≤ 1000000 by have := nmAt_len c.nm.toNat;omega)).two
  have I3 : Inv w0 H0 H3 := by rw [e3];exact I.put hbC
  refine .nl<|.bN<|?_
  exact Sx.retN (.inr rfl) rfl .nil rfl fun W t => ⟨H3,⟨tr,I3⟩,rfl,t.drop.drop.drop⟩
 try simp only [df] at h117
 refine .sr<|.yv (.eql Z Z) Z<|.a Z Z<|.nt<|.cd Z (fun h127 => ?_) (fun h127 => ?_)
 ·try simp only [dt] at h127
  refine .sq<|?_
  obtain ⟨j1,hj1⟩ : ∃ q,q = atN c.k.toNat cp.vars.length := ⟨_,rfl⟩;have hj : j1 < cp.vars.length := by rw [hj1];exact atN_lt hpC.1
  obtain ⟨bF,oF,csF,eF,rF,lF,mF,loF,aF⟩ := hvC.elemA (map_at hj) rfl;cases eF;have hin := hbC0.ini _ (List.getElem_mem hj);generalize cp.vars[j1] = vr at rF hin;obtain ⟨rfl,nmF⟩ := vr_open rF;obtain ⟨arF,tF,hHF,hbF,hoF⟩ := I.tgt loF mF (by simp);have hoF : oF + j1 * 3 + 3 ≤ arF.size := hoF;refine .fl (trip := [(_,_,_),(_,_,_),(_,_,_),(_,_,_),(_,_,_),(_,_,_),(_,_,_),(_,_,_),(_,_,_)]) 9 [(0,0),(1,0),(2,0),(3,0),(4,0),(5,0),(6,0),(7,0),(8,0)] (by kernel_rfl) (by kernel_rfl) Z<|.yv (.fieldAddr Z Fx.field78_1) Z<|.yv (.load Z Fx.agg75 (.head _) Z) Z<|.yv (.fieldAddr Z Fx.field53_3) Z<|.yv (.load Z Fx.agg5 (.tail _<|.head _) Z) Z<|.yv (.fieldAddr Z Fx.field78_1) Z<|.yv (.load Z Fx.agg75 (.head _) Z) Z<|.yv (.lenSl Fx.sl75 Z) Z<|.yv (.cast (v' := .int .i64 (j1 : Nat)) (.call Fx.call42 Z (fun W t => at8_any H c.k cp.vars.length W t.agr)) (by rw [hj1])) Z<|.yv (.indexSl Fx.sl75 Z Z (i := j1) Z hj (q := oF + j1 * 3) Z) Z<|.fn (tl := [_]) Z<|.a Z Z<|.ns<|.yv (.fieldAddr Z Fx.field53_2) Z<|.yv (.load Z Fx.agg5 (.tail _<|.head _) Z) Z<|.yv (.rem Z Z (by decide) (c := ((c.j.toNat % 2 : Nat) : Int)) (tm2 _ 2)) Z<|.yv (.eql Z Z) Z<|.nt<|.cd Z (fun h141 => ?_) (fun h141 => ?_)
  ·try simp only [dt] at h141
   refine .rg<|.m Z Z<|.yv (.fieldAddr Z Fx.field53_4) Z<|.yv (.load Z Fx.agg5 (.tail _<|.head _) Z) Z<|.yv (.call Fx.call43 Z (fun W t => name8_any H c.nm W t.agr)) Z<|.yv (.nilCheck Z) Z<|.yv (.fieldAddr Z Fx.field98_0) Z<|.stH Z Z Fx.size9 Z hHF hbF (show oF + j1 * 3 + 0 < arF.size by omega) fun H3 e3 => ?_
   have tr : Tr2 H H3 := by rw [e3];exact (tr_str mF (i := 0) rfl hHF (show (nmAt c.nm.toNat).length ≤ 1000000 by have := nmAt_len c.nm.toNat;omega)).two
   have I3 : Inv w0 H0 H3 := by rw [e3];exact I.put hbF
   refine .nl<|.bN<|?_
   exact Sx.retN (.inr rfl) rfl .nil rfl fun W t => ⟨H3,⟨tr,I3⟩,rfl,t.drop.drop.drop⟩
  try simp only [df] at h141
  refine .sr<|.yv (.fieldAddr Z Fx.field53_2) Z<|.yv (.load Z Fx.agg5 (.tail _<|.head _) Z) Z<|.yv (.quo Z Z (by decide) (c := ((c.j.toNat / 2 : Nat) : Int)) (qu8 _ c.j.toNat_lt (by decide))) Z<|.yv (.rem Z Z (by decide) (c := ((c.j.toNat / 2 % 3 : Nat) : Int)) (tm2 _ 3)) Z<|.yv (.eql Z Z) Z<|.m Z Z<|.b2 (fun h153 => ?_) (fun h153 => ?_)
  ·try simp only [dt] at h153
   refine .gF Z Z Z Z<|.gF Z Z Z Z<|.gF Z Z Z Z<|.gF Z Z Z Z<|.gF Z Z Z Z<|.yv (.pickT Z Z) Z<|.nt<|.cT Z<|.rg<|.m Z Z<|.m Z Z<|.yv (.fieldAddr Z Fx.field53_2) Z<|.yv (.load Z Fx.agg5 (.tail _<|.head _) Z) Z<|.yv (.quo Z Z (by decide) (c := ((c.j.toNat / 2 : Nat) : Int)) (qu8 _ c.j.toNat_lt (by decide))) Z<|.yv (.rem Z Z (by decide) (c := ((c.j.toNat / 2 % 3 : Nat) : Int)) (tm2 _ 3)) Z<|.yv (.conv Z Fx.int5 Fx.int3 (c := ((c.j.toNat / 2 % 3 : Nat) : Int)) (by simp only [IntKind.wrap,IntKind.signed,IntKind.bits];simp;omega)) Z<|.yv (.add Z Z (c := ((1 + c.j.toNat / 2 % 3 : Nat) : Int)) ((w6 (by omega)).trans (by omega))) Z<|.yv (.nilCheck Z) Z<|.yv (.fieldAddr Z Fx.field98_1) Z<|.stH Z Z Fx.size3 Z hHF hbF (show oF + j1 * 3 + 1 < arF.size by omega) fun H3 e3 => ?_
   have hH3 : H3 bF = some (.cells (arF.setIfInBounds (oF + j1 * 3 + 1) (.int .i64 ((1 + c.j.toNat / 2 % 3 : Nat) : Int))) tF (0,0)) := by rw [e3];exact putH_at
   have m3 : MemAt H3 bF (oF + j1 * 3 + 2) [.int .i64 vr.init.toInt] := by rw [e3];exact memAt_put_ne mF hHF (i := 1) (j := 2) rfl (by decide)
   have I30 : Inv w0 H0 H3 := by rw [e3];exact I.put hbF
   have t30 : Trf H H3 := by rw [e3];exact tr_int mF (i := 1) rfl hHF (by omega) (by omega)
   refine .yv (.nilCheck Z) Z<|.yv (.fieldAddr Z Fx.field98_2) Z<|.stH Z Z Fx.size2 Z hH3 hbF (by rw [Array.size_setIfInBounds];omega) fun H4 e4 => ?_
   have tr : Tr2 H H4 := ⟨H3,t30,by rw [e4];exact tr_int m3 (i := 0) rfl hH3 (by decide) (by decide)⟩;have I4 : Inv w0 H0 H4 := by rw [e4];exact I30.put hbF
   refine .nl<|.bN<|?_
   exact Sx.retN (.inr rfl) rfl .nil rfl fun W t => ⟨H4,⟨tr,I4⟩,rfl,t.drop.drop.drop⟩
  try simp only [df] at h153
  refine .gd Z Z<|.yv (.move Z) Z<|.gd Z Z<|.yv (.nilCheck Z) Z<|.gd Z Z<|.yv (.fieldAddr Z Fx.field98_1) Z<|.gd Z Z<|.yv (.loadM Z Fx.agg3 mF (k := 1) Z Z) Z<|.gd Z Z<|.yv (.eql Z Z) Z<|.yv (.pickF Z Z) Z<|.nt<|.cd Z (fun h159 => ?_) (fun h159 => ?_)
  ·try simp only [dt] at h159
   refine .rg<|.m Z Z<|.m Z Z<|.yv (.fieldAddr Z Fx.field53_2) Z<|.yv (.load Z Fx.agg5 (.tail _<|.head _) Z) Z<|.yv (.quo Z Z (by decide) (c := ((c.j.toNat / 2 : Nat) : Int)) (qu8 _ c.j.toNat_lt (by decide))) Z<|.yv (.rem Z Z (by decide) (c := ((c.j.toNat / 2 % 3 : Nat) : Int)) (tm2 _ 3)) Z<|.yv (.conv Z Fx.int5 Fx.int3 (c := ((c.j.toNat / 2 % 3 : Nat) : Int)) (by simp only [IntKind.wrap,IntKind.signed,IntKind.bits];simp;omega)) Z<|.yv (.add Z Z (c := ((1 + c.j.toNat / 2 % 3 : Nat) : Int)) ((w6 (by omega)).trans (by omega))) Z<|.yv (.nilCheck Z) Z<|.yv (.fieldAddr Z Fx.field98_1) Z<|.stH Z Z Fx.size3 Z hHF hbF (show oF + j1 * 3 + 1 < arF.size by omega) fun H3 e3 => ?_
   have hH3 : H3 bF = some (.cells (arF.setIfInBounds (oF + j1 * 3 + 1) (.int .i64 ((1 + c.j.toNat / 2 % 3 : Nat) : Int))) tF (0,0)) := by rw [e3];exact putH_at
   have m3 : MemAt H3 bF (oF + j1 * 3 + 2) [.int .i64 vr.init.toInt] := by rw [e3];exact memAt_put_ne mF hHF (i := 1) (j := 2) rfl (by decide)
   have I30 : Inv w0 H0 H3 := by rw [e3];exact I.put hbF
   have t30 : Trf H H3 := by rw [e3];exact tr_int mF (i := 1) rfl hHF (by omega) (by omega)
   refine .yv (.nilCheck Z) Z<|.yv (.fieldAddr Z Fx.field98_2) Z<|.stH Z Z Fx.size2 Z hH3 hbF (by rw [Array.size_setIfInBounds];omega) fun H4 e4 => ?_
   have tr : Tr2 H H4 := ⟨H3,t30,by rw [e4];exact tr_int m3 (i := 0) rfl hH3 (by decide) (by decide)⟩;have I4 : Inv w0 H0 H4 := by rw [e4];exact I30.put hbF
   refine .nl<|.bN<|?_
   exact Sx.retN (.inr rfl) rfl .nil rfl fun W t => ⟨H4,⟨tr,I4⟩,rfl,t.drop.drop.drop⟩
  try simp only [df] at h159
  refine .fl (trip := [(_,_,_),(_,_,_),(_,_,_),(_,_,_),(_,_,_),(_,_,_),(_,_,_),(_,_,_),(_,_,_),(_,_,_),(_,_,_),(_,_,_),(_,_,_),(_,_,_),(_,_,_),(_,_,_),(_,_,_),(_,_,_)]) 18 [(0,0),(1,0),(2,0),(3,0),(4,0),(5,0),(6,0),(7,0),(8,0),(9,0),(10,0),(11,0),(12,0),(13,0),(14,0),(15,3),(16,0),(17,0)] (by kernel_rfl) (by kernel_rfl) Z<|.m Z Z<|.m Z Z<|.yv (.fieldAddr Z Fx.field53_2) Z<|.yv (.load Z Fx.agg5 (.tail _<|.head _) Z) Z<|.yv (.quo Z Z (by decide) (c := ((c.j.toNat / 2 : Nat) : Int)) (qu8 _ c.j.toNat_lt (by decide))) Z<|.yv (.rem Z Z (by decide) (c := ((c.j.toNat / 2 % 3 : Nat) : Int)) (tm2 _ 3)) Z<|.yv (.conv Z Fx.int5 Fx.int3 (c := ((c.j.toNat / 2 % 3 : Nat) : Int)) (by simp only [IntKind.wrap,IntKind.signed,IntKind.bits];simp;omega)) Z<|.yv (.add Z Z (c := ((1 + c.j.toNat / 2 % 3 : Nat) : Int)) ((w6 (by omega)).trans (by omega))) Z<|.m Z Z<|.yv (.nilCheck Z) Z<|.yv (.fieldAddr Z Fx.field98_2) Z<|.yv (.loadM Z Fx.agg2 mF (k := 2) Z Z) Z<|.yv (.rem Z Z (by decide) (c := vr.init.toInt % 2) (tmod2 hin).1) Z<|.yv (.nilCheck Z) Z<|.yv (.fieldAddr Z Fx.field98_1) Z<|.stH Z Z Fx.size3 Z hHF hbF (show oF + j1 * 3 + 1 < arF.size by omega) (fun H3 e3 => (.done (by kernel_rfl)<|.done (by kernel_rfl)<|.yv (.rem Z Z (by decide) (c := vr.init.toInt % 2) (tmod2 hin).1)<|.done (by kernel_rfl)<|.done (by kernel_rfl)<|.done (by kernel_rfl)<|.done (by kernel_rfl)<|.done (by kernel_rfl)<|.done (by kernel_rfl)<|.done (by kernel_rfl)<|.done (by kernel_rfl)<|.done (by kernel_rfl)<|.done (by kernel_rfl)<|.yv (.move Z)<|.done (by kernel_rfl)<|.nl)) fun H3 e3 => ?_
  have hH3 : H3 bF = some (.cells (arF.setIfInBounds (oF + j1 * 3 + 1) (.int .i64 ((1 + c.j.toNat / 2 % 3 : Nat) : Int))) tF (0,0)) := by rw [e3];exact putH_at
  have m3 : MemAt H3 bF (oF + j1 * 3 + 2) [.int .i64 vr.init.toInt] := by rw [e3];exact memAt_put_ne mF hHF (i := 1) (j := 2) rfl (by decide)
  have I30 : Inv w0 H0 H3 := by rw [e3];exact I.put hbF
  have t30 : Trf H H3 := by rw [e3];exact tr_int mF (i := 1) rfl hHF (by omega) (by omega)
  refine .yv (.nilCheck Z) Z<|.yv (.fieldAddr Z Fx.field98_2) Z<|.fn (tl := [_]) Z<|.stH Z Z Fx.size2 Z hH3 hbF (by rw [Array.size_setIfInBounds];omega) fun H4 e4 => ?_
  have tr : Tr2 H H4 := ⟨H3,t30,by rw [e4];exact tr_int m3 (i := 0) rfl hH3 (tmod2 hin).2.1 (tmod2 hin).2.2⟩;have I4 : Inv w0 H0 H4 := by rw [e4];exact I30.put hbF
  refine .nl<|.bN<|?_
  exact Sx.retN (.inr rfl) rfl .nil rfl fun W t => ⟨H4,⟨tr,I4⟩,rfl,t.drop.drop.drop⟩
 try simp only [df] at h127
 refine .sr<|.yv (.eql Z Z) Z<|.a Z Z<|.nt<|.cd Z (fun h189 => ?_) (fun h189 => ?_)
 ·try simp only [dt] at h189
  refine .fl (trip := [(_,_,_),(_,_,_),(_,_,_),(_,_,_),(_,_,_),(_,_,_),(_,_,_),(_,_,_),(_,_,_)]) 9 [(0,0),(1,0),(2,0),(3,0),(4,0),(5,0),(6,0),(7,0),(8,0)] (by kernel_rfl) (by kernel_rfl) Z<|.yv (.fieldAddr Z Fx.field78_2) Z<|.yv (.load Z Fx.agg76 (.head _) Z) Z<|.m Z Z<|.yv (.indexSl Fx.sl76 Z Z (i := i2) Z hv2 (q := oV + i2 * 1) Z) Z<|.yv (.loadM Z Fx.agg79 mV (k := 0) Z Z) Z<|.m Z Z<|.yv (.fieldAddr Z Fx.field53_4) Z<|.yv (.load Z Fx.agg5 (.tail _<|.head _) Z) Z<|.yv (.call Fx.call43 Z (fun W t => name8_any H c.nm W t.agr)) Z<|.fn (tl := [_,_,_]) Z<|.yv (.indexSl Fx.sl79 Z Z (i := i3) Z hh3 (q := oH + i3 * 3) Z) Z<|.yv (.fieldAddr Z Fx.field82_0) Z<|.stH Z Z Fx.size9 Z hHH hbH (show oH + i3 * 3 + 0 < arH.size by omega) fun H3 e3 => ?_
  have tr : Tr2 H H3 := by rw [e3];exact (tr_str mH (i := 0) rfl hHH (show (nmAt c.nm.toNat).length ≤ 1000000 by have := nmAt_len c.nm.toNat;omega)).two
  have I3 : Inv w0 H0 H3 := by rw [e3];exact I.put hbH
  refine .nl<|.bN<|?_
  exact Sx.retN (.inr rfl) rfl .nil rfl fun W t => ⟨H3,⟨tr,I3⟩,rfl,t.drop.drop.drop⟩
 try simp only [df] at h189
 refine .sr<|.yv (.eql Z Z) Z<|.a Z Z<|.nt<|.cd Z (fun h202 => ?_) (fun h202 => ?_)
 ·try simp only [dt] at h202
  refine .sr<|.yv (.fieldAddr Z Fx.field78_2) Z<|.yv (.load Z Fx.agg76 (.head _) Z) Z<|.m Z Z<|.yv (.indexSl Fx.sl76 Z Z (i := i2) Z hv2 (q := oV + i2 * 1) Z) Z<|.yv (.loadM Z Fx.agg79 mV (k := 0) Z Z) Z<|.m Z Z<|.yv (.indexSl Fx.sl79 Z Z (i := i3) Z hh3 (q := oH + i3 * 3) Z) Z<|.a Z Z<|.ns<|.m Z Z<|.yv (.nilCheck Z) Z<|.yv (.fieldAddr Z Fx.field82_1) Z<|.yv (.loadM Z Fx.agg54 mH (k := 1) Z Z) Z<|.yv (.lenSl Fx.sl54 Z) Z<|.yv (.gtr Z Z) Z<|.m Z Z<|.b2 (fun h217 => ?_) (fun h217 => ?_)
  ·try simp only [dt] at h217
   have hp0 : 0 < hd.ps.length := by omega
   refine .gd Z Z<|.yv (.fieldAddr Z Fx.field53_3) Z<|.gd Z Z<|.yv (.load Z Fx.agg5 (.tail _<|.head _) Z) Z<|.gd Z Z<|.yv (.rem Z Z (by decide) (c := ((c.k.toNat % 3 : Nat) : Int)) (tm2 _ 3)) Z<|.gd Z Z<|.yv (.gtr Z Z) Z<|.yv (.pickT Z Z) Z<|.nt<|.cd Z (fun h222 => ?_) (fun h222 => ?_)
   ·try simp only [dt] at h222
    obtain ⟨j1,hj1⟩ : ∃ q,q = atN c.k.toNat hd.ps.length := ⟨_,rfl⟩;have hj : j1 < hd.ps.length := by rw [hj1];exact atN_lt hp0
    obtain ⟨bF,oF,csF,eF,rF,lF,mF,loF,aF⟩ := (dPs_seq hps).elemA (map_at hj) rfl;cases eF;obtain ⟨rfl,nmF⟩ := str_open rF;obtain ⟨arF,tF,hHF,hbF,hoF⟩ := I.tgt loF mF (by simp);have hoF : oF + j1 * 1 + 1 ≤ arF.size := hoF;refine .fl (trip := [(_,_,_),(_,_,_),(_,_,_),(_,_,_),(_,_,_),(_,_,_),(_,_,_),(_,_,_),(_,_,_),(_,_,_),(_,_,_),(_,_,_),(_,_,_),(_,_,_),(_,_,_)]) 15 [(0,0),(1,0),(2,0),(3,0),(4,0),(5,0),(6,0),(7,0),(8,0),(9,0),(10,0),(11,0),(12,0),(13,0),(14,0)] (by kernel_rfl) (by kernel_rfl) Z<|.m Z Z<|.yv (.nilCheck Z) Z<|.yv (.fieldAddr Z Fx.field82_1) Z<|.yv (.loadM Z Fx.agg54 mH (k := 1) Z Z) Z<|.yv (.fieldAddr Z Fx.field53_3) Z<|.yv (.load Z Fx.agg5 (.tail _<|.head _) Z) Z<|.m Z Z<|.yv (.nilCheck Z) Z<|.yv (.fieldAddr Z Fx.field82_1) Z<|.yv (.loadM Z Fx.agg54 mH (k := 1) Z Z) Z<|.yv (.lenSl Fx.sl54 Z) Z<|.yv (.cast (v' := .int .i64 (j1 : Nat)) (.call Fx.call42 Z (fun W t => at8_any H c.k hd.ps.length W t.agr)) (by rw [hj1])) Z<|.yv (.fieldAddr Z Fx.field53_4) Z<|.yv (.load Z Fx.agg5 (.tail _<|.head _) Z) Z<|.yv (.call Fx.call43 Z (fun W t => name8_any H c.nm W t.agr)) Z<|.fn (tl := [_,_]) Z<|.yv (.indexSl Fx.sl54 Z Z (i := j1) Z hj (q := oF + j1 * 1) Z) Z<|.stH Z Z Fx.size9 Z hHF hbF (show oF + j1 * 1 < arF.size by omega) fun H3 e3 => ?_
    have tr : Tr2 H H3 := by rw [e3];exact (tr_str mF (i := 0) rfl hHF (show (nmAt c.nm.toNat).length ≤ 1000000 by have := nmAt_len c.nm.toNat;omega)).two
    have I3 : Inv w0 H0 H3 := by rw [e3];exact I.put hbF
    refine .nl<|.bN<|?_
    exact Sx.retN (.inr rfl) rfl .nil rfl fun W t => ⟨H3,⟨tr,I3⟩,rfl,t.drop.drop.drop⟩
   try simp only [df] at h222
   refine .sr<|.m Z Z<|.yv (.nilCheck Z) Z<|.yv (.fieldAddr Z Fx.field82_1) Z<|.yv (.loadM Z Fx.agg54 mH (k := 1) Z Z) Z<|.yv (.lenSl Fx.sl54 Z) Z<|.yv (.lss Z Z) Z<|.nt<|.cd Z (fun h244 => ?_) (fun h244 => ?_)
   ·try simp only [dt] at h244
    refine .fl (trip := [(_,_,_),(_,_,_),(_,_,_),(_,_,_),(_,_,_),(_,_,_),(_,_,_),(_,_,_),(_,_,_),(_,_,_)]) 10 [(0,0),(1,0),(2,0),(3,0),(4,0),(5,0),(6,0),(7,0),(8,1),(9,3)] (by kernel_rfl) (by kernel_rfl) Z<|.m Z Z<|.m Z Z<|.yv (.nilCheck Z) Z<|.yv (.fieldAddr Z Fx.field82_1) Z<|.yv (.loadM Z Fx.agg54 mH (k := 1) Z Z) Z<|.yv (.fieldAddr Z Fx.field53_4) Z<|.yv (.load Z Fx.agg5 (.tail _<|.head _) Z) Z<|.yv (.call Fx.call43 Z (fun W t => name8_any H c.nm W t.agr)) Z<|.bl Z (Fx.bsl54_1 _) Z fun b253 => .apPS (xs := hd.ps.map strV) (u := ⟨(nmAt c.nm.toNat).toArray⟩) Fx.row54 Fx.zero9 Z hps (Nat.le_of_eq I.base) Z (.box (.head _) z0) (show (nmAt c.nm.toNat).length ≤ 1000000 by have := nmAt_len c.nm.toNat;omega) (by rw [List.length_map];simp only [maxLen];have := hbH0.ps;omega) (by rw [List.length_map];have := hbH0.ps;omega) Z (fun H5 hs5 => (.done (by kernel_rfl)<|.done (by kernel_rfl)<|.done (by kernel_rfl)<|.done (by kernel_rfl)<|.done (by kernel_rfl)<|.done (by kernel_rfl)<|.done (by kernel_rfl)<|.yv (.move Z)<|.nl)) fun r254 H5 hs5 hr5 => ?_
    have k5 := step_keep hs5 hHH (memAt_one mH (j := 1) rfl) ⟨_,_,_,rfl⟩;have hH5 := k5.trans hHH
    have hp5 : Rep H5 (dPs .i64 (hd.ps ++ [(nmAt c.nm.toNat)])) [r254] := by
     show Rep H5 (.ps _) _;rw [List.map_append];exact hr5
    have ho5 : r254.oneCell' = true := hr5.one _ (.head _);refine .fn (tl := [_,_,_]) Z<|.yv (.nilCheck Z) Z<|.yv (.fieldAddr Z Fx.field82_1) Z<|.stH Z Z Fx.size54 ho5 hH5 hbH (show oH + i3 * 3 + 1 < arH.size by omega) fun H3 e3 => ?_
    have tr : Tr2 H H3 := by rw [e3];exact tr_ps2 hs5 mH aH hHH hps hbd hp5 (by simp)
    have I3 : Inv w0 H0 H3 := by rw [e3];exact (I.step hs5).put hbH
    refine .nl<|.bN<|?_
    exact Sx.retN (.inr rfl) rfl .nil rfl fun W t => ⟨H3,⟨tr,I3⟩,rfl,t.drop.drop.drop.drop⟩
   try simp only [df] at h244
   refine .sk<|.bN<|?_
   exact Sx.retN (.inr rfl) rfl .nil rfl fun W t => ⟨H,⟨tr2_refl,I⟩,rfl,t.drop.drop.drop⟩
  try simp only [df] at h217
  refine .gF Z Z Z Z<|.gF Z Z Z Z<|.gF Z Z Z Z<|.gF Z Z Z Z<|.yv (.pickF Z Z) Z<|.nt<|.cF Z<|.sr<|.m Z Z<|.yv (.nilCheck Z) Z<|.yv (.fieldAddr Z Fx.field82_1) Z<|.yv (.loadM Z Fx.agg54 mH (k := 1) Z Z) Z<|.yv (.lenSl Fx.sl54 Z) Z<|.yv (.lss Z Z) Z<|.nt<|.cd Z (fun h244 => ?_) (fun h244 => ?_)
  ·try simp only [dt] at h244
   refine .fl (trip := [(_,_,_),(_,_,_),(_,_,_),(_,_,_),(_,_,_),(_,_,_),(_,_,_),(_,_,_),(_,_,_),(_,_,_)]) 10 [(0,0),(1,0),(2,0),(3,0),(4,0),(5,0),(6,0),(7,0),(8,1),(9,3)] (by kernel_rfl) (by kernel_rfl) Z<|.m Z Z<|.m Z Z<|.yv (.nilCheck Z) Z<|.yv (.fieldAddr Z Fx.field82_1) Z<|.yv (.loadM Z Fx.agg54 mH (k := 1) Z Z) Z<|.yv (.fieldAddr Z Fx.field53_4) Z<|.yv (.load Z Fx.agg5 (.tail _<|.head _) Z) Z<|.yv (.call Fx.call43 Z (fun W t => name8_any H c.nm W t.agr)) Z<|.bl Z (Fx.bsl54_1 _) Z fun b253 => .apPS (xs := hd.ps.map strV) (u := ⟨(nmAt c.nm.toNat).toArray⟩) Fx.row54 Fx.zero9 Z hps (Nat.le_of_eq I.base) Z (.box (.head _) z0) (show (nmAt c.nm.toNat).length ≤ 1000000 by have := nmAt_len c.nm.toNat;omega) (by rw [List.length_map];simp only [maxLen];have := hbH0.ps;omega) (by rw [List.length_map];have := hbH0.ps;omega) Z (fun H5 hs5 => (.done (by kernel_rfl)<|.done (by kernel_rfl)<|.done (by kernel_rfl)<|.done (by kernel_rfl)<|.done (by kernel_rfl)<|.done (by kernel_rfl)<|.done (by kernel_rfl)<|.yv (.move Z)<|.nl)) fun r254 H5 hs5 hr5 => ?_
   have k5 := step_keep hs5 hHH (memAt_one mH (j := 1) rfl) ⟨_,_,_,rfl⟩;have hH5 := k5.trans hHH
   have hp5 : Rep H5 (dPs .i64 (hd.ps ++ [(nmAt c.nm.toNat)])) [r254] := by
    show Rep H5 (.ps _) _;rw [List.map_append];exact hr5
   have ho5 : r254.oneCell' = true := hr5.one _ (.head _);refine .fn (tl := [_,_,_]) Z<|.yv (.nilCheck Z) Z<|.yv (.fieldAddr Z Fx.field82_1) Z<|.stH Z Z Fx.size54 ho5 hH5 hbH (show oH + i3 * 3 + 1 < arH.size by omega) fun H3 e3 => ?_
   have tr : Tr2 H H3 := by rw [e3];exact tr_ps2 hs5 mH aH hHH hps hbd hp5 (by simp)
   have I3 : Inv w0 H0 H3 := by rw [e3];exact (I.step hs5).put hbH
   refine .nl<|.bN<|?_
   exact Sx.retN (.inr rfl) rfl .nil rfl fun W t => ⟨H3,⟨tr,I3⟩,rfl,t.drop.drop.drop.drop⟩
  try simp only [df] at h244
  refine .sk<|.bN<|?_
  exact Sx.retN (.inr rfl) rfl .nil rfl fun W t => ⟨H,⟨tr2_refl,I⟩,rfl,t.drop.drop.drop⟩
 try simp only [df] at h202
 refine .fl (trip := [(_,_,_),(_,_,_),(_,_,_),(_,_,_),(_,_,_),(_,_,_),(_,_,_),(_,_,_),(_,_,_),(_,_,_),(_,_,_),(_,_,_),(_,_,_),(_,_,_),(_,_,_),(_,_,_),(_,_,_),(_,_,_),(_,_,_),(_,_,_),(_,_,_),(_,_,_),(_,_,_),(_,_,_),(_,_,_)]) 25 [(0,0),(1,0),(2,0),(3,0),(4,0),(5,0),(6,0),(7,0),(8,0),(9,0),(10,0),(11,0),(12,0),(13,0),(14,0),(15,0),(16,0),(17,0),(18,0),(19,0),(24,0),(20,1),(21,0),(22,0),(23,0)] (by kernel_rfl) (by kernel_rfl) Z<|.yv (.fieldAddr Z Fx.field78_2) Z<|.yv (.load Z Fx.agg76 (.head _) Z) Z<|.m Z Z<|.yv (.indexSl Fx.sl76 Z Z (i := i2) Z hv2 (q := oV + i2 * 1) Z) Z<|.yv (.loadM Z Fx.agg79 mV (k := 0) Z Z) Z<|.m Z Z<|.yv (.indexSl Fx.sl79 Z Z (i := i3) Z hh3 (q := oH + i3 * 3) Z) Z<|.yv (.fieldAddr Z Fx.field82_2) Z<|.yv (.loadM Z Fx.agg80 mH (k := 2) Z Z) Z<|.yv (.fieldAddr Z Fx.field53_3) Z<|.yv (.load Z Fx.agg5 (.tail _<|.head _) Z) Z<|.yv (.fieldAddr Z Fx.field78_2) Z<|.yv (.load Z Fx.agg76 (.head _) Z) Z<|.m Z Z<|.yv (.indexSl Fx.sl76 Z Z (i := i2) Z hv2 (q := oV + i2 * 1) Z) Z<|.yv (.loadM Z Fx.agg79 mV (k := 0) Z Z) Z<|.m Z Z<|.yv (.indexSl Fx.sl79 Z Z (i := i3) Z hh3 (q := oH + i3 * 3) Z) Z<|.yv (.fieldAddr Z Fx.field82_2) Z<|.yv (.loadM Z Fx.agg80 mH (k := 2) Z Z) Z<|.yv (.loadW Z Fx.agg53 (.tail _<|.head _) Z) Z<|.ct (X := Value) Fx.call22 Z (fun W t => flat_any hd.body (by have := hbH0.cnt;omega) H _ W hbd t.agr) Z fun v61 H61 hc61 u61 => ?_
 obtain ⟨p61,c61,e61,_⟩ := hc61.sl;simp only [List.cons.injEq,and_true,List.length_map] at e61;subst e61;have hcap61 := hc61.cap;refine .yv (.lenSl Fx.sl80 Z) Z<|.yv (.max2 Z Z (c := ((max 1 (Sm.flats hd.body).length : Nat) : Int)) (by omega)) Z<|.yv (.call Fx.call42 Z (fun W t => at8_any H61 c.k (max 1 (Sm.flats hd.body).length) W t.agr)) Z<|.fn (tl := [_]) Z<|.cs (X := Hp × Int) Fx.call50 Z (fun W t => statement8_st hd.body H61 W _ _ _ c (I.grow u61) (hbd.up u61.up) (by have := c.k.toNat_lt;have := atN_le c.k.toNat (max 1 (Sm.flats hd.body).length);omega) t) Z fun z66 hz66 => ?_
 obtain ⟨H66,r66⟩ := z66;unfold StC at hz66;dsimp only at hz66 ⊢
 have I66 : Inv w0 H0 H66 := by
  rcases hz66 with ⟨_,_,h⟩ | ⟨_,_,rfl⟩
  ·exact h
  ·exact I.grow u61
 have tr : Tr2 H H66 := by
  rcases hz66 with ⟨_,h,_⟩ | ⟨_,_,rfl⟩
  ·exact tr2_up u61.up h.two
  ·exact tr2_up u61.up tr2_refl
 refine .nl<|.bN<|?_
 exact Sx.retN (.inr rfl) rfl .nil rfl fun W t => ⟨H66,⟨tr,I66⟩,rfl,t.drop.drop.drop⟩
theorem Fx.call23 : callN Tryz.prog 23 = Bool.true := by kernel_rfl
theorem Fx.sl26 : slN Tryz.prog 26 = Option.some 5 := by kernel_rfl
theorem chgc {H : Hp} {x : Chg} {cs : List Value} (h : Rep H (dChg x) cs) : cs = cChg x := by
 rw [dChg,repS] at h;obtain ⟨_,rfl,_,_,h⟩ := repL_val.1 h;obtain ⟨_,rfl,_,_,h⟩ := repL_val.1 h;obtain ⟨_,rfl,_,_,h⟩ := repL_val.1 h;obtain ⟨_,rfl,_,_,h⟩ := repL_val.1 h;obtain ⟨_,rfl,_,_,h⟩ := repL_val.1 h;rw [repL_nil] at h;subst h;rfl
theorem ft_len9 {H : Hp} {k : IntKind} {f : Ft} {cs : List Value} (h : Rep H (dFt k f) cs) : cs.length = 4 := by
 obtain ⟨_,_,_,_,_,_,rfl,_⟩ := ft_open h
 rfl
structure Blt (w0 : World) (H0 H : Hp) (k : Nat) (f : Ft) (cs : List Value) : Prop where
 inv : Inv w0 H0 H
 rep : Rep H (dFt .i64 f) cs
 pos : posF f
 bnd : ∃ M D,M ≤ 100 + 2 * k ∧ D * 4 ^ (4 - k) ≤ 16384 ∧ bndF M D f
theorem Blt.next {w0 : World} {H0 H H' : Hp} {k : Nat} {f : Ft} {cs : List Value} (b : Blt w0 H0 H k f cs) (hk : k < 4) (I : Inv w0 H0 H') (t : Tr2 H H') : ∃ g,Blt w0 H0 H' (k + 1) g cs := by
 obtain ⟨K,t1,t2⟩ := t;obtain ⟨g,g1,g2⟩ := t1 f cs b.pos b.rep;obtain ⟨h,h1,h2⟩ := t2 g cs (g1.pos b.pos) g2;obtain ⟨M,D,hM,hD,hb⟩ := b.bnd;refine ⟨h,I,h2,h1.pos (g1.pos b.pos),_,_,?_,?_,h1.bnd (g1.bnd hb)⟩
 ·omega
 ·have e : 4 ^ (4 - k) = 4 * 4 ^ (4 - (k + 1)) := by rw [show 4 - k = (4 - (k + 1)) + 1 by omega,Nat.pow_succ,Nat.mul_comm]
  rw [e] at hD;generalize 4 ^ (4 - (k + 1)) = q at hD ⊢;have : 2 * (2 * D) * q = D * (4 * q) := by rw [← Nat.mul_assoc,← Nat.mul_assoc,Nat.mul_comm D 4]
  omega
theorem Blt.ok {w0 : World} {H0 H : Hp} {k : Nat} {f : Ft} {cs : List Value} (b : Blt w0 H0 H k f cs) (hk : k ≤ 4) : ∃ M D,M ≤ 1000 ∧ D ≤ 1000000 ∧ bndF M D f := by
 obtain ⟨M,D,hM,hD,hb⟩ := b.bnd;refine ⟨M,D,by omega,?_,hb⟩;have : D * 1 ≤ D * 4 ^ (4 - k) := Nat.mul_le_mul_left D (Nat.pos_of_ne_zero (by simp));omega
structure Fin (w0 : World) (H0 H : Hp) (f : Ft) (cs : List Value) : Prop where
 inv : Inv w0 H0 H
 rep : Rep H (dFt .i64 f) cs
 pos : posF f
 bnd : ∃ M D,M ≤ 1000 ∧ D ≤ 1000000 ∧ bndF M D f
theorem Blt.toFin {w0 : World} {H0 H : Hp} {k : Nat} {f : Ft} {cs : List Value} (b : Blt w0 H0 H k f cs) (hk : k ≤ 4) : Fin w0 H0 H f cs := ⟨b.inv,b.rep,b.pos,b.ok hk⟩
set_option maxRecDepth 100000 in
theorem build8_st {w0 : World} {H0 H : Hp} {W : World} {bs : List Res} {p : Pln} {cs : List Value} {l : List Chg} {v : Value} (I : Inv w0 H0 H) (h : Rep H (dPln p) cs) (hl : Rep H0 (.seq 5 (l.map dChg)) [v]) (s : St H w0 bs W) :
 Calls Tryz.prog 7 #[.agg cs.toArray,v] W fun e W' => ∃ z : Hp × Ft × List Value,Fin w0 H0 z.1 z.2.1 z.2.2 ∧ e = .returned (.agg z.2.2.toArray) ∧ St z.1 w0 bs W' := by
 obtain ⟨p1,c1,p2,c2,rfl,_,_⟩ := pln_open h;obtain ⟨pl,cl,el,_⟩ := hl.sl;simp only [List.cons.injEq,and_true,List.length_map] at el;subst el;have hlcap := hl.cap;refine Sx.enterS Tryz.func7 rfl Tryz.ntmps7 rfl s ?_;refine .sr<|.bx Z Z Z fun b2 => .al Fx.zero31 Z fun b4 => .ns<|.yv (.loadW Z Fx.agg25 (.tail _<|.head _) Z) Z<|.ct (X := List Value) Fx.call15 Z (fun W t => build_plan H p _ W h t.agr) Z fun x8 H8 hx8 u8 => ?_
 have b0 : Blt w0 H0 H8 0 (buildF p) x8 := ⟨I.grow u8,hx8,posF_build p,100,64,by omega,by decide,bndF_of (buildF_ok p) (fun c hc => (buildF_sm p c hc).2.1) (ini_build p)⟩;have hxl := ft_len9 hx8;refine .al Fx.zero31 Z fun b5 => .sV .head Z Z Fx.size31 (ft_len9 hx8) hx8.one Z<|.nt<|.sq<|.sr<|.a Z Z<|.nt<|.bk<|.lp (X := Nat × Hp × Ft) [(1,_),(4,_),(5,_)] ⟨rfl,rfl,rfl,trivial⟩ (_ :: _ :: _ :: bs) (fun z => [(6,.int .i64 (z.1 : Nat))]) (fun z => z.2.1) (fun z => []) (fun z => z.1 ≤ 4 ∧ Blt w0 H0 z.2.1 z.1 z.2.2 x8) (fun z => 4 - z.1) (0,H8,buildF p) (fun _ s => s) ⟨rfl,trivial⟩ ⟨Nat.zero_le 4,b0⟩ fun z hC => ?_
 obtain ⟨i,Hk,fk⟩ := z;dsimp only at hC ⊢;obtain ⟨hi0,bk⟩ := hC;have hlk := hl.up bk.inv.up.up;refine .sq<|.sr<|.m Z Z<|.m Z Z<|.yv (.lenSl Fx.sl26 Z) Z<|.yv (.lss Z Z) Z<|.m Z Z<|.b2 (fun h13 => ?_) (fun h13 => ?_)
 ·try simp only [dt] at h13
  have hi1 : i < l.length := by omega
  refine .gd Z Z<|.yv (.move Z) Z<|.gd Z Z<|.yv (.lss Z Z) Z<|.yv (.pickT Z Z) Z<|.nt<|.cd Z (fun h16 => ?_) (fun h16 => ?_)
  ·try simp only [dt] at h16
   have hi2 : i < 4 := by omega
   obtain ⟨bE,oE,csE,eE,rE,lE,mE⟩ := hlk.elem (map_at hi1);cases eE;obtain rfl := chgc rE;refine .sk<|.tN<|.sq<|.bk<|.fl (trip := [(_,_,_),(_,_,_),(_,_,_),(_,_,_),(_,_,_)]) 5 [(0,0),(1,0),(2,0),(3,0),(4,0)] (by kernel_rfl) (by kernel_rfl) Z<|.yv (.loadW Z Fx.agg31 (.head _) (ft_len9 hx8)) Z<|.m Z Z<|.m Z Z<|.yv (.indexSl Fx.sl26 Z Z Z (by omega) (q := oE + i * 5) Z) Z<|.yv (.loadMW Z Fx.agg53 mE Z) Z<|.fn (tl := [_]) Z<|.cs (X := Hp) Fx.call23 Z (fun W t => by obtain ⟨M,D,hM,hD,hb⟩ := bk.ok hi0;exact apply8_st l[i] bk.inv bk.rep bk.pos hb hM t) Z fun z24 hz24 => ?_
   obtain ⟨f24,b24⟩ := bk.next hi2 hz24.2 hz24.1;exact .nl<|.bN<|.tN<|.rg<|.m Z Z<|.yv (.add Z Z (w6 (by omega))) Z<|.a Z Z<|.nt<|.ag (x := (i,Hk,fk)) (i + 1,z24,f24) ⟨rfl,trivial⟩ ⟨rfl,rfl,rfl,trivial⟩ (fun _ s => s) ⟨by dsimp only;omega,b24⟩ (by dsimp only;omega)
  skip
  refine .ex<|.tE<|.tE<|.bE<|.tN<|.sr<|.yv (.loadW Z Fx.agg31 (.head _) (ft_len9 hx8)) Z<|.sV (.tail<|.head) Z Z Fx.size31 (ft_len9 hx8) hx8.one Z<|.nt<|.rt<|?_
  refine Sx.ret1 (.inl rfl) rfl (.cell rfl Fx.agg31 (.tail _<|.head _) hxl) fun W t => ⟨(Hk,fk,x8),bk.toFin hi0,rfl,t.drop.drop.drop⟩
 try simp only [df] at h13
 refine .gF Z Z Z Z<|.gF Z Z Z Z<|.yv (.pickF Z Z) Z<|.nt<|.cF Z<|.ex<|.tE<|.tE<|.bE<|.tN<|.sr<|.yv (.loadW Z Fx.agg31 (.head _) (ft_len9 hx8)) Z<|.sV (.tail<|.head) Z Z Fx.size31 (ft_len9 hx8) hx8.one Z<|.nt<|.rt<|?_
 refine Sx.ret1 (.inl rfl) rfl (.cell rfl Fx.agg31 (.tail _<|.head _) hxl) fun W t => ⟨(Hk,fk,x8),bk.toFin hi0,rfl,t.drop.drop.drop⟩
theorem frsP_none {l : List Pb} (hl : NzP l) (h : (frsP noP l).er = 0) : l = [] := by
 cases l with
 | nil => rfl
 | cons x r =>
  rw [frsP,if_pos (show noP.er = 0 from rfl)] at h;exact absurd h (hl x (.head _))
theorem nzP_probs (f : Ft) : NzP (probs f 0) := by
 unfold probs;rw [if_pos rfl,List.nil_append];exact .app (.flat fun _ => .flg _ _) (.app (.flat fun _ => .lnk _ _) (.flat fun _ => .cmp _ _))
theorem atW_nil {w : Str} {l : List Rp} (h : atW w l = []) : l = [] := by
 cases l with
 | nil => rfl
 | cons x r => cases h
mutual
theorem stL_nil {cs : List Cp} {own : List (List Hd)} {s : Sc} {pl : Str} : ∀ (x : Sm) (k : Nat),stL cs own s pl k x = [] → ∀ y ∈ Sm.flat x,stR cs own s y = []
 | .mk kd nm hd ex th el,k,h,y,hy => by
  rw [stL_mk,List.append_eq_nil_iff,List.append_eq_nil_iff] at h;rw [sflat_mk] at hy;rcases List.mem_cons.1 hy with rfl | hy
  ·exact atW_nil h.1
  ·rcases List.mem_append.1 hy with hy | hy
   ·exact stLs_nil th _ h.2.1 y hy
   ·exact stLs_nil el _ h.2.2 y hy
theorem stLs_nil {cs : List Cp} {own : List (List Hd)} {s : Sc} {pl : Str} : ∀ (l : List Sm) (k : Nat),stLs cs own s pl k l = [] → ∀ y ∈ Sm.flats l,stR cs own s y = []
 | [],k,h,y,hy => by cases hy
 | x :: r,k,h,y,hy => by
  rw [stLs,List.append_eq_nil_iff] at h;rw [Sm.flats] at hy;rcases List.mem_append.1 hy with hy | hy
  ·exact stL_nil x _ h.1 y hy
  ·exact stLs_nil r _ h.2 y hy
end
theorem flat_nil {α β : Type} {f : α → List β} {l : List α} (h : l.flatMap f = []) : ∀ x ∈ l,f x = [] := List.flatMap_eq_nil_iff.1 h
theorem probs_st {f : Ft} (h : probs f 0 = []) {i n j : Nat} (hi : i < f.comps.length) (hn : n < f.comps[i].vers.length) (hj : j < f.comps[i].vers[n].length) :
 ∀ y ∈ Sm.flats f.comps[i].vers[n][j].body,stR f.comps f.comps[i].vers ⟨f.flags,f.comps[i].vars,f.comps[i].vers[n][j].ps⟩ y = [] := by
 unfold probs at h;rw [if_pos rfl,List.nil_append,List.append_eq_nil_iff,List.append_eq_nil_iff] at h;have h1 := flat_nil h.2.2 i (List.mem_range.2 hi);unfold cmp1 at h1;rw [List.getElem?_eq_getElem hi] at h1;simp only [List.append_eq_nil_iff] at h1;have h2 := flat_nil h1.2.2 n (List.mem_range.2 hn);unfold ver1 at h2;rw [List.getElem?_eq_getElem hn] at h2;have h3 := flat_nil h2 j (List.mem_range.2 hj);unfold hdl1 at h3;rw [List.getElem?_eq_getElem hj] at h3;simp only [List.append_eq_nil_iff] at h3;exact stLs_nil _ _ h3.2.2.2
theorem sall_self {q : Sm → Bool} {x : Sm} (h : Sm.all q x = true) : q x = true := by
 obtain ⟨kd,nm,hd,ex,th,el⟩ := x;rw [sall_mk,Bool.and_eq_true,Bool.and_eq_true] at h;exact h.1.1
theorem check_hd {f : Ft} (h0 : checkF f = 0) {c : Cp} (hc : c ∈ f.comps) {v : List Hd} (hv : v ∈ c.vers) {h : Hd} (hh : h ∈ v) : Sm.alls smaS h.body = true ∧ Sm.alls namS h.body = true ∧ Sm.alls frmS h.body = true := by
 unfold checkF at h0
 split at h0
 ·cases h0
 rename_i h1
 split at h0
 ·cases h0
 rename_i h2
 split at h0
 ·cases h0
 rename_i h3;simp only [Bool.not_eq_false] at h1 h2 h3
 have ev : ∀ q,evH q f = true → q h = true := fun q e => by
  unfold evH at e;exact List.all_eq_true.1 (List.all_eq_true.1 (List.all_eq_true.1 e c hc) v hv) h hh
 unfold smlF at h1;unfold namF at h2;unfold frmF at h3;simp only [Bool.and_eq_true] at h1 h2 h3;have k1 := ev _ h1.2.2;have k2 := ev _ h2.2;have k3 := ev _ h3.2;unfold smaH at k1;unfold namH at k2;unfold frmH at k3;simp only [Bool.and_eq_true] at k1 k2;exact ⟨k1.2,k2.2,k3⟩
theorem ealls_mem {q : Ex → Bool} : ∀ {l : List Ex},Ex.alls q l = true → ∀ e ∈ l,Ex.all q e = true
 | [],_,e,he => by cases he
 | x :: r,h,e,he => by
  rw [Ex.alls,Bool.and_eq_true] at h;rcases List.mem_cons.1 he with rfl | he
  ·exact h.1
  ·exact ealls_mem h.2 e he
theorem check_e {x : Sm} (h1 : smaS x = true) (h2 : namS x = true) (h3 : frmS x = true) {e : Ex} (he : e ∈ x.ex) : checkE e = 0 ∧ e.depth ≤ 8 := by
 obtain ⟨kd,nm,hd,ex,th,el⟩ := x;have he : e ∈ ex := he;simp only [smaS,List.all_eq_true,decide_eq_true_eq] at h1;simp only [namS,Bool.and_eq_true] at h2;simp only [frmS,Bool.and_eq_true] at h3;have a1 := h1 e he;have a2 := ealls_mem h2.2 e he;have a3 := ealls_mem h3.2 e he;refine ⟨?_,a1⟩;unfold checkE;rw [if_neg (by omega),if_neg (by rw [a2];decide),if_neg (by rw [a3];decide)]
theorem rpE_nil {r : Tr} {t : UInt8} (h : rpE r t = []) : r.er = 0 ∧ r.ty = t := by
 unfold rpE at h;rw [List.append_eq_nil_iff] at h
 constructor
 ·by_cases e : r.er = 0
  ·exact e
  ·rw [if_neg e] at h;cases h.1
 ·by_cases e : r.ty = t
  ·exact e
  ·rw [if_neg e] at h;cases h.2
theorem allT_nil {s : Sc} {t : UInt8} {l : List Ex} (h : allT s t l = []) {e : Ex} (he : e ∈ l) : (tyE s e).er = 0 ∧ (tyE s e).ty = t := rpE_nil (flat_nil h e he)
theorem uses_ty {cs : List Cp} {own : List (List Hd)} {s : Sc} {x : Sm} (h : stR cs own s x = []) (hf : frmS x = true) {e : Ex} (he : e ∈ x.ex) :
 (tyE s e).er = 0 ∧ ((x.kd = 1 ∧ ((tyE s e).ty = 1 ∨ (tyE s e).ty = 2)) ∨ (¬ x.kd = 1 ∧ (x.kd = 4 ∨ x.kd = 5) ∧ (tyE s e).ty = 2) ∨ (¬ x.kd = 1 ∧ ¬ (x.kd = 4 ∨ x.kd = 5) ∧ (tyE s e).ty = 1)) := by
 obtain ⟨kd,nm,hd,ex,th,el⟩ := x;have he : e ∈ ex := he;show _ ∧ ((kd = 1 ∧ _) ∨ (¬ kd = 1 ∧ (kd = 4 ∨ kd = 5) ∧ _) ∨ (¬ kd = 1 ∧ ¬ (kd = 4 ∨ kd = 5) ∧ _));rw [stR] at h
 by_cases k1 : kd = 1
 ·rw [if_pos k1,List.append_eq_nil_iff] at h
  by_cases t1 : chgT s nm = 1 ∨ chgT s nm = 2
  ·rw [if_pos t1] at h;obtain ⟨a,b⟩ := allT_nil h.2 he;exact ⟨a,.inl ⟨k1,by rw [b];exact t1⟩⟩
  ·rw [if_neg t1] at h;cases h.2
 rw [if_neg k1] at h
 by_cases k2 : kd = 2 ∨ kd = 3
 ·rw [if_pos k2,List.append_eq_nil_iff,List.append_eq_nil_iff] at h;obtain ⟨a,b⟩ := allT_nil h.2.2 he;exact ⟨a,.inr (.inr ⟨k1,by rcases k2 with rfl | rfl <;> decide,b⟩)⟩
 rw [if_neg k2] at h
 by_cases k3 : kd = 9
 ·rw [if_pos k3,List.append_eq_nil_iff,List.append_eq_nil_iff] at h;obtain ⟨a,b⟩ := allT_nil h.2.2 he;exact ⟨a,.inr (.inr ⟨k1,by subst k3;decide,b⟩)⟩
 rw [if_neg k3] at h
 by_cases k4 : kd = 4 ∨ kd = 5
 ·rw [if_pos k4] at h;obtain ⟨a,b⟩ := allT_nil h he;exact ⟨a,.inr (.inl ⟨k1,k4,b⟩)⟩
 rw [if_neg k4] at h
 by_cases k5 : kd = 6
 ·rw [if_pos k5,List.append_eq_nil_iff] at h;have h2 := h.2;unfold callR at h2;rw [List.append_eq_nil_iff,List.append_eq_nil_iff] at h2;obtain ⟨a,b⟩ := allT_nil h2.2.2 he;exact ⟨a,.inr (.inr ⟨k1,k4,b⟩)⟩
 rw [if_neg k5] at h
 by_cases k6 : kd = 7
 ·rw [if_pos k6] at h;unfold callR at h;rw [List.append_eq_nil_iff,List.append_eq_nil_iff] at h;obtain ⟨a,b⟩ := allT_nil h.2.2 he;exact ⟨a,.inr (.inr ⟨k1,k4,b⟩)⟩
 rw [if_neg k6] at h
 by_cases k7 : kd = 8
 ·rw [if_pos k7] at h;obtain ⟨a,b⟩ := allT_nil h he;exact ⟨a,.inr (.inr ⟨k1,k4,b⟩)⟩
 exfalso
 simp only [frmS,Bool.and_eq_true,decide_eq_true_eq] at hf;obtain ⟨⟨⟨⟨⟨⟨⟨hk,_⟩,hl⟩,_⟩,_⟩,_⟩,_⟩,_⟩ := hf
 have hn : kd.toNat = 10 ∨ kd.toNat < 1 ∨ 10 < kd.toNat := by
  have e : ∀ n : Nat,n < 256 → kd.toNat = n → kd = UInt8.ofNat n := fun n _ h => by rw [← h,UInt8.ofNat_toNat]
  have d1 : kd.toNat ≠ 1 := fun h => k1 (e 1 (by decide) h);have d2 : kd.toNat ≠ 2 := fun h => k2 (.inl (e 2 (by decide) h));have d3 : kd.toNat ≠ 3 := fun h => k2 (.inr (e 3 (by decide) h));have d4 : kd.toNat ≠ 4 := fun h => k4 (.inl (e 4 (by decide) h));have d5 : kd.toNat ≠ 5 := fun h => k4 (.inr (e 5 (by decide) h));have d6 : kd.toNat ≠ 6 := fun h => k5 (e 6 (by decide) h);have d7 : kd.toNat ≠ 7 := fun h => k6 (e 7 (by decide) h);have d8 : kd.toNat ≠ 8 := fun h => k7 (e 8 (by decide) h);have d9 : kd.toNat ≠ 9 := fun h => k3 (e 9 (by decide) h);omega
 simp only [okKd,Bool.and_eq_true,decide_eq_true_eq] at hk
 have h10 : kd = 10 := by
  rcases hn with h | h | h
  ·rw [← UInt8.ofNat_toNat (x := kd),h];rfl
  ·omega
  ·omega
 subst h10;have : (formOf 10).hi = 0 := by decide
 rw [this] at hl;have h9 : 0 < ex.length := List.length_pos_of_mem he;omega
theorem uses_chk {f : Ft} {c : Nat} (h : (frsP noP (probs f c)).er = 0) : c = 0 ∧ probs f 0 = [] := by
 have hc : c = 0 := by
  by_cases h0 : c = 0
  ·exact h0
  ·unfold probs at h;rw [if_neg h0] at h;exact absurd h h0
 subst hc;exact ⟨rfl,frsP_none (nzP_probs f) h⟩
theorem Fx.bool4 : isBool Tryz.prog 4 = Bool.true := by kernel_rfl
theorem Fx.call7 : callN Tryz.prog 7 = Bool.true := by kernel_rfl
theorem gl_at {H : Hp} (n : Nat) (G : Gl H) : Gl (H.at n) := ⟨G.shapes,G.forms,G.words,G.symbols⟩
theorem txtL_map {α : Type} {f : α → D} (h : ∀ x,(f x).txt = false) : ∀ l : List α,D.txtL (l.map f) = false
 | [] => rfl
 | x :: r => by rw [List.map_cons,D.txtL,h x,txtL_map h r];rfl
theorem txt_cd (x : Cd) : (dCd x).txt = false := by
 simp only [dCd,D.txt,D.txtL,txtL_map (f := dU8) (fun _ => rfl),Bool.or_false]
theorem txt_prt (x : Prt) : (dPrt x).txt = false := by
 simp only [dPrt,D.txt,D.txtL,txtL_map txt_cd,Bool.or_false]
theorem txt_pln (x : Pln) : (dPln x).txt = false := by
 simp only [dPln,D.txt,D.txtL,txtL_map (f := dU8) (fun _ => rfl),txtL_map txt_prt,Bool.or_false]
theorem txt_chgs (l : List Chg) : D.txt (.seq 5 (l.map dChg)) = false := txtL_map (f := dChg) (fun _ => rfl) l
set_option maxHeartbeats 4000000 in
set_option maxRecDepth 100000 in
theorem typesUses_any (H : Hp) (G : Gl H) (p : Pln) (l : List Chg) (cs : List Value) (v : Value) (h : Rep H (dPln p) cs) (hl : Rep H (.seq 5 (l.map dChg)) [v]) (w : World) (hA : Agr H w) (hlo : H.lo = w.heap.size) :
 Calls Tryz.prog 6 #[.agg cs.toArray,v] w fun r w' => r = .returned (.bool true) ∧ Ext w w' := by
 have I0 : Inv w H H := ⟨.refl,hA,hlo⟩;obtain ⟨p1,c1,p2,c2,rfl,_,_⟩ := pln_open h;refine Sx.enter (H := H) Tryz.func6 rfl Tryz.ntmps6 rfl hA ?_;refine .sr<|.bx Z Z Z fun b2 => .a Z Z<|.ns<|.yv (.loadW Z Fx.agg25 (.head _) Z) Z<|.m Z Z<|.cs (X := Hp × Ft × List Value) Fx.call7 Z (fun W t => build8_st I0 h hl t) Z fun z23 hz23 => ?_
 obtain ⟨Hb,f,xf⟩ := z23;dsimp only at hz23 ⊢;obtain ⟨Ib,hxf,hpf,M,D,hM,hD,hb⟩ := hz23;have ub := Ib.up;obtain ⟨q1,d1,q2,d2,q3,d3,rfl,nf,g1,g2,g3⟩ := ft_open hxf;have hcapf := g3.cap;refine .al Fx.zero31 Z fun b5 => .sW .head Z Z Fx.size31 (by simp [Value.oneCell',strV]) Z<|.ns<|.yv (.loadW Z Fx.agg31 (.head _) Z) Z<|.ct (X := List Value) Fx.call8 Z (fun W t => syntax_sy 1000 (by decide) Hb f (hb.sy hM) _ W hxf t.agr) Z fun xs H1 hxs us => ?_
 have u1 := ub.trans us;have g31 := g3.up us.up;refine .al Fx.zero37 Z fun b6 => .sV .head Z Z Fx.size37 (ft_len9 hxs) hxs.one Z<|.nt<|.sq<|.sr<|.yv (.loadW Z Fx.agg37 (.head _) (ft_len9 hxs)) Z<|.yv (.call Fx.call9 Z (fun W t => typesCheck_any H1 (G.up u1.up) f xs hxs (hb.ev hD) (fun c hc => ⟨ft_names hxs c hc,(hb.all c hc).vers,fun v hv h hh => (((hb.all c hc).all v hv).2 h hh).cnt⟩) W t.agr)) Z<|.m Z Z<|.yv (.extract Z Z) Z<|.yv (.extract Z Z) Z<|.al Fx.zero41 Z fun b7 => .sW .head Z Z Fx.size41 (by simp [pbV,Value.oneCell',strV]) Z<|.a Z Z<|.ns<|.m Z Z<|.yv (.neq Z Z) Z<|.nt<|.cd Z (fun h32 => ?_) (fun h32 => ?_)
 ·skip
  refine .sr<|.yv (.call Fx.call11 Z (fun W t => awake8_any H1 (G.up u1.up) W t.agr)) Z<|.a Z Z<|.nt<|.rt<|.tR<|?_
  exact Sx.ret1 (.inl rfl) rfl (.tmp rfl) fun W s => ⟨rfl,s.ext⟩
 try simp only [df] at h32
 obtain ⟨h0,hpr⟩ := uses_chk (f := f) (c := checkF f) (by omega);have hck0 : checkF f = 0 := h0;refine .sk<|.tN<|.sq<|.sr<|.yv (.fieldAddr Z Fx.field31_3) Z<|.yv (.load Z Fx.agg29 (.tail _<|.tail _<|.head _) Z) Z<|.yv (.lenSl Fx.sl29 Z) Z<|.m Z Z<|.nt<|.bk<|.lp (X := Nat × Hp) [(6,_),(35,_),(36,_)] ⟨rfl,rfl,rfl,trivial⟩ [_,_,_,_] (fun z => [(37,.int .i64 (z.1 : Nat))]) (fun z => z.2) (fun z => []) (fun z => z.1 ≤ f.comps.length ∧ HUp w H1 z.2) (fun z => f.comps.length - z.1) (0,H1) (fun _ s => s) ⟨rfl,trivial⟩ ⟨Nat.zero_le _,.refl⟩ fun z hC => ?_
 obtain ⟨i,Ha⟩ := z;dsimp only at hC ⊢;obtain ⟨hi0,ua⟩ := hC;refine .sr<|.yv (.lss Z Z) Z<|.nt<|.sq<|.cd Z (fun h38 => ?_) (fun h38 => ?_)
 ·try simp only [dt] at h38
  have hi : i < f.comps.length := by omega
  obtain ⟨bC,oC,csC,eC,rC,lC,mC⟩ := g31.elem (map_at hi);cases eC;obtain ⟨q4,d4,q5,d5,rfl,nmC,hvC,hsC⟩ := cp_open rC;have hmc := List.getElem_mem hi;have hbC := hb.all _ hmc;have hcs := hsC.cap;refine .sk<|.tN<|.sq<|.bk<|.sr<|.m Z Z<|.yv (.indexSl Fx.sl29 Z Z Z (by omega) (q := oC + i * 3) Z) Z<|.yv (.loadMW Z Fx.agg78 (mC.up ua.up) Z) Z<|.al Fx.zero78 Z fun b10 => .a Z Z<|.sW .head Z Z Fx.size78 (by simp [Value.oneCell',strV]) Z<|.ns<|.yv (.fieldAddr Z Fx.field78_2) Z<|.yv (.load Z Fx.agg76 (.head _) Z) Z<|.yv (.lenSl Fx.sl76 Z) Z<|.m Z Z<|.nt<|.bk<|.lp (X := Nat × Hp) [(6,_),(9,_),(35,_),(36,_),(37,_),(43,_),(44,_)] ⟨rfl,rfl,rfl,rfl,rfl,rfl,rfl,trivial⟩ [_,_,_,_,_] (fun z => [(45,.int .i64 (z.1 : Nat))]) (fun z => z.2) (fun z => []) (fun z => z.1 ≤ f.comps[i].vers.length ∧ HUp w H1 z.2) (fun z => f.comps[i].vers.length - z.1) (0,Ha) (fun _ s => s) ⟨rfl,trivial⟩ ⟨Nat.zero_le _,ua⟩ fun z hC => ?_
  obtain ⟨n,Hc⟩ := z;dsimp only at hC ⊢;obtain ⟨hn0,uc⟩ := hC;refine .sr<|.yv (.lss Z Z) Z<|.nt<|.sq<|.cd Z (fun h46 => ?_) (fun h46 => ?_)
  ·try simp only [dt] at h46
   have hn : n < f.comps[i].vers.length := by omega
   obtain ⟨bV,oV,csV,eV,rV,lV,mV⟩ := hsC.elem (map_at hn);cases eV;obtain ⟨q6,d6,rfl,hhd⟩ := vs_open rV;have hmv := List.getElem_mem hn;have hbV := hbC.all _ hmv;have hcv := hhd.cap;refine .sk<|.tN<|.sq<|.bk<|.sr<|.yv (.indexSl Fx.sl76 Z Z Z (by omega) (q := oV + n * 1) Z) Z<|.yv (.loadM Z Fx.agg79 (mV.up uc.up) (k := 0) Z Z) Z<|.a Z Z<|.ns<|.m Z Z<|.yv (.lenSl Fx.sl79 Z) Z<|.m Z Z<|.nt<|.bk<|.lp (X := Nat × Hp) [(6,_),(9,_),(35,_),(36,_),(37,_),(43,_),(44,_),(45,_),(49,_),(50,_)] ⟨rfl,rfl,rfl,rfl,rfl,rfl,rfl,rfl,rfl,rfl,trivial⟩ [_,_,_,_,_] (fun z => [(51,.int .i64 (z.1 : Nat))]) (fun z => z.2) (fun z => []) (fun z => z.1 ≤ f.comps[i].vers[n].length ∧ HUp w H1 z.2) (fun z => f.comps[i].vers[n].length - z.1) (0,Hc) (fun _ s => s) ⟨rfl,trivial⟩ ⟨Nat.zero_le _,uc⟩ fun z hC => ?_
   obtain ⟨k,Hd⟩ := z;dsimp only at hC ⊢;obtain ⟨hk0,ud⟩ := hC;refine .sr<|.yv (.lss Z Z) Z<|.nt<|.sq<|.cd Z (fun h52 => ?_) (fun h52 => ?_)
   ·try simp only [dt] at h52
    have hk : k < f.comps[i].vers[n].length := by omega
    obtain ⟨bK,oK,csK,eK,rK,lK,mK⟩ := hhd.elem (map_at hk);cases eK;obtain ⟨q7,d7,q8,d8,rfl,nmK,hps,hbd⟩ := hd_open rK;have hmh := List.getElem_mem hk;have hbH := hbV.2 _ hmh;obtain ⟨c1,c2,c3⟩ := check_hd hck0 hmc hmv hmh;have hst := probs_st hpr hi hn hk;refine .sk<|.tN<|.sq<|.bk<|.sr<|.yv (.indexSl Fx.sl79 Z Z Z (by omega) (q := oK + k * 3) Z) Z<|.yv (.loadMW Z Fx.agg82 (mK.up ud.up) Z) Z<|.al Fx.zero82 Z fun b14 => .sW .head Z Z Fx.size82 (by simp [Value.oneCell',strV]) Z<|.ns<|.yv (.fieldAddr Z Fx.field82_2) Z<|.yv (.load Z Fx.agg80 (.head _) Z) Z<|.ct (X := Value) Fx.call22 Z (fun W t => flat_any f.comps[i].vers[n][k].body (by have := hbH.cnt;omega) Hd _ W (hbd.up ud.up) t.agr) Z fun v57 H57 hc57 u57 => ?_
    obtain ⟨f57,hf57⟩ : ∃ l,l = Sm.flats f.comps[i].vers[n][k].body := ⟨_,rfl⟩;rw [← hf57] at hc57 hst;obtain ⟨p57,c57,e57,_⟩ := hc57.sl;simp only [List.cons.injEq,and_true,List.length_map] at e57;subst e57;have hcap57 := hc57.cap;refine .yv (.lenSl Fx.sl80 Z) Z<|.m Z Z<|.nt<|.bk<|.lp (X := Nat × Hp) [(6,_),(9,_),(14,_),(35,_),(36,_),(37,_),(43,_),(44,_),(45,_),(49,_),(50,_),(51,_),(57,_),(58,_)] ⟨rfl,rfl,rfl,rfl,rfl,rfl,rfl,rfl,rfl,rfl,rfl,rfl,rfl,rfl,trivial⟩ [_,_,_,_,_,_] (fun z => [(59,.int .i64 (z.1 : Nat))]) (fun z => z.2) (fun z => []) (fun z => z.1 ≤ f57.length ∧ HUp w H57 z.2) (fun z => f57.length - z.1) (0,H57) (fun _ s => s) ⟨rfl,trivial⟩ ⟨Nat.zero_le _,.refl⟩ fun z hC => ?_
    obtain ⟨m,Hf⟩ := z;dsimp only at hC ⊢;obtain ⟨hm0,uf⟩ := hC;refine .sr<|.yv (.lss Z Z) Z<|.nt<|.sq<|.cd Z (fun h60 => ?_) (fun h60 => ?_)
    ·try simp only [dt] at h60
     have hm : m < f57.length := by omega
     obtain ⟨bS,oS,csS,eS,rS,lS,mS⟩ := hc57.elem (map_at hm);cases eS;have hmx := List.getElem_mem hm;have hmx2 : f57[m] ∈ Sm.flats f.comps[i].vers[n][k].body := hf57 ▸ hmx;have hst1 := hst _ hmx;have s1 := sall_self (sflats_all _ _ c1 _ hmx2);have s2 := sall_self (sflats_all _ _ c2 _ hmx2);have s3 := sall_self (sflats_all _ _ c3 _ hmx2);have s4 := sall_self (sflats_all _ _ hbH.all _ hmx2);generalize hxm : f57[m] = xm at rS hst1 s1 s2 s3 s4;obtain ⟨kd,nm,hdn,ex,th,el⟩ := xm;obtain ⟨p4,c4,p5,c5,p6,c6,rfl,hex,hth,hel,hn1,hn2⟩ := sm_open rS;have hce := hex.cap;refine .sk<|.tN<|.sq<|.bk<|.sr<|.yv (.indexSl Fx.sl80 Z Z Z (by omega) (q := oS + m * 6) Z) Z<|.yv (.loadMW Z Fx.agg85 (mS.up uf.up) Z) Z<|.al Fx.zero85 Z fun b16 => .sW .head Z Z Fx.size85 (by simp [Value.oneCell',strV]) Z<|.ns<|.yv (.fieldAddr Z Fx.field85_3) Z<|.yv (.load Z Fx.agg56 (.head _) Z) Z<|.yv (.lenSl Fx.sl56 Z) Z<|.m Z Z<|.nt<|.bk<|.lp (X := Nat × Hp) [(6,_),(9,_),(14,_),(16,_),(35,_),(36,_),(37,_),(43,_),(44,_),(45,_),(49,_),(50,_),(51,_),(57,_),(58,_),(59,_),(64,_),(65,_)] ⟨rfl,rfl,rfl,rfl,rfl,rfl,rfl,rfl,rfl,rfl,rfl,rfl,rfl,rfl,rfl,rfl,rfl,rfl,trivial⟩ [_,_,_,_,_,_,_] (fun z => [(66,.int .i64 (z.1 : Nat))]) (fun z => z.2) (fun z => []) (fun z => z.1 ≤ ex.length ∧ HUp w H57 z.2) (fun z => ex.length - z.1) (0,Hf) (fun _ s => s) ⟨rfl,trivial⟩ ⟨Nat.zero_le _,uf⟩ fun z hC => ?_
     obtain ⟨q,Hg⟩ := z;dsimp only at hC ⊢;obtain ⟨hq0,ug⟩ := hC;refine .sr<|.yv (.lss Z Z) Z<|.nt<|.sq<|.cd Z (fun h67 => ?_) (fun h67 => ?_)
     ·try simp only [dt] at h67
      have hq : q < ex.length := by omega
      obtain ⟨bE,oE,csE,eE,rE,lE,mE⟩ := hex.elem (map_at hq);cases eE;have hme : ex[q] ∈ (Sm.mk kd nm hdn ex th el).ex := List.getElem_mem hq;obtain ⟨hce0,hde⟩ := check_e s1 s2 s3 hme;obtain ⟨hty0,hty⟩ := uses_ty hst1 s3 hme
      have hnar : Ex.all narrow ex[q] = true := by
       simp only [okSD,Bool.and_eq_true,List.all_eq_true] at s4;exact s4.2 _ (List.getElem_mem hq)
      generalize ex[q] = e at rE hce0 hde hty0 hty hnar;refine .sk<|.tN<|.sq<|.bk<|.sr<|.yv (.indexSl Fx.sl56 Z Z Z (by omega) (q := oE + q * 4) Z) Z<|.yv (.loadMW Z Fx.agg58 (mE.up ug.up) lE) Z<|.al Fx.zero58 Z fun b18 => .sV .head Z Z Fx.size58 lE (rE.up ug.up).one Z<|.nt<|.sq<|.fl (trip := [(_,_,_),(_,_,_),(_,_,_),(_,_,_),(_,_,_),(_,_,_),(_,_,_),(_,_,_),(_,_,_),(_,_,_),(_,_,_)]) 11 [(0,0),(1,0),(2,0),(3,0),(4,0),(5,1),(6,0),(7,0),(8,0),(9,0),(10,0)] (by kernel_rfl) (by kernel_rfl) Z<|.yv (.loadW Z Fx.agg37 (.tail _<|.tail _<|.tail _<|.tail _<|.tail _<|.head _) (ft_len9 hxs)) Z<|.m Z Z<|.yv (.fieldAddr Z Fx.field82_1) Z<|.yv (.load Z Fx.agg54 (.tail _<|.tail _<|.head _) Z) Z<|.yv (.loadW Z Fx.agg58 (.head _) lE) Z<|.ct (X := List Value) Fx.call19 Z (fun W t => in_any e hnar Hg _ W (rE.up ug.up) t.agr) Z fun x76 H76 hx76 u76 => ?_
      have ul : HUp w H1 H76 := ud.trans (u57.trans (ug.trans u76));refine .yv (.call Fx.call18 Z (fun W t => typeOf_good H76 (G.up (u1.trans ul).up) f xs (hxs.up ul.up) (hb.ev hD) _ e x76 hx76 (by omega) i hi _ Z hck0 hce0 f.comps[i].vers[n][k].ps (rep_long (hps.up ul.up)) W t.agr)) Z<|.m Z Z<|.yv (.extract Z Z) Z<|.yv (.extract Z Z) Z<|.a Z Z<|.fn (tl := [_]) Z<|.a Z Z<|.nt<|.sq<|.sq<|?_
      generalize hT : tyE ⟨f.flags,f.comps[i].vars,f.comps[i].vers[n][k].ps⟩ e = T at hty0 hty;refine .rg<|.m Z Z<|.yv (.cast (v' := .bool false) (.neq Z Z) (by rw [hty0];rfl)) Z<|.m Z Z<|.gd Z Z<|.yv (.move Z) Z<|.gd Z Z<|.yv (.neq Z Z) Z<|.gd Z Z<|.yv (.move Z) Z<|.b2 (fun h85 => ?_) (fun h85 => ?_)
      ·have ht2 : T.ty = 2 := by
        have h1 : ¬ T.ty = 1 := fun e => by rw [e] at h85;cases h85
        rcases hty with ⟨_,h | h⟩ | ⟨_,_,h⟩ | ⟨_,_,h⟩
        ·exact (h1 h).elim
        ·exact h
        ·exact h
        ·exact (h1 h).elim
       refine .gd Z Z<|.yv (.move Z) Z<|.gd Z Z<|.yv (.cast (v' := .bool false) (.neq Z Z) (by rw [ht2];rfl)) Z<|.gd Z Z<|.yv (.pickT Z Z) Z<|.yv (.pickF Z Z) Z<|.nt<|.cF Z<|.sk<|.tN<|.sr<|.yv (.fieldAddr Z Fx.field85_0) Z<|.yv (.load Z Fx.agg3 (.tail _<|.head _) Z) Z<|.yv (.eql Z Z) Z<|.m Z Z<|.b2 (fun h93 => ?_) (fun h93 => ?_)
       ·try simp only [dt] at h93
        refine .gF Z Z Z Z<|.gF Z Z Z Z<|.gF Z Z Z Z<|.yv (.pickT Z Z) Z<|.m Z Z<|.yv (.eql Z Z) Z<|.yv (.neqB Fx.bool4 Z Z) Z<|.m Z Z<|.b2 (fun h101 => ?_) (fun h101 => ?_)
        ·have hk1 : kd = 1 := by
          rcases hty with ⟨h,_⟩ | ⟨_,h,h2⟩ | ⟨_,h,h2⟩
          ·exact h
          ·exfalso
           rw [h2] at h101;have h : kd = 4 ∨ kd = 5 := h;rcases h with rfl | rfl <;> first | exact h93 rfl | (revert h101;decide) | (revert h93;decide)
          ·exfalso
           rw [h2] at h101;have k4 : ¬ kd.toNat = 4 := fun e => h (.inl (UInt8.toNat_inj.1 e));have k5 : ¬ kd.toNat = 5 := fun e => h (.inr (UInt8.toNat_inj.1 e))
           first | omega | (rw [decide_eq_false (show ¬ ((kd.toNat : Nat) : Int) = 5 by omega)] at h101;revert h101;decide)
         exact .gd Z Z<|.yv (.fieldAddr Z Fx.field85_0) Z<|.gd Z Z<|.yv (.load Z Fx.agg3 (.tail _<|.head _) Z) Z<|.gd Z Z<|.yv (.cast (v' := .bool false) (.neq Z Z) (by rw [hk1];rfl)) Z<|.yv (.pickT Z Z) Z<|.nt<|.cF Z<|.sk<|.bN<|.tN<|.rg<|.yv (.add Z Z (w6 (by omega))) Z<|.m Z Z<|.nt<|.ag (x := (q,Hg)) (q + 1,H76) ⟨rfl,trivial⟩ ⟨rfl,rfl,rfl,rfl,rfl,rfl,rfl,rfl,rfl,rfl,rfl,rfl,rfl,rfl,rfl,rfl,rfl,rfl,trivial⟩ (fun _ s => (s.pick [1,2,3,4,5,6,7] _ Z Z)) ⟨by dsimp only;omega,(ug.trans u76)⟩ (by dsimp only;omega)
        try simp only [df] at h101
        exact .gF Z Z Z Z<|.gF Z Z Z Z<|.gF Z Z Z Z<|.yv (.pickF Z Z) Z<|.nt<|.cF Z<|.sk<|.bN<|.tN<|.rg<|.yv (.add Z Z (w6 (by omega))) Z<|.m Z Z<|.nt<|.ag (x := (q,Hg)) (q + 1,H76) ⟨rfl,trivial⟩ ⟨rfl,rfl,rfl,rfl,rfl,rfl,rfl,rfl,rfl,rfl,rfl,rfl,rfl,rfl,rfl,rfl,rfl,rfl,trivial⟩ (fun _ s => (s.pick [1,2,3,4,5,6,7] _ Z Z)) ⟨by dsimp only;omega,(ug.trans u76)⟩ (by dsimp only;omega)
       try simp only [df] at h93
       refine .gd Z Z<|.yv (.fieldAddr Z Fx.field85_0) Z<|.gd Z Z<|.yv (.load Z Fx.agg3 (.tail _<|.head _) Z) Z<|.gd Z Z<|.yv (.eql Z Z) Z<|.yv (.pickF Z Z) Z<|.m Z Z<|.yv (.eql Z Z) Z<|.yv (.neqB Fx.bool4 Z Z) Z<|.m Z Z<|.b2 (fun h101 => ?_) (fun h101 => ?_)
       ·have hk1 : kd = 1 := by
         rcases hty with ⟨h,_⟩ | ⟨_,h,h2⟩ | ⟨_,h,h2⟩
         ·exact h
         ·exfalso
          rw [h2] at h101;have h : kd = 4 ∨ kd = 5 := h;rcases h with rfl | rfl <;> first | exact h93 rfl | (revert h101;decide) | (revert h93;decide)
         ·exfalso
          rw [h2] at h101;have k4 : ¬ kd.toNat = 4 := fun e => h (.inl (UInt8.toNat_inj.1 e));have k5 : ¬ kd.toNat = 5 := fun e => h (.inr (UInt8.toNat_inj.1 e))
          first | omega | (rw [decide_eq_false (show ¬ ((kd.toNat : Nat) : Int) = 5 by omega)] at h101;revert h101;decide)
        exact .gd Z Z<|.yv (.fieldAddr Z Fx.field85_0) Z<|.gd Z Z<|.yv (.load Z Fx.agg3 (.tail _<|.head _) Z) Z<|.gd Z Z<|.yv (.cast (v' := .bool false) (.neq Z Z) (by rw [hk1];rfl)) Z<|.yv (.pickT Z Z) Z<|.nt<|.cF Z<|.sk<|.bN<|.tN<|.rg<|.yv (.add Z Z (w6 (by omega))) Z<|.m Z Z<|.nt<|.ag (x := (q,Hg)) (q + 1,H76) ⟨rfl,trivial⟩ ⟨rfl,rfl,rfl,rfl,rfl,rfl,rfl,rfl,rfl,rfl,rfl,rfl,rfl,rfl,rfl,rfl,rfl,rfl,trivial⟩ (fun _ s => (s.pick [1,2,3,4,5,6,7] _ Z Z)) ⟨by dsimp only;omega,(ug.trans u76)⟩ (by dsimp only;omega)
       try simp only [df] at h101
       exact .gF Z Z Z Z<|.gF Z Z Z Z<|.gF Z Z Z Z<|.yv (.pickF Z Z) Z<|.nt<|.cF Z<|.sk<|.bN<|.tN<|.rg<|.yv (.add Z Z (w6 (by omega))) Z<|.m Z Z<|.nt<|.ag (x := (q,Hg)) (q + 1,H76) ⟨rfl,trivial⟩ ⟨rfl,rfl,rfl,rfl,rfl,rfl,rfl,rfl,rfl,rfl,rfl,rfl,rfl,rfl,rfl,rfl,rfl,rfl,trivial⟩ (fun _ s => (s.pick [1,2,3,4,5,6,7] _ Z Z)) ⟨by dsimp only;omega,(ug.trans u76)⟩ (by dsimp only;omega)
      have ht1 : T.ty = 1 := by
       have h2 := of_decide_eq_false h85;have h3 : ((T.ty.toNat : Nat) : Int) = 1 := by omega
       exact UInt8.toNat_inj.1 (by show T.ty.toNat = 1;omega)
      refine .gF Z Z Z Z<|.gF Z Z Z Z<|.gd Z Z<|.yv (.pickF Z Z) Z<|.yv (.pickF Z Z) Z<|.nt<|.cF Z<|.sk<|.tN<|.sr<|.yv (.fieldAddr Z Fx.field85_0) Z<|.yv (.load Z Fx.agg3 (.tail _<|.head _) Z) Z<|.yv (.eql Z Z) Z<|.m Z Z<|.b2 (fun h93 => ?_) (fun h93 => ?_)
      ·try simp only [dt] at h93
       refine .gF Z Z Z Z<|.gF Z Z Z Z<|.gF Z Z Z Z<|.yv (.pickT Z Z) Z<|.m Z Z<|.yv (.eql Z Z) Z<|.yv (.neqB Fx.bool4 Z Z) Z<|.m Z Z<|.b2 (fun h101 => ?_) (fun h101 => ?_)
       ·have hk1 : kd = 1 := by
         rcases hty with ⟨h,_⟩ | ⟨_,h,h2⟩ | ⟨_,h,h2⟩
         ·exact h
         ·exfalso
          rw [h2] at h101;have h : kd = 4 ∨ kd = 5 := h;rcases h with rfl | rfl <;> first | exact h93 rfl | (revert h101;decide) | (revert h93;decide)
         ·exfalso
          rw [h2] at h101;have k4 : ¬ kd.toNat = 4 := fun e => h (.inl (UInt8.toNat_inj.1 e));have k5 : ¬ kd.toNat = 5 := fun e => h (.inr (UInt8.toNat_inj.1 e))
          first | omega | (rw [decide_eq_false (show ¬ ((kd.toNat : Nat) : Int) = 5 by omega)] at h101;revert h101;decide)
        exact .gd Z Z<|.yv (.fieldAddr Z Fx.field85_0) Z<|.gd Z Z<|.yv (.load Z Fx.agg3 (.tail _<|.head _) Z) Z<|.gd Z Z<|.yv (.cast (v' := .bool false) (.neq Z Z) (by rw [hk1];rfl)) Z<|.yv (.pickT Z Z) Z<|.nt<|.cF Z<|.sk<|.bN<|.tN<|.rg<|.yv (.add Z Z (w6 (by omega))) Z<|.m Z Z<|.nt<|.ag (x := (q,Hg)) (q + 1,H76) ⟨rfl,trivial⟩ ⟨rfl,rfl,rfl,rfl,rfl,rfl,rfl,rfl,rfl,rfl,rfl,rfl,rfl,rfl,rfl,rfl,rfl,rfl,trivial⟩ (fun _ s => (s.pick [1,2,3,4,5,6,7] _ Z Z)) ⟨by dsimp only;omega,(ug.trans u76)⟩ (by dsimp only;omega)
       try simp only [df] at h101
       exact .gF Z Z Z Z<|.gF Z Z Z Z<|.gF Z Z Z Z<|.yv (.pickF Z Z) Z<|.nt<|.cF Z<|.sk<|.bN<|.tN<|.rg<|.yv (.add Z Z (w6 (by omega))) Z<|.m Z Z<|.nt<|.ag (x := (q,Hg)) (q + 1,H76) ⟨rfl,trivial⟩ ⟨rfl,rfl,rfl,rfl,rfl,rfl,rfl,rfl,rfl,rfl,rfl,rfl,rfl,rfl,rfl,rfl,rfl,rfl,trivial⟩ (fun _ s => (s.pick [1,2,3,4,5,6,7] _ Z Z)) ⟨by dsimp only;omega,(ug.trans u76)⟩ (by dsimp only;omega)
      try simp only [df] at h93
      refine .gd Z Z<|.yv (.fieldAddr Z Fx.field85_0) Z<|.gd Z Z<|.yv (.load Z Fx.agg3 (.tail _<|.head _) Z) Z<|.gd Z Z<|.yv (.eql Z Z) Z<|.yv (.pickF Z Z) Z<|.m Z Z<|.yv (.eql Z Z) Z<|.yv (.neqB Fx.bool4 Z Z) Z<|.m Z Z<|.b2 (fun h101 => ?_) (fun h101 => ?_)
      ·have hk1 : kd = 1 := by
        rcases hty with ⟨h,_⟩ | ⟨_,h,h2⟩ | ⟨_,h,h2⟩
        ·exact h
        ·exfalso
         rw [h2] at h101;have h : kd = 4 ∨ kd = 5 := h;rcases h with rfl | rfl <;> first | exact h93 rfl | (revert h101;decide) | (revert h93;decide)
        ·exfalso
         rw [h2] at h101;have k4 : ¬ kd.toNat = 4 := fun e => h (.inl (UInt8.toNat_inj.1 e));have k5 : ¬ kd.toNat = 5 := fun e => h (.inr (UInt8.toNat_inj.1 e))
         first | omega | (rw [decide_eq_false (show ¬ ((kd.toNat : Nat) : Int) = 5 by omega)] at h101;revert h101;decide)
       exact .gd Z Z<|.yv (.fieldAddr Z Fx.field85_0) Z<|.gd Z Z<|.yv (.load Z Fx.agg3 (.tail _<|.head _) Z) Z<|.gd Z Z<|.yv (.cast (v' := .bool false) (.neq Z Z) (by rw [hk1];rfl)) Z<|.yv (.pickT Z Z) Z<|.nt<|.cF Z<|.sk<|.bN<|.tN<|.rg<|.yv (.add Z Z (w6 (by omega))) Z<|.m Z Z<|.nt<|.ag (x := (q,Hg)) (q + 1,H76) ⟨rfl,trivial⟩ ⟨rfl,rfl,rfl,rfl,rfl,rfl,rfl,rfl,rfl,rfl,rfl,rfl,rfl,rfl,rfl,rfl,rfl,rfl,trivial⟩ (fun _ s => (s.pick [1,2,3,4,5,6,7] _ Z Z)) ⟨by dsimp only;omega,(ug.trans u76)⟩ (by dsimp only;omega)
      try simp only [df] at h101
      exact .gF Z Z Z Z<|.gF Z Z Z Z<|.gF Z Z Z Z<|.yv (.pickF Z Z) Z<|.nt<|.cF Z<|.sk<|.bN<|.tN<|.rg<|.yv (.add Z Z (w6 (by omega))) Z<|.m Z Z<|.nt<|.ag (x := (q,Hg)) (q + 1,H76) ⟨rfl,trivial⟩ ⟨rfl,rfl,rfl,rfl,rfl,rfl,rfl,rfl,rfl,rfl,rfl,rfl,rfl,rfl,rfl,rfl,rfl,rfl,trivial⟩ (fun _ s => (s.pick [1,2,3,4,5,6,7] _ Z Z)) ⟨by dsimp only;omega,(ug.trans u76)⟩ (by dsimp only;omega)
     skip
     exact .ex<|.tE<|.tE<|.bE<|.bN<|.tN<|.rg<|.yv (.add Z Z (w6 (by omega))) Z<|.m Z Z<|.nt<|.ag (x := (m,Hf)) (m + 1,Hg) ⟨rfl,trivial⟩ ⟨rfl,rfl,rfl,rfl,rfl,rfl,rfl,rfl,rfl,rfl,rfl,rfl,rfl,rfl,trivial⟩ (fun _ s => (s.pick [1,2,3,4,5,6] _ Z Z)) ⟨by dsimp only;omega,ug⟩ (by dsimp only;omega)
    skip
    exact .ex<|.tE<|.tE<|.bE<|.bN<|.tN<|.rg<|.yv (.add Z Z (w6 (by omega))) Z<|.m Z Z<|.nt<|.ag (x := (k,Hd)) (k + 1,Hf) ⟨rfl,trivial⟩ ⟨rfl,rfl,rfl,rfl,rfl,rfl,rfl,rfl,rfl,rfl,trivial⟩ (fun _ s => (s.pick [1,2,3,4,5] _ Z Z)) ⟨by dsimp only;omega,(ud.trans (u57.trans uf))⟩ (by dsimp only;omega)
   skip
   exact .ex<|.tE<|.tE<|.bE<|.bN<|.tN<|.rg<|.yv (.add Z Z (w6 (by omega))) Z<|.m Z Z<|.nt<|.ag (x := (n,Hc)) (n + 1,Hd) ⟨rfl,trivial⟩ ⟨rfl,rfl,rfl,rfl,rfl,rfl,rfl,trivial⟩ (fun _ s => (s.pick [0,1,2,3,4] _ Z Z)) ⟨by dsimp only;omega,ud⟩ (by dsimp only;omega)
  skip
  exact .ex<|.tE<|.tE<|.bE<|.bN<|.tN<|.rg<|.yv (.add Z Z (w6 (by omega))) Z<|.m Z Z<|.nt<|.ag (x := (i,Ha)) (i + 1,Hc) ⟨rfl,trivial⟩ ⟨rfl,rfl,rfl,trivial⟩ (fun _ s => (s.pick [1,2,3,4] _ Z Z)) ⟨by dsimp only;omega,uc⟩ (by dsimp only;omega)
 skip
 refine .ex<|.tE<|.tE<|.bE<|.tN<|.sr<|.yv (.call Fx.call11 Z (fun W t => awake8_any Ha (G.up (u1.trans ua).up) W t.agr)) Z<|.a Z Z<|.nt<|.rt<|?_
 exact Sx.ret1 (.inl rfl) rfl (.tmp rfl) fun W s => ⟨rfl,s.ext⟩
variable {H : Type} {enc : TypeId × Value → H}
theorem wrap {a : Assume} {C : Checked} {os : Os} {f : FuncId} {fn : Func} {s : ChangeSpec} {conds : List PathCond} {apart fresh handsOn again : Bool} {X : World → Array Value → Prop}
 (hX : ∀ (w w' : World) (args : Array Value),w.heap = w'.heap → X w args → X w' args)
 (own : ownKnob C.prog.godebug = none) (started : os.Started) (noInit : C.prog.inits.idxOf? f = none) (hfn : C.prog.funcs[f]? = some fn)
 (witness : ∃ (w : World) (tape : Tape) (i : Input),w.os = os ∧ (w.forCall tape i).Shaped C.prog ∧ i.vars = [] ∧ Input.okWide C.prog (w.forCall tape i) .any w.heap.size f i ∧
  ((s.pre enc C.prog fn conds apart (w.forCall tape i).memory i.args ∧ X (w.forCall tape i).memory i.args) ∧ sizedMet enc C.prog fn (OpenSpec.ofChange s) apart (w.forCall tape i).memory i.args) ∧ a.holds C.prog (lone (Frame.enter C.prog f i.args .normal) [] (w.forCall tape i)))
 (contract : ∀ (W : World) (base : Nat) (args : Array Value) (ds gs : List (DataW H)) (before : List MemPlace),
  (∀ (j : Nat) t v,fn.params[j]? = some t → args[j]? = some v → Value.okWide C.prog W .any base t v) →
  DataW.Whole enc C.prog fn.params.toList s.vars apart W args.toList ds gs before →
  X W args → W.ShapedOpen C.prog →
  Calls C.prog f args W fun e W' => ∃ v,e = .returned v ∧ s.post enc C.prog fn apart fresh handsOn again W args v W') :
 ReturnsInHanded a C os f .any (fun w args => (s.pre enc C.prog fn conds apart w args ∧ X w args) ∧ sizedMet enc C.prog fn (OpenSpec.ofChange s) apart w args) (s.post enc C.prog fn apart fresh handsOn again) := by
 refine returnsInHanded_of_calls own started noInit witness ?_;intro w tape i _ hsh _ hok hpre _;obtain ⟨_,_,_,fn',hfn',_,_,_,_,hval⟩ := hok;have e : fn' = fn := Option.some.inj (hfn'.symm.trans hfn);subst e;obtain ⟨⟨⟨ds,gs,before,hw,_⟩,hx⟩,_⟩ := hpre;have hw' := DataW.Whole.of_heap (w' := w.forCall tape i) (by rfl) hw;refine (contract (w.forCall tape i) w.heap.size i.args ds gs before hval hw' (hX _ _ _ (by rfl) hx) hsh).mono fun e W' ⟨v,he,hp⟩ => ?_;subst he;exact ChangeSpec.post_blind hp

theorem own : ownKnob Tryz.prog.godebug = none := by kernel_rfl
def laids : List (String × DataW Unit) := [("math/bits.deBruijn32tab",Rows.laid_math_bits_deBruijn32tab),("math/bits.deBruijn64tab",Rows.laid_math_bits_deBruijn64tab),("internal/strconv.uint64pow10",Rows.laid_internal_strconv_uint64pow10),("rootcause/lexer.words",Rows.laid_rootcause_lexer_words),("rootcause/lexer.symbols",Rows.laid_rootcause_lexer_symbols),("rootcause/syntax.shapes",Rows.laid_rootcause_syntax_shapes),("rootcause/syntax.forms",Rows.laid_rootcause_syntax_forms)]
theorem gTab : Tryz.prog.globalNamed "internal/strconv.uint64pow10" = some 4 := by kernel_rfl
theorem gTabT : (Tryz.prog.globals[4]?).map (·.type) = some 233 := by kernel_rfl
theorem cellsTab : Tryz.prog.cellsOf 233 = 20 := by kernel_rfl
theorem cellsTabE : Tryz.prog.cellsOf 223 = 1 := by kernel_rfl
theorem tabEq : (Rows.laid_internal_strconv_uint64pow10 : DataW Unit) = Lib.tabData .u64 Lib.pow10Tab := by kernel_rfl
theorem gt_of {W : World} (h : laidMet Tryz.prog laids W) : Gt (allH W) := by
 intro W' hA;have h1 : Lib.TabIs Tryz.prog W "internal/strconv.uint64pow10" .u64 Lib.pow10Tab := Lib.tabIs_of_head gTab gTabT Tryz.underlying233 Tryz.underlying223 cellsTabE cellsTab (tabEq ▸ h.tail.tail);unfold Lib.TabIs World.var? at *;rw [gTab] at *;simp only [Option.bind_some] at *
 split at h1
 ·rename_i cs T m hb;rw [hA 4 _ hb];exact h1
 ·cases h1
theorem gl_of {W : World} (h : laidMet Tryz.prog laids W) : Gl (allH W) :=
 ⟨laid_mem (t := 209) (.arr 24 (.str [.int .i64,.bool,.int .i64,.strg])) _ (by kernel_rfl) (by kernel_rfl) (by kernel_rfl) (by kernel_rfl) (by kernel_rfl) h.tail.tail.tail.tail.tail,
  laid_mem (t := 218) (.arr 11 (.str [.bool,.bool,.int .i64,.int .i64,.bool,.bool])) _ (by kernel_rfl) (by kernel_rfl) (by kernel_rfl) (by kernel_rfl) (by kernel_rfl) h.tail.tail.tail.tail.tail.tail,
  laid_mem (t := 231) (.arr 39 .strg) _ (by kernel_rfl) (by kernel_rfl) (by kernel_rfl) (by kernel_rfl) (by kernel_rfl) h.tail.tail.tail,
  laid_mem (t := 216) (.arr 25 .strg) _ (by kernel_rfl) (by kernel_rfl) (by kernel_rfl) (by kernel_rfl) (by kernel_rfl) h.tail.tail.tail.tail⟩
theorem laid_met (os : Os) (args : Array Value) : laidMet Tryz.prog laids ((World.laidAll Tryz.prog os laids).forCall (fun _ _ => 0) ⟨#[],args,[]⟩).memory :=
 laidMet_laidAll _ (by kernel_rfl) (by kernel_rfl)
theorem laid_shaped (os : Os) (args : Array Value) : ((World.laidAll Tryz.prog os laids).forCall (fun _ _ => 0) ⟨#[],args,[]⟩).Shaped Tryz.prog :=
 World.shaped_of_ZipB (by kernel_rfl) (by kernel_rfl)
theorem ext_kept {W W' : World} (h : Ext W W') : ∀ may,W.keptBut W' may := fun may => (Ext.below h).frame may
theorem laidOut : laidOutB Tryz.prog = true := by kernel_rfl
end Go.Proofs.YtohfacbajcenoaaGreatDoor
