/- Texts of the proof, one behind the other. -/
import Derived.Test.YtohfacbajcenoaaGreatDoorMf
import Derived.Test.YtohfacbajcenoaaGreatDoorTie
import Derived.ProofKit
import Derived.OpenShut
import Derived.ShutString
import Derived.Lay
import Derived.Stop.LaidErr
import Derived.Stop.Joined
import Derived.Shelf.Vars
import Derived.Lib.LaidTab
import Derived.Lib.SmallJoins
import Derived.SevenTiedAt
set_option linter.all false
set_option maxRecDepth 100000
namespace Go.Proofs.YtohfacbajcenoaaGreatDoor
open Go.RowKit Go.Par Go.Sx
theorem tr2_refl {H : Hp} : Tr2 H H := ⟨H,trf_refl,trf_refl⟩
theorem Trf.two {H H' : Hp} (t : Trf H H') : Tr2 H H' := ⟨H',t,trf_refl⟩
theorem tr2_up {H H1 H2 : Hp} (u : Up H H1) (t : Tr2 H1 H2) : Tr2 H H2 := by
 obtain ⟨K,a,b⟩ := t;exact ⟨K,trf_up u a,b⟩
theorem tmod2 {i : Int} (h : 0 ≤ i) : i.tmod 2 = i % 2 ∧ 0 ≤ i % 2 ∧ i % 2 ≤ 100 := ⟨Int.tmod_eq_emod_of_nonneg h,by omega,by omega⟩
theorem atN_le (n m : Nat) : atN n m ≤ n := by
 unfold atN
 split
 ·exact Nat.zero_le _
 ·exact Nat.mod_le _ _
set_option maxHeartbeats 8000000 in
set_option maxRecDepth 100000 in
theorem apply8_st {w0 : World} {H0 H : Hp} {W : World} {bs : List Res} {f : Ft} {cs : List Value} {M D : Nat} (c : Chg) (I : Inv w0 H0 H) (h : Rep H (dFt .i64 f) cs) (hp : posF f) (hb : bndF M D f) (hM : M ≤ 1000) (hgd : gdF f) (s : St H w0 bs W) :
 Calls Tryz.prog 23 #[.agg cs.toArray,.agg (cChg c).toArray] W fun e W' => ∃ z : Hp,(Tr2 H z ∧ Inv w0 H0 z) ∧ e = .returned (.tuple #[]) ∧ St z w0 bs W' := by
 obtain ⟨q1,d1,q2,d2,q3,d3,rfl,hn,h1,h2,h3⟩ := ft_open h;have hc1 := h1.cap;have hc2 := h2.cap;have hc3 := h3.cap;refine Sx.enterS Tryz.func23 rfl Tryz.ntmps23 rfl s ?_;refine .sr<|.bx Z Z Z fun b2 => .bx Z Z Z fun b3 => .ns<|.yv (.fieldAddr Z Fx.field53_1) Z<|.yv (.load Z Fx.agg5 (.head _) Z) Z<|.yv (.fieldAddr Z Fx.field31_3) Z<|.yv (.load Z Fx.agg29 (.tail _<|.head _) Z) Z<|.yv (.lenSl Fx.sl29 Z) Z<|.yv (.call Fx.call42 Z (fun W t => at8_any H c.i f.comps.length W t.agr)) Z<|.a Z Z<|.nt<|.sq<|?_
 obtain ⟨i1,hi1⟩ : ∃ q,q = atN c.i.toNat f.comps.length := ⟨_,rfl⟩;rw [← hi1];have hi : i1 < f.comps.length := by rw [hi1];exact atN_lt hp.1
 obtain ⟨bC,oC,csC,eC,rC,lC,mC,loC,aC⟩ := h3.elemA (map_at hi) rfl;cases eC;have hpC := hp.2 _ (List.getElem_mem hi);have hbC0 := hb.all _ (List.getElem_mem hi);have hgC0 := hgd.2.2.2 _ (List.getElem_mem hi);generalize f.comps[i1] = cp at rC hpC hbC0 hgC0;obtain ⟨q4,d4,q5,d5,rfl,nmC,hvC,hsC⟩ := cp_open rC;obtain ⟨arC,tC,hHC,hbC,hoC⟩ := I.tgt loC mC (by simp);have hoC : oC + i1 * 3 + 3 ≤ arC.size := hoC;have hcv := hvC.cap;have hcs := hsC.cap;refine .rg<|.yv (.fieldAddr Z Fx.field31_3) Z<|.yv (.load Z Fx.agg29 (.tail _<|.head _) Z) Z<|.m Z Z<|.yv (.indexSl Fx.sl29 Z Z (i := i1) Z hi (q := oC + i1 * 3) Z) Z<|.yv (.loadMW Z Fx.agg78 mC Z) Z<|.al Fx.zero78 Z fun b5 => .sW .head Z Z Fx.size78 (by simp [Value.oneCell',strV]) Z<|.ns<|.yv (.fieldAddr Z Fx.field53_2) Z<|.yv (.load Z Fx.agg5 (.tail _<|.head _) Z) Z<|.yv (.fieldAddr Z Fx.field78_2) Z<|.yv (.load Z Fx.agg76 (.head _) Z) Z<|.yv (.lenSl Fx.sl76 Z) Z<|.yv (.call Fx.call42 Z (fun W t => at8_any H c.j cp.vers.length W t.agr)) Z<|.a Z Z<|.nt<|.sq<|?_
 obtain ⟨i2,hi2⟩ : ∃ q,q = atN c.j.toNat cp.vers.length := ⟨_,rfl⟩;rw [← hi2];have hv2 : i2 < cp.vers.length := by rw [hi2];exact atN_lt hpC.2.1
 obtain ⟨bV,oV,csV,eV,rV,lV,mV⟩ := hsC.elem (map_at hv2);cases eV;have hvn := hpC.2.2 _ (List.getElem_mem hv2);have hvb := hbC0.all _ (List.getElem_mem hv2);have hgV := hgC0.2.2 _ (List.getElem_mem hv2);generalize cp.vers[i2] = vv at rV hvn hvb hgV;obtain ⟨q6,d6,rfl,hhd⟩ := vs_open rV;have hcv2 := hhd.cap;obtain ⟨i3,hi3⟩ : ∃ q,q = atN (c.j.toNat / 4) vv.length := ⟨_,rfl⟩;have hh3 : i3 < vv.length := by rw [hi3];exact atN_lt (List.length_pos_iff.2 hvn)
 obtain ⟨bH,oH,csH,eH,rH,lH,mH,loH,aH⟩ := hhd.elemA (map_at hh3) rfl;cases eH;have hbH0 := hvb.2 _ (List.getElem_mem hh3);have hgH := (hgV _ (List.getElem_mem hh3)).1;generalize vv[i3] = hd at rH hbH0 hgH;obtain ⟨q7,d7,q8,d8,rfl,nmH,hps,hbd⟩ := hd_openP rH;obtain ⟨arH,tH,hHH,hbH,hoH⟩ := I.tgt loH mH (by simp);have hoH : oH + i3 * 3 + 3 ≤ arH.size := hoH;have hpcap := (dPs_seq hps).cap;have hbcap := hbd.cap;refine .fl (trip := [(_,_,_),(_,_,_),(_,_,_),(_,_,_),(_,_,_),(_,_,_),(_,_,_),(_,_,_),(_,_,_),(_,_,_)]) 10 [(0,0),(1,0),(2,0),(3,0),(4,0),(5,0),(6,0),(7,0),(8,0),(9,0)] (by kernel_rfl) (by kernel_rfl) Z<|.yv (.fieldAddr Z Fx.field53_2) Z<|.yv (.load Z Fx.agg5 (.tail _<|.head _) Z) Z<|.yv (.quo Z Z (by decide) (c := ((c.j.toNat / 4 : Nat) : Int)) (qu8 _ c.j.toNat_lt (by decide))) Z<|.yv (.fieldAddr Z Fx.field78_2) Z<|.yv (.load Z Fx.agg76 (.head _) Z) Z<|.m Z Z<|.yv (.indexSl Fx.sl76 Z Z (i := i2) Z hv2 (q := oV + i2 * 1) Z) Z<|.yv (.loadM Z Fx.agg79 mV (k := 0) Z Z) Z<|.yv (.lenSl Fx.sl79 Z) Z<|.yv (.cast (v' := .int .i64 (i3 : Nat)) (.call Fx.call42 Z (fun W s => by have := at8_any H (UInt8.ofNat (c.j.toNat / 4)) vv.length W s.agr;rw [u8q4] at this;exact this)) (by rw [hi3])) Z<|.fn (tl := [_]) Z<|.a Z Z<|.ns<|.yv (.fieldAddr Z Fx.field53_0) Z<|.yv (.load Z Fx.agg5 (.tail _<|.head _) Z) Z<|.yv (.rem Z Z (by decide) (c := ((c.wh.toNat % 10 : Nat) : Int)) (tm2 _ 10)) Z<|.nt<|.bk<|.sr<|.yv (.eql Z Z) Z<|.a Z Z<|.nt<|.cd Z (fun h67 => ?_) (fun h67 => ?_)
 ·try simp only [dt] at h67
  refine .sr<|.yv (.fieldAddr Z Fx.field31_1) Z<|.yv (.load Z Fx.agg27 (.tail _<|.tail _<|.head _) Z) Z<|.yv (.lenSl Fx.sl27 Z) Z<|.yv (.gtr Z Z) Z<|.nt<|.cd Z (fun h72 => ?_) (fun h72 => ?_)
  ·try simp only [dt] at h72
   have hf0 : 0 < f.flags.length := by omega
   obtain ⟨j1,hj1⟩ : ∃ q,q = atN c.k.toNat f.flags.length := ⟨_,rfl⟩;have hj : j1 < f.flags.length := by rw [hj1];exact atN_lt hf0
   obtain ⟨bF,oF,csF,eF,rF,lF,mF,loF,aF⟩ := h1.elemA (map_at hj) rfl;cases eF;obtain ⟨rfl,nmF⟩ := fg_open rF;obtain ⟨arF,tF,hHF,hbF,hoF⟩ := I.tgt loF mF (by simp);have hoF : oF + j1 * 2 + 2 ≤ arF.size := hoF;refine .fl (trip := [(_,_,_),(_,_,_),(_,_,_),(_,_,_),(_,_,_),(_,_,_),(_,_,_),(_,_,_),(_,_,_),(_,_,_),(_,_,_)]) 11 [(0,0),(1,0),(2,0),(3,0),(4,0),(5,0),(6,0),(7,0),(8,0),(9,0),(10,0)] (by kernel_rfl) (by kernel_rfl) Z<|.yv (.fieldAddr Z Fx.field31_1) Z<|.yv (.load Z Fx.agg27 (.tail _<|.tail _<|.head _) Z) Z<|.yv (.fieldAddr Z Fx.field53_3) Z<|.yv (.load Z Fx.agg5 (.tail _<|.head _) Z) Z<|.yv (.fieldAddr Z Fx.field31_1) Z<|.yv (.load Z Fx.agg27 (.tail _<|.tail _<|.head _) Z) Z<|.yv (.lenSl Fx.sl27 Z) Z<|.yv (.cast (v' := .int .i64 (j1 : Nat)) (.call Fx.call42 Z (fun W t => at8_any H c.k f.flags.length W t.agr)) (by rw [hj1])) Z<|.yv (.fieldAddr Z Fx.field53_4) Z<|.yv (.load Z Fx.agg5 (.tail _<|.head _) Z) Z<|.yv (.call Fx.call43 Z (fun W t => name8_any H c.nm W t.agr)) Z<|.fn (tl := [_,_,_]) Z<|.yv (.indexSl Fx.sl27 Z Z (i := j1) Z hj (q := oF + j1 * 2) Z) Z<|.yv (.fieldAddr Z Fx.field88_0) Z<|.stH Z Z Fx.size9 Z hHF hbF (show oF + j1 * 2 + 0 < arF.size by omega) fun H3 e3 => ?_
   have tr : Tr2 H H3 := by rw [e3];exact (tr_str mF (i := 0) rfl hHF (show (nmAt c.nm.toNat).length ≤ 1000000 by have := nmAt_len c.nm.toNat;omega) (nmAt_gd _)).two
   have I3 : Inv w0 H0 H3 := by rw [e3];exact I.put hbF
   refine .nl<|.bN<|?_
   exact Sx.retN (.inr rfl) rfl .nil rfl fun W t => ⟨H3,⟨tr,I3⟩,rfl,t.drop.drop.drop⟩
  try simp only [df] at h72
  refine .sk<|.bN<|?_
  exact Sx.retN (.inr rfl) rfl .nil rfl fun W t => ⟨H,⟨tr2_refl,I⟩,rfl,t.drop.drop.drop⟩
 try simp only [df] at h67
 refine .sr<|.yv (.eql Z Z) Z<|.a Z Z<|.nt<|.cd Z (fun h86 => ?_) (fun h86 => ?_)
 ·try simp only [dt] at h86
  refine .sr<|.yv (.fieldAddr Z Fx.field31_2) Z<|.yv (.load Z Fx.agg28 (.tail _<|.tail _<|.head _) Z) Z<|.yv (.lenSl Fx.sl28 Z) Z<|.yv (.gtr Z Z) Z<|.nt<|.cd Z (fun h91 => ?_) (fun h91 => ?_)
  ·try simp only [dt] at h91
   have hf0 : 0 < f.links.length := by omega
   refine .sq<|?_
   obtain ⟨j1,hj1⟩ : ∃ q,q = atN c.k.toNat f.links.length := ⟨_,rfl⟩;have hj : j1 < f.links.length := by rw [hj1];exact atN_lt hf0
   obtain ⟨bF,oF,csF,eF,rF,lF,mF,loF,aF⟩ := h2.elemA (map_at hj) rfl;cases eF;obtain ⟨rfl,nmF,nmG⟩ := lk_open rF;obtain ⟨arF,tF,hHF,hbF,hoF⟩ := I.tgt loF mF (by simp);have hoF : oF + j1 * 3 + 3 ≤ arF.size := hoF;refine .fl (trip := [(_,_,_),(_,_,_),(_,_,_),(_,_,_),(_,_,_),(_,_,_),(_,_,_),(_,_,_),(_,_,_)]) 9 [(0,0),(1,0),(2,0),(3,0),(4,0),(5,0),(6,0),(7,0),(8,0)] (by kernel_rfl) (by kernel_rfl) Z<|.yv (.fieldAddr Z Fx.field31_2) Z<|.yv (.load Z Fx.agg28 (.tail _<|.tail _<|.head _) Z) Z<|.yv (.fieldAddr Z Fx.field53_3) Z<|.yv (.load Z Fx.agg5 (.tail _<|.head _) Z) Z<|.yv (.fieldAddr Z Fx.field31_2) Z<|.yv (.load Z Fx.agg28 (.tail _<|.tail _<|.head _) Z) Z<|.yv (.lenSl Fx.sl28 Z) Z<|.yv (.cast (v' := .int .i64 (j1 : Nat)) (.call Fx.call42 Z (fun W t => at8_any H c.k f.links.length W t.agr)) (by rw [hj1])) Z<|.yv (.indexSl Fx.sl28 Z Z (i := j1) Z hj (q := oF + j1 * 3) Z) Z<|.fn (tl := [_]) Z<|.a Z Z<|.ns<|.yv (.fieldAddr Z Fx.field53_2) Z<|.yv (.load Z Fx.agg5 (.tail _<|.head _) Z) Z<|.yv (.rem Z Z (by decide) (c := ((c.j.toNat % 2 : Nat) : Int)) (tm2 _ 2)) Z<|.yv (.eql Z Z) Z<|.nt<|.cd Z (fun h104 => ?_) (fun h104 => ?_)
   ·try simp only [dt] at h104
    refine .rg<|.m Z Z<|.yv (.fieldAddr Z Fx.field53_4) Z<|.yv (.load Z Fx.agg5 (.tail _<|.head _) Z) Z<|.yv (.call Fx.call43 Z (fun W t => name8_any H c.nm W t.agr)) Z<|.yv (.nilCheck Z) Z<|.yv (.fieldAddr Z Fx.field91_0) Z<|.stH Z Z Fx.size9 Z hHF hbF (show oF + j1 * 3 + 0 < arF.size by omega) fun H3 e3 => ?_
    have tr : Tr2 H H3 := by rw [e3];exact (tr_str mF (i := 0) rfl hHF (show (nmAt c.nm.toNat).length ≤ 1000000 by have := nmAt_len c.nm.toNat;omega) (nmAt_gd _)).two
    have I3 : Inv w0 H0 H3 := by rw [e3];exact I.put hbF
    refine .nl<|.bN<|?_
    exact Sx.retN (.inr rfl) rfl .nil rfl fun W t => ⟨H3,⟨tr,I3⟩,rfl,t.drop.drop.drop⟩
   try simp only [df] at h104
   refine .rg<|.m Z Z<|.yv (.fieldAddr Z Fx.field53_4) Z<|.yv (.load Z Fx.agg5 (.tail _<|.head _) Z) Z<|.yv (.call Fx.call43 Z (fun W t => name8_any H c.nm W t.agr)) Z<|.yv (.nilCheck Z) Z<|.yv (.fieldAddr Z Fx.field91_1) Z<|.stH Z Z Fx.size9 Z hHF hbF (show oF + j1 * 3 + 1 < arF.size by omega) fun H3 e3 => ?_
   have tr : Tr2 H H3 := by rw [e3];exact (tr_str mF (i := 1) rfl hHF (show (nmAt c.nm.toNat).length ≤ 1000000 by have := nmAt_len c.nm.toNat;omega) (nmAt_gd _)).two
   have I3 : Inv w0 H0 H3 := by rw [e3];exact I.put hbF
   refine .nl<|.bN<|?_
   exact Sx.retN (.inr rfl) rfl .nil rfl fun W t => ⟨H3,⟨tr,I3⟩,rfl,t.drop.drop.drop⟩
  try simp only [df] at h91
  refine .sk<|.bN<|?_
  exact Sx.retN (.inr rfl) rfl .nil rfl fun W t => ⟨H,⟨tr2_refl,I⟩,rfl,t.drop.drop.drop⟩
 try simp only [df] at h86
 refine .sr<|.yv (.eql Z Z) Z<|.a Z Z<|.nt<|.cd Z (fun h117 => ?_) (fun h117 => ?_)
 ·try simp only [dt] at h117
  refine .fl (trip := [(_,_,_),(_,_,_),(_,_,_),(_,_,_),(_,_,_),(_,_,_)]) 6 [(0,0),(1,0),(2,0),(3,0),(4,0),(5,0)] (by kernel_rfl) (by kernel_rfl) Z<|.yv (.fieldAddr Z Fx.field31_3) Z<|.yv (.load Z Fx.agg29 (.tail _<|.tail _<|.head _) Z) Z<|.m Z Z<|.yv (.fieldAddr Z Fx.field53_4) Z<|.yv (.load Z Fx.agg5 (.tail _<|.head _) Z) Z<|.yv (.call Fx.call43 Z (fun W t => name8_any H c.nm W t.agr)) Z<|.fn (tl := [_,_,_]) Z<|.yv (.indexSl Fx.sl29 Z Z (i := i1) Z hi (q := oC + i1 * 3) Z) Z<|.yv (.fieldAddr Z Fx.field78_0) Z<|.stH Z Z Fx.size9 Z hHC hbC (show oC + i1 * 3 + 0 < arC.size by omega) fun H3 e3 => ?_
  have tr : Tr2 H H3 := by rw [e3];exact (tr_str mC (i := 0) rfl hHC (show (nmAt c.nm.toNat).length ≤ 1000000 by have := nmAt_len c.nm.toNat;omega) (nmAt_gd _)).two
  have I3 : Inv w0 H0 H3 := by rw [e3];exact I.put hbC
  refine .nl<|.bN<|?_
  exact Sx.retN (.inr rfl) rfl .nil rfl fun W t => ⟨H3,⟨tr,I3⟩,rfl,t.drop.drop.drop⟩
 try simp only [df] at h117
 refine .sr<|.yv (.eql Z Z) Z<|.a Z Z<|.nt<|.cd Z (fun h127 => ?_) (fun h127 => ?_)
 ·try simp only [dt] at h127
  refine .sq<|?_
  obtain ⟨j1,hj1⟩ : ∃ q,q = atN c.k.toNat cp.vars.length := ⟨_,rfl⟩;have hj : j1 < cp.vars.length := by rw [hj1];exact atN_lt hpC.1
  obtain ⟨bF,oF,csF,eF,rF,lF,mF,loF,aF⟩ := hvC.elemA (map_at hj) rfl;cases eF;have hin := hbC0.ini _ (List.getElem_mem hj);generalize cp.vars[j1] = vr at rF hin;obtain ⟨rfl,nmF⟩ := vr_open rF;obtain ⟨arF,tF,hHF,hbF,hoF⟩ := I.tgt loF mF (by simp);have hoF : oF + j1 * 3 + 3 ≤ arF.size := hoF;refine .fl (trip := [(_,_,_),(_,_,_),(_,_,_),(_,_,_),(_,_,_),(_,_,_),(_,_,_),(_,_,_),(_,_,_)]) 9 [(0,0),(1,0),(2,0),(3,0),(4,0),(5,0),(6,0),(7,0),(8,0)] (by kernel_rfl) (by kernel_rfl) Z<|.yv (.fieldAddr Z Fx.field78_1) Z<|.yv (.load Z Fx.agg75 (.head _) Z) Z<|.yv (.fieldAddr Z Fx.field53_3) Z<|.yv (.load Z Fx.agg5 (.tail _<|.head _) Z) Z<|.yv (.fieldAddr Z Fx.field78_1) Z<|.yv (.load Z Fx.agg75 (.head _) Z) Z<|.yv (.lenSl Fx.sl75 Z) Z<|.yv (.cast (v' := .int .i64 (j1 : Nat)) (.call Fx.call42 Z (fun W t => at8_any H c.k cp.vars.length W t.agr)) (by rw [hj1])) Z<|.yv (.indexSl Fx.sl75 Z Z (i := j1) Z hj (q := oF + j1 * 3) Z) Z<|.fn (tl := [_]) Z<|.a Z Z<|.ns<|.yv (.fieldAddr Z Fx.field53_2) Z<|.yv (.load Z Fx.agg5 (.tail _<|.head _) Z) Z<|.yv (.rem Z Z (by decide) (c := ((c.j.toNat % 2 : Nat) : Int)) (tm2 _ 2)) Z<|.yv (.eql Z Z) Z<|.nt<|.cd Z (fun h141 => ?_) (fun h141 => ?_)
  ·try simp only [dt] at h141
   refine .rg<|.m Z Z<|.yv (.fieldAddr Z Fx.field53_4) Z<|.yv (.load Z Fx.agg5 (.tail _<|.head _) Z) Z<|.yv (.call Fx.call43 Z (fun W t => name8_any H c.nm W t.agr)) Z<|.yv (.nilCheck Z) Z<|.yv (.fieldAddr Z Fx.field98_0) Z<|.stH Z Z Fx.size9 Z hHF hbF (show oF + j1 * 3 + 0 < arF.size by omega) fun H3 e3 => ?_
   have tr : Tr2 H H3 := by rw [e3];exact (tr_str mF (i := 0) rfl hHF (show (nmAt c.nm.toNat).length ≤ 1000000 by have := nmAt_len c.nm.toNat;omega) (nmAt_gd _)).two
   have I3 : Inv w0 H0 H3 := by rw [e3];exact I.put hbF
   refine .nl<|.bN<|?_
   exact Sx.retN (.inr rfl) rfl .nil rfl fun W t => ⟨H3,⟨tr,I3⟩,rfl,t.drop.drop.drop⟩
  try simp only [df] at h141
  refine .sr<|.yv (.fieldAddr Z Fx.field53_2) Z<|.yv (.load Z Fx.agg5 (.tail _<|.head _) Z) Z<|.yv (.quo Z Z (by decide) (c := ((c.j.toNat / 2 : Nat) : Int)) (qu8 _ c.j.toNat_lt (by decide))) Z<|.yv (.rem Z Z (by decide) (c := ((c.j.toNat / 2 % 3 : Nat) : Int)) (tm2 _ 3)) Z<|.yv (.eql Z Z) Z<|.m Z Z<|.b2 (fun h153 => ?_) (fun h153 => ?_)
  ·try simp only [dt] at h153
   refine .gF Z Z Z Z<|.gF Z Z Z Z<|.gF Z Z Z Z<|.gF Z Z Z Z<|.gF Z Z Z Z<|.yv (.pickT Z Z) Z<|.nt<|.cT Z<|.rg<|.m Z Z<|.m Z Z<|.yv (.fieldAddr Z Fx.field53_2) Z<|.yv (.load Z Fx.agg5 (.tail _<|.head _) Z) Z<|.yv (.quo Z Z (by decide) (c := ((c.j.toNat / 2 : Nat) : Int)) (qu8 _ c.j.toNat_lt (by decide))) Z<|.yv (.rem Z Z (by decide) (c := ((c.j.toNat / 2 % 3 : Nat) : Int)) (tm2 _ 3)) Z<|.yv (.conv Z Fx.int5 Fx.int3 (c := ((c.j.toNat / 2 % 3 : Nat) : Int)) (by simp only [IntKind.wrap,IntKind.signed,IntKind.bits];simp;omega)) Z<|.yv (.add Z Z (c := ((1 + c.j.toNat / 2 % 3 : Nat) : Int)) ((w6 (by omega)).trans (by omega))) Z<|.yv (.nilCheck Z) Z<|.yv (.fieldAddr Z Fx.field98_1) Z<|.stH Z Z Fx.size3 Z hHF hbF (show oF + j1 * 3 + 1 < arF.size by omega) fun H3 e3 => ?_
   have hH3 : H3 bF = some (.cells (arF.setIfInBounds (oF + j1 * 3 + 1) (.int .i64 ((1 + c.j.toNat / 2 % 3 : Nat) : Int))) tF (0,0)) := by rw [e3];exact putH_at
   have m3 : MemAt H3 bF (oF + j1 * 3 + 2) [.int .i64 vr.init.toInt] := by rw [e3];exact memAt_put_ne mF hHF (i := 1) (j := 2) rfl (by decide)
   have I30 : Inv w0 H0 H3 := by rw [e3];exact I.put hbF
   have t30 : Trf H H3 := by rw [e3];exact tr_int mF (i := 1) rfl hHF (by omega) (by omega)
   refine .yv (.nilCheck Z) Z<|.yv (.fieldAddr Z Fx.field98_2) Z<|.stH Z Z Fx.size2 Z hH3 hbF (by rw [Array.size_setIfInBounds];omega) fun H4 e4 => ?_
   have tr : Tr2 H H4 := ⟨H3,t30,by rw [e4];exact tr_int m3 (i := 0) rfl hH3 (by decide) (by decide)⟩;have I4 : Inv w0 H0 H4 := by rw [e4];exact I30.put hbF
   refine .nl<|.bN<|?_
   exact Sx.retN (.inr rfl) rfl .nil rfl fun W t => ⟨H4,⟨tr,I4⟩,rfl,t.drop.drop.drop⟩
  try simp only [df] at h153
  refine .gd Z Z<|.yv (.move Z) Z<|.gd Z Z<|.yv (.nilCheck Z) Z<|.gd Z Z<|.yv (.fieldAddr Z Fx.field98_1) Z<|.gd Z Z<|.yv (.loadM Z Fx.agg3 mF (k := 1) Z Z) Z<|.gd Z Z<|.yv (.eql Z Z) Z<|.yv (.pickF Z Z) Z<|.nt<|.cd Z (fun h159 => ?_) (fun h159 => ?_)
  ·try simp only [dt] at h159
   refine .rg<|.m Z Z<|.m Z Z<|.yv (.fieldAddr Z Fx.field53_2) Z<|.yv (.load Z Fx.agg5 (.tail _<|.head _) Z) Z<|.yv (.quo Z Z (by decide) (c := ((c.j.toNat / 2 : Nat) : Int)) (qu8 _ c.j.toNat_lt (by decide))) Z<|.yv (.rem Z Z (by decide) (c := ((c.j.toNat / 2 % 3 : Nat) : Int)) (tm2 _ 3)) Z<|.yv (.conv Z Fx.int5 Fx.int3 (c := ((c.j.toNat / 2 % 3 : Nat) : Int)) (by simp only [IntKind.wrap,IntKind.signed,IntKind.bits];simp;omega)) Z<|.yv (.add Z Z (c := ((1 + c.j.toNat / 2 % 3 : Nat) : Int)) ((w6 (by omega)).trans (by omega))) Z<|.yv (.nilCheck Z) Z<|.yv (.fieldAddr Z Fx.field98_1) Z<|.stH Z Z Fx.size3 Z hHF hbF (show oF + j1 * 3 + 1 < arF.size by omega) fun H3 e3 => ?_
   have hH3 : H3 bF = some (.cells (arF.setIfInBounds (oF + j1 * 3 + 1) (.int .i64 ((1 + c.j.toNat / 2 % 3 : Nat) : Int))) tF (0,0)) := by rw [e3];exact putH_at
   have m3 : MemAt H3 bF (oF + j1 * 3 + 2) [.int .i64 vr.init.toInt] := by rw [e3];exact memAt_put_ne mF hHF (i := 1) (j := 2) rfl (by decide)
   have I30 : Inv w0 H0 H3 := by rw [e3];exact I.put hbF
   have t30 : Trf H H3 := by rw [e3];exact tr_int mF (i := 1) rfl hHF (by omega) (by omega)
   refine .yv (.nilCheck Z) Z<|.yv (.fieldAddr Z Fx.field98_2) Z<|.stH Z Z Fx.size2 Z hH3 hbF (by rw [Array.size_setIfInBounds];omega) fun H4 e4 => ?_
   have tr : Tr2 H H4 := ⟨H3,t30,by rw [e4];exact tr_int m3 (i := 0) rfl hH3 (by decide) (by decide)⟩;have I4 : Inv w0 H0 H4 := by rw [e4];exact I30.put hbF
   refine .nl<|.bN<|?_
   exact Sx.retN (.inr rfl) rfl .nil rfl fun W t => ⟨H4,⟨tr,I4⟩,rfl,t.drop.drop.drop⟩
  try simp only [df] at h159
  refine .fl (trip := [(_,_,_),(_,_,_),(_,_,_),(_,_,_),(_,_,_),(_,_,_),(_,_,_),(_,_,_),(_,_,_),(_,_,_),(_,_,_),(_,_,_),(_,_,_),(_,_,_),(_,_,_),(_,_,_),(_,_,_),(_,_,_)]) 18 [(0,0),(1,0),(2,0),(3,0),(4,0),(5,0),(6,0),(7,0),(8,0),(9,0),(10,0),(11,0),(12,0),(13,0),(14,0),(15,3),(16,0),(17,0)] (by kernel_rfl) (by kernel_rfl) Z<|.m Z Z<|.m Z Z<|.yv (.fieldAddr Z Fx.field53_2) Z<|.yv (.load Z Fx.agg5 (.tail _<|.head _) Z) Z<|.yv (.quo Z Z (by decide) (c := ((c.j.toNat / 2 : Nat) : Int)) (qu8 _ c.j.toNat_lt (by decide))) Z<|.yv (.rem Z Z (by decide) (c := ((c.j.toNat / 2 % 3 : Nat) : Int)) (tm2 _ 3)) Z<|.yv (.conv Z Fx.int5 Fx.int3 (c := ((c.j.toNat / 2 % 3 : Nat) : Int)) (by simp only [IntKind.wrap,IntKind.signed,IntKind.bits];simp;omega)) Z<|.yv (.add Z Z (c := ((1 + c.j.toNat / 2 % 3 : Nat) : Int)) ((w6 (by omega)).trans (by omega))) Z<|.m Z Z<|.yv (.nilCheck Z) Z<|.yv (.fieldAddr Z Fx.field98_2) Z<|.yv (.loadM Z Fx.agg2 mF (k := 2) Z Z) Z<|.yv (.rem Z Z (by decide) (c := vr.init.toInt % 2) (tmod2 hin).1) Z<|.yv (.nilCheck Z) Z<|.yv (.fieldAddr Z Fx.field98_1) Z<|.stH Z Z Fx.size3 Z hHF hbF (show oF + j1 * 3 + 1 < arF.size by omega) (fun H3 e3 => (.done (by kernel_rfl)<|.done (by kernel_rfl)<|.yv (.rem Z Z (by decide) (c := vr.init.toInt % 2) (tmod2 hin).1)<|.done (by kernel_rfl)<|.done (by kernel_rfl)<|.done (by kernel_rfl)<|.done (by kernel_rfl)<|.done (by kernel_rfl)<|.done (by kernel_rfl)<|.done (by kernel_rfl)<|.done (by kernel_rfl)<|.done (by kernel_rfl)<|.done (by kernel_rfl)<|.yv (.move Z)<|.done (by kernel_rfl)<|.nl)) fun H3 e3 => ?_
  have hH3 : H3 bF = some (.cells (arF.setIfInBounds (oF + j1 * 3 + 1) (.int .i64 ((1 + c.j.toNat / 2 % 3 : Nat) : Int))) tF (0,0)) := by rw [e3];exact putH_at
  have m3 : MemAt H3 bF (oF + j1 * 3 + 2) [.int .i64 vr.init.toInt] := by rw [e3];exact memAt_put_ne mF hHF (i := 1) (j := 2) rfl (by decide)
  have I30 : Inv w0 H0 H3 := by rw [e3];exact I.put hbF
  have t30 : Trf H H3 := by rw [e3];exact tr_int mF (i := 1) rfl hHF (by omega) (by omega)
  refine .yv (.nilCheck Z) Z<|.yv (.fieldAddr Z Fx.field98_2) Z<|.fn (tl := [_]) Z<|.stH Z Z Fx.size2 Z hH3 hbF (by rw [Array.size_setIfInBounds];omega) fun H4 e4 => ?_
  have tr : Tr2 H H4 := ⟨H3,t30,by rw [e4];exact tr_int m3 (i := 0) rfl hH3 (tmod2 hin).2.1 (tmod2 hin).2.2⟩;have I4 : Inv w0 H0 H4 := by rw [e4];exact I30.put hbF
  refine .nl<|.bN<|?_
  exact Sx.retN (.inr rfl) rfl .nil rfl fun W t => ⟨H4,⟨tr,I4⟩,rfl,t.drop.drop.drop⟩
 try simp only [df] at h127
 refine .sr<|.yv (.eql Z Z) Z<|.a Z Z<|.nt<|.cd Z (fun h189 => ?_) (fun h189 => ?_)
 ·try simp only [dt] at h189
  refine .fl (trip := [(_,_,_),(_,_,_),(_,_,_),(_,_,_),(_,_,_),(_,_,_),(_,_,_),(_,_,_),(_,_,_)]) 9 [(0,0),(1,0),(2,0),(3,0),(4,0),(5,0),(6,0),(7,0),(8,0)] (by kernel_rfl) (by kernel_rfl) Z<|.yv (.fieldAddr Z Fx.field78_2) Z<|.yv (.load Z Fx.agg76 (.head _) Z) Z<|.m Z Z<|.yv (.indexSl Fx.sl76 Z Z (i := i2) Z hv2 (q := oV + i2 * 1) Z) Z<|.yv (.loadM Z Fx.agg79 mV (k := 0) Z Z) Z<|.m Z Z<|.yv (.fieldAddr Z Fx.field53_4) Z<|.yv (.load Z Fx.agg5 (.tail _<|.head _) Z) Z<|.yv (.call Fx.call43 Z (fun W t => name8_any H c.nm W t.agr)) Z<|.fn (tl := [_,_,_]) Z<|.yv (.indexSl Fx.sl79 Z Z (i := i3) Z hh3 (q := oH + i3 * 3) Z) Z<|.yv (.fieldAddr Z Fx.field82_0) Z<|.stH Z Z Fx.size9 Z hHH hbH (show oH + i3 * 3 + 0 < arH.size by omega) fun H3 e3 => ?_
  have tr : Tr2 H H3 := by rw [e3];exact (tr_str mH (i := 0) rfl hHH (show (nmAt c.nm.toNat).length ≤ 1000000 by have := nmAt_len c.nm.toNat;omega) (nmAt_gd _)).two
  have I3 : Inv w0 H0 H3 := by rw [e3];exact I.put hbH
  refine .nl<|.bN<|?_
  exact Sx.retN (.inr rfl) rfl .nil rfl fun W t => ⟨H3,⟨tr,I3⟩,rfl,t.drop.drop.drop⟩
 try simp only [df] at h189
 refine .sr<|.yv (.eql Z Z) Z<|.a Z Z<|.nt<|.cd Z (fun h202 => ?_) (fun h202 => ?_)
 ·try simp only [dt] at h202
  refine .sr<|.yv (.fieldAddr Z Fx.field78_2) Z<|.yv (.load Z Fx.agg76 (.head _) Z) Z<|.m Z Z<|.yv (.indexSl Fx.sl76 Z Z (i := i2) Z hv2 (q := oV + i2 * 1) Z) Z<|.yv (.loadM Z Fx.agg79 mV (k := 0) Z Z) Z<|.m Z Z<|.yv (.indexSl Fx.sl79 Z Z (i := i3) Z hh3 (q := oH + i3 * 3) Z) Z<|.a Z Z<|.ns<|.m Z Z<|.yv (.nilCheck Z) Z<|.yv (.fieldAddr Z Fx.field82_1) Z<|.yv (.loadM Z Fx.agg54 mH (k := 1) Z Z) Z<|.yv (.lenSl Fx.sl54 Z) Z<|.yv (.gtr Z Z) Z<|.m Z Z<|.b2 (fun h217 => ?_) (fun h217 => ?_)
  ·try simp only [dt] at h217
   have hp0 : 0 < hd.ps.length := by omega
   refine .gd Z Z<|.yv (.fieldAddr Z Fx.field53_3) Z<|.gd Z Z<|.yv (.load Z Fx.agg5 (.tail _<|.head _) Z) Z<|.gd Z Z<|.yv (.rem Z Z (by decide) (c := ((c.k.toNat % 3 : Nat) : Int)) (tm2 _ 3)) Z<|.gd Z Z<|.yv (.gtr Z Z) Z<|.yv (.pickT Z Z) Z<|.nt<|.cd Z (fun h222 => ?_) (fun h222 => ?_)
   ·try simp only [dt] at h222
    obtain ⟨j1,hj1⟩ : ∃ q,q = atN c.k.toNat hd.ps.length := ⟨_,rfl⟩;have hj : j1 < hd.ps.length := by rw [hj1];exact atN_lt hp0
    obtain ⟨bF,oF,csF,eF,rF,lF,mF,loF,aF⟩ := (dPs_seq hps).elemA (map_at hj) rfl;cases eF;obtain ⟨rfl,nmF⟩ := str_open rF;obtain ⟨arF,tF,hHF,hbF,hoF⟩ := I.tgt loF mF (by simp);have hoF : oF + j1 * 1 + 1 ≤ arF.size := hoF;refine .fl (trip := [(_,_,_),(_,_,_),(_,_,_),(_,_,_),(_,_,_),(_,_,_),(_,_,_),(_,_,_),(_,_,_),(_,_,_),(_,_,_),(_,_,_),(_,_,_),(_,_,_),(_,_,_)]) 15 [(0,0),(1,0),(2,0),(3,0),(4,0),(5,0),(6,0),(7,0),(8,0),(9,0),(10,0),(11,0),(12,0),(13,0),(14,0)] (by kernel_rfl) (by kernel_rfl) Z<|.m Z Z<|.yv (.nilCheck Z) Z<|.yv (.fieldAddr Z Fx.field82_1) Z<|.yv (.loadM Z Fx.agg54 mH (k := 1) Z Z) Z<|.yv (.fieldAddr Z Fx.field53_3) Z<|.yv (.load Z Fx.agg5 (.tail _<|.head _) Z) Z<|.m Z Z<|.yv (.nilCheck Z) Z<|.yv (.fieldAddr Z Fx.field82_1) Z<|.yv (.loadM Z Fx.agg54 mH (k := 1) Z Z) Z<|.yv (.lenSl Fx.sl54 Z) Z<|.yv (.cast (v' := .int .i64 (j1 : Nat)) (.call Fx.call42 Z (fun W t => at8_any H c.k hd.ps.length W t.agr)) (by rw [hj1])) Z<|.yv (.fieldAddr Z Fx.field53_4) Z<|.yv (.load Z Fx.agg5 (.tail _<|.head _) Z) Z<|.yv (.call Fx.call43 Z (fun W t => name8_any H c.nm W t.agr)) Z<|.fn (tl := [_,_]) Z<|.yv (.indexSl Fx.sl54 Z Z (i := j1) Z hj (q := oF + j1 * 1) Z) Z<|.stH Z Z Fx.size9 Z hHF hbF (show oF + j1 * 1 < arF.size by omega) fun H3 e3 => ?_
    have tr : Tr2 H H3 := by rw [e3];exact (tr_str mF (i := 0) rfl hHF (show (nmAt c.nm.toNat).length ≤ 1000000 by have := nmAt_len c.nm.toNat;omega) (nmAt_gd _)).two
    have I3 : Inv w0 H0 H3 := by rw [e3];exact I.put hbF
    refine .nl<|.bN<|?_
    exact Sx.retN (.inr rfl) rfl .nil rfl fun W t => ⟨H3,⟨tr,I3⟩,rfl,t.drop.drop.drop⟩
   try simp only [df] at h222
   refine .sr<|.m Z Z<|.yv (.nilCheck Z) Z<|.yv (.fieldAddr Z Fx.field82_1) Z<|.yv (.loadM Z Fx.agg54 mH (k := 1) Z Z) Z<|.yv (.lenSl Fx.sl54 Z) Z<|.yv (.lss Z Z) Z<|.nt<|.cd Z (fun h244 => ?_) (fun h244 => ?_)
   ·try simp only [dt] at h244
    refine .fl (trip := [(_,_,_),(_,_,_),(_,_,_),(_,_,_),(_,_,_),(_,_,_),(_,_,_),(_,_,_),(_,_,_),(_,_,_)]) 10 [(0,0),(1,0),(2,0),(3,0),(4,0),(5,0),(6,0),(7,0),(8,1),(9,3)] (by kernel_rfl) (by kernel_rfl) Z<|.m Z Z<|.m Z Z<|.yv (.nilCheck Z) Z<|.yv (.fieldAddr Z Fx.field82_1) Z<|.yv (.loadM Z Fx.agg54 mH (k := 1) Z Z) Z<|.yv (.fieldAddr Z Fx.field53_4) Z<|.yv (.load Z Fx.agg5 (.tail _<|.head _) Z) Z<|.yv (.call Fx.call43 Z (fun W t => name8_any H c.nm W t.agr)) Z<|.bl Z (Fx.bsl54_1 _) Z fun b253 => .apPSS (xs := hd.ps.map strV) (u := ⟨(nmAt c.nm.toNat).toArray⟩) Fx.row54 Fx.zero9 Z hps (Nat.le_of_eq I.base) Z (.box (.head _) z0) (show (nmAt c.nm.toNat).length ≤ 1000000 by have := nmAt_len c.nm.toNat;omega) (by rw [List.length_map];simp only [maxLen];have := hbH0.ps;omega) (by rw [List.length_map];have := hbH0.ps;omega) Z (fun H5 hs5 => (.done (by kernel_rfl)<|.done (by kernel_rfl)<|.done (by kernel_rfl)<|.done (by kernel_rfl)<|.done (by kernel_rfl)<|.done (by kernel_rfl)<|.done (by kernel_rfl)<|.yv (.move Z)<|.nl)) fun r254 H5 hs5 hr5 => ?_
    have k5 := step_keep hs5 hHH (memAt_one mH (j := 1) rfl) ⟨_,_,_,rfl⟩;have hH5 := k5.trans hHH
    have hp5 : Rep H5 (dPs .i64 (hd.ps ++ [(nmAt c.nm.toNat)])) [r254] := by
     show Rep H5 (.ps _) _;rw [List.map_append];exact hr5
    have ho5 : r254.oneCell' = true := hr5.one _ (.head _);refine .fn (tl := [_,_,_]) Z<|.yv (.nilCheck Z) Z<|.yv (.fieldAddr Z Fx.field82_1) Z<|.stH Z Z Fx.size54 ho5 hH5 hbH (show oH + i3 * 3 + 1 < arH.size by omega) fun H3 e3 => ?_
    have tr : Tr2 H H3 := by rw [e3];exact tr_ps2 (show gdN (nmAt c.nm.toNat) = true from nmAt_gd _) hs5 mH aH hHH hps hbd hp5 rfl (by have := hgH;unfold gdH at this;rw [Bool.and_eq_true] at this;exact this.2)
    have I3 : Inv w0 H0 H3 := by rw [e3];exact (I.step hs5).put hbH
    refine .nl<|.bN<|?_
    exact Sx.retN (.inr rfl) rfl .nil rfl fun W t => ⟨H3,⟨tr,I3⟩,rfl,t.drop.drop.drop.drop⟩
   try simp only [df] at h244
   refine .sk<|.bN<|?_
   exact Sx.retN (.inr rfl) rfl .nil rfl fun W t => ⟨H,⟨tr2_refl,I⟩,rfl,t.drop.drop.drop⟩
  try simp only [df] at h217
  refine .gF Z Z Z Z<|.gF Z Z Z Z<|.gF Z Z Z Z<|.gF Z Z Z Z<|.yv (.pickF Z Z) Z<|.nt<|.cF Z<|.sr<|.m Z Z<|.yv (.nilCheck Z) Z<|.yv (.fieldAddr Z Fx.field82_1) Z<|.yv (.loadM Z Fx.agg54 mH (k := 1) Z Z) Z<|.yv (.lenSl Fx.sl54 Z) Z<|.yv (.lss Z Z) Z<|.nt<|.cd Z (fun h244 => ?_) (fun h244 => ?_)
  ·try simp only [dt] at h244
   refine .fl (trip := [(_,_,_),(_,_,_),(_,_,_),(_,_,_),(_,_,_),(_,_,_),(_,_,_),(_,_,_),(_,_,_),(_,_,_)]) 10 [(0,0),(1,0),(2,0),(3,0),(4,0),(5,0),(6,0),(7,0),(8,1),(9,3)] (by kernel_rfl) (by kernel_rfl) Z<|.m Z Z<|.m Z Z<|.yv (.nilCheck Z) Z<|.yv (.fieldAddr Z Fx.field82_1) Z<|.yv (.loadM Z Fx.agg54 mH (k := 1) Z Z) Z<|.yv (.fieldAddr Z Fx.field53_4) Z<|.yv (.load Z Fx.agg5 (.tail _<|.head _) Z) Z<|.yv (.call Fx.call43 Z (fun W t => name8_any H c.nm W t.agr)) Z<|.bl Z (Fx.bsl54_1 _) Z fun b253 => .apPSS (xs := hd.ps.map strV) (u := ⟨(nmAt c.nm.toNat).toArray⟩) Fx.row54 Fx.zero9 Z hps (Nat.le_of_eq I.base) Z (.box (.head _) z0) (show (nmAt c.nm.toNat).length ≤ 1000000 by have := nmAt_len c.nm.toNat;omega) (by rw [List.length_map];simp only [maxLen];have := hbH0.ps;omega) (by rw [List.length_map];have := hbH0.ps;omega) Z (fun H5 hs5 => (.done (by kernel_rfl)<|.done (by kernel_rfl)<|.done (by kernel_rfl)<|.done (by kernel_rfl)<|.done (by kernel_rfl)<|.done (by kernel_rfl)<|.done (by kernel_rfl)<|.yv (.move Z)<|.nl)) fun r254 H5 hs5 hr5 => ?_
   have k5 := step_keep hs5 hHH (memAt_one mH (j := 1) rfl) ⟨_,_,_,rfl⟩;have hH5 := k5.trans hHH
   have hp5 : Rep H5 (dPs .i64 (hd.ps ++ [(nmAt c.nm.toNat)])) [r254] := by
    show Rep H5 (.ps _) _;rw [List.map_append];exact hr5
   have ho5 : r254.oneCell' = true := hr5.one _ (.head _);refine .fn (tl := [_,_,_]) Z<|.yv (.nilCheck Z) Z<|.yv (.fieldAddr Z Fx.field82_1) Z<|.stH Z Z Fx.size54 ho5 hH5 hbH (show oH + i3 * 3 + 1 < arH.size by omega) fun H3 e3 => ?_
   have tr : Tr2 H H3 := by rw [e3];exact tr_ps2 (show gdN (nmAt c.nm.toNat) = true from nmAt_gd _) hs5 mH aH hHH hps hbd hp5 rfl (by have := hgH;unfold gdH at this;rw [Bool.and_eq_true] at this;exact this.2)
   have I3 : Inv w0 H0 H3 := by rw [e3];exact (I.step hs5).put hbH
   refine .nl<|.bN<|?_
   exact Sx.retN (.inr rfl) rfl .nil rfl fun W t => ⟨H3,⟨tr,I3⟩,rfl,t.drop.drop.drop.drop⟩
  try simp only [df] at h244
  refine .sk<|.bN<|?_
  exact Sx.retN (.inr rfl) rfl .nil rfl fun W t => ⟨H,⟨tr2_refl,I⟩,rfl,t.drop.drop.drop⟩
 try simp only [df] at h202
 refine .fl (trip := [(_,_,_),(_,_,_),(_,_,_),(_,_,_),(_,_,_),(_,_,_),(_,_,_),(_,_,_),(_,_,_),(_,_,_),(_,_,_),(_,_,_),(_,_,_),(_,_,_),(_,_,_),(_,_,_),(_,_,_),(_,_,_),(_,_,_),(_,_,_),(_,_,_),(_,_,_),(_,_,_),(_,_,_),(_,_,_)]) 25 [(0,0),(1,0),(2,0),(3,0),(4,0),(5,0),(6,0),(7,0),(8,0),(9,0),(10,0),(11,0),(12,0),(13,0),(14,0),(15,0),(16,0),(17,0),(18,0),(19,0),(24,0),(20,1),(21,0),(22,0),(23,0)] (by kernel_rfl) (by kernel_rfl) Z<|.yv (.fieldAddr Z Fx.field78_2) Z<|.yv (.load Z Fx.agg76 (.head _) Z) Z<|.m Z Z<|.yv (.indexSl Fx.sl76 Z Z (i := i2) Z hv2 (q := oV + i2 * 1) Z) Z<|.yv (.loadM Z Fx.agg79 mV (k := 0) Z Z) Z<|.m Z Z<|.yv (.indexSl Fx.sl79 Z Z (i := i3) Z hh3 (q := oH + i3 * 3) Z) Z<|.yv (.fieldAddr Z Fx.field82_2) Z<|.yv (.loadM Z Fx.agg80 mH (k := 2) Z Z) Z<|.yv (.fieldAddr Z Fx.field53_3) Z<|.yv (.load Z Fx.agg5 (.tail _<|.head _) Z) Z<|.yv (.fieldAddr Z Fx.field78_2) Z<|.yv (.load Z Fx.agg76 (.head _) Z) Z<|.m Z Z<|.yv (.indexSl Fx.sl76 Z Z (i := i2) Z hv2 (q := oV + i2 * 1) Z) Z<|.yv (.loadM Z Fx.agg79 mV (k := 0) Z Z) Z<|.m Z Z<|.yv (.indexSl Fx.sl79 Z Z (i := i3) Z hh3 (q := oH + i3 * 3) Z) Z<|.yv (.fieldAddr Z Fx.field82_2) Z<|.yv (.loadM Z Fx.agg80 mH (k := 2) Z Z) Z<|.yv (.loadW Z Fx.agg53 (.tail _<|.head _) Z) Z<|.ct (X := Value) Fx.call22 Z (fun W t => flat_any hd.body (by have := hbH0.cnt;omega) H _ W hbd t.agr) Z fun v61 H61 hc61 u61 => ?_
 obtain ⟨p61,c61,e61,_⟩ := hc61.sl;simp only [List.cons.injEq,and_true,List.length_map] at e61;subst e61;have hcap61 := hc61.cap;refine .yv (.lenSl Fx.sl80 Z) Z<|.yv (.max2 Z Z (c := ((max 1 (Sm.flats hd.body).length : Nat) : Int)) (by omega)) Z<|.yv (.call Fx.call42 Z (fun W t => at8_any H61 c.k (max 1 (Sm.flats hd.body).length) W t.agr)) Z<|.fn (tl := [_]) Z<|.cs (X := Hp × Int) Fx.call50 Z (fun W t => statement8_st hd.body H61 W _ _ _ c (I.grow u61) (hbd.up u61.up) (by have := c.k.toNat_lt;have := atN_le c.k.toNat (max 1 (Sm.flats hd.body).length);omega) t) Z fun z66 hz66 => ?_
 obtain ⟨H66,r66⟩ := z66;unfold StC at hz66;dsimp only at hz66 ⊢
 have I66 : Inv w0 H0 H66 := by
  rcases hz66 with ⟨_,_,h⟩ | ⟨_,_,rfl⟩
  ·exact h
  ·exact I.grow u61
 have tr : Tr2 H H66 := by
  rcases hz66 with ⟨_,h,_⟩ | ⟨_,_,rfl⟩
  ·exact tr2_up u61.up h.two
  ·exact tr2_up u61.up tr2_refl
 refine .nl<|.bN<|?_
 exact Sx.retN (.inr rfl) rfl .nil rfl fun W t => ⟨H66,⟨tr,I66⟩,rfl,t.drop.drop.drop⟩
def nameBQ (l : Str) : Bool := gdN l
def namEQ : Ex → Bool
 | .mk op nm _ _ => !(shapeOf op).nm || nameBQ nm
def namSQ : Sm → Bool
 | .mk kd nm hd ex _ _ => (!(formOf kd).nm || nameBQ nm) && (!(formOf kd).hd || nameBQ hd) && Ex.alls namEQ ex
def namHQ (h : Hd) : Bool := nameBQ h.nm && h.ps.all nameBQ && Sm.alls namSQ h.body
def namFQ (f : Ft) : Bool := nameBQ f.nm && f.flags.all (fun x => nameBQ x.nm) && f.links.all (fun x => nameBQ x.fr && nameBQ x.to) && f.comps.all (fun c => nameBQ c.nm && c.vars.all fun v => nameBQ v.nm) && evH namHQ f
def wfEQ (D : Nat) (e : Ex) : Prop := e.depth ≤ D ∧ Ex.all frmE e = true ∧ Ex.all namEQ e = true
theorem wfEQ.mono {D D' : Nat} {e : Ex} (h : wfEQ D e) (k : D ≤ D') : wfEQ D' e := ⟨Nat.le_trans h.1 k,h.2⟩
theorem wfE0Q {D : Nat} {op : UInt8} {nm : Str} {n : Int64} (h : frmE (.mk op nm n []) = true) (h2 : namEQ (.mk op nm n []) = true) : wfEQ (D + 1) (.mk op nm n []) :=
 ⟨by rw [depth_mk];simp [Ex.deeps],by rw [all_mk,h];rfl,by rw [all_mk,h2];rfl⟩
theorem frm_argQ (op : UInt8) (nm : Str) (n : Int64) (l m : List Ex) (h : l.length = m.length) : frmE (.mk op nm n l) = frmE (.mk op nm n m) := by simp only [frmE,h]
def e0Q : Ex := .mk 4 [] 0 []
theorem wfE1Q {D : Nat} {op : UInt8} {nm : Str} {a : Ex} (h : frmE (.mk op nm 0 [e0Q]) = true) (h2 : namEQ (.mk op nm 0 []) = true) (ha : wfEQ D a) : wfEQ (D + 1) (.mk op nm 0 [a]) := by
 refine ⟨?_,?_,?_⟩
 ·rw [depth_mk];simp only [Ex.deeps];have := ha.1;omega
 ·rw [all_mk,frm_argQ op nm 0 [a] [e0Q] rfl,h];simp [Ex.alls,ha.2.1]
 ·rw [all_mk,show namEQ (.mk op nm 0 [a]) = namEQ (.mk op nm 0 []) from rfl,h2];simp [Ex.alls,ha.2.2]
theorem wfE2Q {D : Nat} {op : UInt8} {a b : Ex} (h : frmE (.mk op [] 0 [e0Q,e0Q]) = true) (h2 : namEQ (.mk op [] 0 []) = true) (ha : wfEQ D a) (hb : wfEQ D b) : wfEQ (D + 1) (.mk op [] 0 [a,b]) := by
 refine ⟨?_,?_,?_⟩
 ·rw [depth_mk];simp only [Ex.deeps];have := ha.1;have := hb.1;omega
 ·rw [all_mk,frm_argQ op [] 0 [a,b] [e0Q,e0Q] rfl,h];simp [Ex.alls,ha.2.1,hb.2.1]
 ·rw [all_mk,show namEQ (.mk op [] 0 [a,b]) = namEQ (.mk op [] 0 []) from rfl,h2];simp [Ex.alls,ha.2.2,hb.2.2]
theorem nm_okQ : ∀ c ∈ ([120,112,102,104] : List UInt8),∀ k ∈ List.range 3,nameBQ (nmB c k) = true := by decide +kernel
theorem nm_xQ {k : Nat} (h : k < 3) : nameBQ (nmB 120 k) = true := nm_okQ 120 (by decide) k (List.mem_range.2 h)
theorem nm_pQ {k : Nat} (h : k < 3) : nameBQ (nmB 112 k) = true := nm_okQ 112 (by decide) k (List.mem_range.2 h)
theorem nm_fQ {k : Nat} (h : k < 3) : nameBQ (nmB 102 k) = true := nm_okQ 102 (by decide) k (List.mem_range.2 h)
theorem nm_hQ {k : Nat} (h : k < 3) : nameBQ (nmB 104 k) = true := nm_okQ 104 (by decide) k (List.mem_range.2 h)
theorem nm_abcQ {k : Nat} (h : k < 3) : nameBQ [UInt8.ofNat (97 + k)] = true := by
 have : ∀ k ∈ List.range 3,nameBQ [UInt8.ofNat (97 + k)] = true := by decide +kernel
 exact this k (List.mem_range.2 h)
theorem nm_t0Q : nameBQ [116,48] = true := by decide +kernel
theorem nm_b0Q : nameBQ [98,48] = true := by decide +kernel
structure MkOkQ (M : Mk) : Prop where
 i0 : 0 < M.ints
 i3 : M.ints ≤ 3
 p2 : M.params ≤ 2
 f2 : M.flags ≤ 2
 a3 : M.ars.length ≤ 3
 a0 : 0 < M.ars.length
 ar2 : ∀ c h,arN M c h ≤ 2
 al : ∀ c,c < M.ars.length → 0 < arL M c ∧ arL M c ≤ 3
 own : M.own < M.ars.length
theorem frm5Q (nm : Str) : frmE (.mk 5 nm 0 []) = true := by simp [frmE,okOp,shapeOf,shapes]
theorem nam5Q {nm : Str} (h : nameBQ nm = true) : namEQ (.mk 5 nm 0 []) = true := by simp [namEQ,h]
theorem wfVQ {D : Nat} {nm : Str} (h : nameBQ nm = true) : wfEQ (D + 1) (.mk 5 nm 0 []) := wfE0Q (frm5Q nm) (nam5Q h)
theorem numT_wfQ {M : Mk} (hM : MkOkQ M) {d D k : Nat} {rec : Bs → Ex × Bs} (h : ∀ b,wfEQ D (rec b).1) (b : Bs) : wfEQ (D + 1) (numT M d rec k b).1 := by
 unfold numT
 split
 ·have h9 := nextB_lt b (n := 9) (by omega);refine wfE0Q ?_ rfl;simp only [frmE,Bool.and_eq_true];refine ⟨by decide,?_⟩;simp only [if_true];rw [decide_eq_true_eq,Int64.toInt_ofNat_of_lt (by omega)];omega
 split
 ·exact wfVQ (nm_xQ (by have := nextB_lt b hM.i0;have := hM.i3;omega))
 split
 ·rename_i h1 h2;exact wfVQ (nm_pQ (by have := nextB_lt b (n := M.params) (by omega);have := hM.p2;omega))
 split
 ·exact wfE0Q (by decide) (by decide)
 split
 ·exact wfE1Q (by decide +kernel) (by decide +kernel) (h _)
 split
 ·exact wfE0Q (by decide +kernel) (by decide +kernel)
 split
 ·exact wfE1Q (by decide +kernel) (by decide +kernel) (h _)
 ·have key : ∀ i ∈ List.range 6,frmE (.mk (([14,15,11,12,13,14] : List UInt8).getD i 14) [] 0 [e0Q,e0Q]) = true ∧ namEQ (.mk (([14,15,11,12,13,14] : List UInt8).getD i 14) [] 0 []) = true := by decide +kernel
  obtain ⟨k1,k2⟩ := key _ (List.mem_range.2 (nextB_lt b (n := 6) (by omega)));exact wfE2Q k1 k2 (h _) (h _)
theorem numE_wfQ {M : Mk} (hM : MkOkQ M) : ∀ f b,wfEQ (f + 2) (numE M f b).1
 | 0,b => numT_wfQ hM (fun _ => wfE0Q (by decide) (by decide)) _
 | f + 1,b => numT_wfQ hM (numE_wfQ hM f) _
theorem numL_wfQ {M : Mk} (hM : MkOkQ M) : ∀ n b,∀ e ∈ (numL M n b).1,wfEQ 4 e
 | 0,b,_,h => by cases h
 | n + 1,b,e,he => by
  rcases List.mem_cons.1 he with rfl | he
  ·exact numE_wfQ hM 2 b
  ·exact numL_wfQ hM n _ e he
theorem truT_wfQ {M : Mk} (hM : MkOkQ M) {d D k : Nat} {rec : Bs → Ex × Bs} (hk : k < 10) (hD : 4 ≤ D) (h : ∀ b,wfEQ D (rec b).1) (b : Bs) : wfEQ (D + 1) (truT M d rec k b).1 := by
 have hn : ∀ b,wfEQ D (numE M 2 b).1 := fun b => (numE_wfQ hM 2 b).mono hD;unfold truT
 split
 ·have key : ∀ i ∈ List.range 2,frmE (.mk (2 + UInt8.ofNat i) [] 0 []) = true ∧ namEQ (.mk (2 + UInt8.ofNat i) [] 0 []) = true := by decide +kernel
  obtain ⟨k1,k2⟩ := key _ (List.mem_range.2 (nextB_lt b (n := 2) (by omega)));exact wfE0Q k1 k2
 split
 ·exact wfVQ nm_b0Q
 split
 ·rename_i h1;exact wfVQ (nm_fQ (by have := nextB_lt b h1.2;have := hM.f2;omega))
 split
 ·exact wfE1Q (by decide +kernel) (by decide +kernel) (hn _)
 split
 ·exact wfE1Q (by decide +kernel) (by decide +kernel) (h _)
 split
 ·rename_i h1;rcases h1 with rfl | rfl
  ·exact wfE2Q (by decide +kernel) (by decide +kernel) (h _) (h _)
  ·exact wfE2Q (by decide +kernel) (by decide +kernel) (h _) (h _)
 ·have key : ∀ i ∈ List.range 6,frmE (.mk (16 + UInt8.ofNat i) [] 0 [e0Q,e0Q]) = true ∧ namEQ (.mk (16 + UInt8.ofNat i) [] 0 []) = true := by decide +kernel
  obtain ⟨k1,k2⟩ := key _ (List.mem_range.2 (nextB_lt b (n := 6) (by omega)));exact wfE2Q k1 k2 (hn _) (hn _)
theorem truE_wfQ {M : Mk} (hM : MkOkQ M) : ∀ f b,wfEQ (f + 6) (truE M f b).1
 | 0,b => truT_wfQ hM (nextB_lt _ (by omega)) (by omega) (fun _ => (wfE0Q (D := 0) (by decide) (by decide)).mono (by omega)) _
 | f + 1,b => truT_wfQ hM (nextB_lt _ (by omega)) (by omega) (truE_wfQ hM f) _
structure WfQ (D lf : Nat) (l : List Sm) (lf' : Nat) : Prop where
 cnt : Sm.counts l + lf' ≤ lf
 dep : Sm.deeps l ≤ D
 frm : Sm.alls frmS l = true
 nam : Sm.alls namSQ l = true
 sma : Sm.alls smaS l = true
theorem ex_frmQ {l : List Ex} (h : ∀ e ∈ l,wfEQ 8 e) : Ex.alls frmE l = true := by
 induction l with
 | nil => rfl
 | cons e r ih => rw [Ex.alls,(h e (by simp)).2.1,ih fun x hx => h x (by simp [hx])];rfl
theorem ex_namQ {l : List Ex} (h : ∀ e ∈ l,wfEQ 8 e) : Ex.alls namEQ l = true := by
 induction l with
 | nil => rfl
 | cons e r ih => rw [Ex.alls,(h e (by simp)).2.2,ih fun x hx => h x (by simp [hx])];rfl
def kdBQ (kd : UInt8) (nm hd : Str) (n : Nat) (t e : Bool) : Bool :=
 okKd kd && decide ((formOf kd).lo ≤ n) && decide (n ≤ (formOf kd).hi) && ((formOf kd).nm || decide (nm = [])) && ((formOf kd).hd || decide (hd = [])) && ((formOf kd).th || t) && ((formOf kd).el || e)
def knBQ (kd : UInt8) (nm hd : Str) : Bool := (!(formOf kd).nm || nameBQ nm) && (!(formOf kd).hd || nameBQ hd)
theorem wf_oneQ {D lf lf' : Nat} {kd : UInt8} {nm hd : Str} {ex : List Ex} {th el : List Sm} (h1 : Sm.counts th + Sm.counts el + lf' ≤ lf) (h2 : kdBQ kd nm hd ex.length (decide (th.length = 0)) (decide (el.length = 0)) = true) (h3 : knBQ kd nm hd = true) (h4 : ∀ e ∈ ex,wfEQ 8 e)
 (ht : Sm.deeps th ≤ D ∧ Sm.alls frmS th = true ∧ Sm.alls namSQ th = true ∧ Sm.alls smaS th = true) (he : Sm.deeps el ≤ D ∧ Sm.alls frmS el = true ∧ Sm.alls namSQ el = true ∧ Sm.alls smaS el = true) :
 WfQ (D + 1) (lf + 1) [.mk kd nm hd ex th el] lf' := by
 refine ⟨?_,?_,?_,?_,?_⟩
 ·simp only [Sm.counts,scount_mk];omega
 ·simp only [Sm.deeps,sdepth_mk];have := ht.1;have := he.1;omega
 ·have hf : frmS (.mk kd nm hd ex th el) = true := by
   simp only [frmS,ex_frmQ h4,Bool.and_true];exact h2
  simp [Sm.alls,sall_mk,hf,ht.2.1,he.2.1]
 ·have hf : namSQ (.mk kd nm hd ex th el) = true := by
   simp only [namSQ,ex_namQ h4,Bool.and_true];exact h3
  simp [Sm.alls,sall_mk,hf,ht.2.2.1,he.2.2.1]
 ·have hf : smaS (.mk kd nm hd ex th el) = true := by
   simp only [smaS,List.all_eq_true,decide_eq_true_eq];exact fun e m => (h4 e m).1
  simp [Sm.alls,sall_mk,hf,ht.2.2.2,he.2.2.2]
theorem wf_nilQ {D : Nat} : Sm.deeps [] ≤ D ∧ Sm.alls frmS [] = true ∧ Sm.alls namSQ [] = true ∧ Sm.alls smaS [] = true := ⟨Nat.zero_le _,rfl,rfl,rfl⟩
theorem WfQ.all {D lf lf' : Nat} {l : List Sm} (h : WfQ D lf l lf') : Sm.deeps l ≤ D ∧ Sm.alls frmS l = true ∧ Sm.alls namSQ l = true ∧ Sm.alls smaS l = true := ⟨h.dep,h.frm,h.nam,h.sma⟩
theorem one_wfQ {e : Ex} (h : wfEQ 8 e) : ∀ x ∈ [e],wfEQ 8 x := fun x hx => by rw [List.mem_singleton.1 hx];exact h
theorem two_wfQ {e e2 : Ex} (h : wfEQ 8 e) (k : wfEQ 8 e2) : ∀ x ∈ [e,e2],wfEQ 8 x := fun x hx => by
 rcases List.mem_cons.1 hx with rfl | hx
 ·exact h
 ·rw [List.mem_singleton.1 hx];exact k
theorem num_wfQ {M : Mk} (hM : MkOkQ M) {n : Nat} {b : Bs} : ∀ x ∈ (numL M n b).1,wfEQ 8 x := fun x hx => (numL_wfQ hM n b x hx).mono (by omega)
theorem more_wfQ {e : Ex} (h : wfEQ 8 e) {M : Mk} (hM : MkOkQ M) {n : Nat} {b : Bs} : ∀ x ∈ e :: (numL M n b).1,wfEQ 8 x := fun x hx => by
 rcases List.mem_cons.1 hx with rfl | hx
 ·exact h
 ·exact num_wfQ hM x hx
theorem kd1Q (nm : Str) : kdBQ 1 nm [] 1 true true = true := by simp [kdBQ,okKd,formOf,forms]
theorem kn1Q {nm : Str} (h : nameBQ nm = true) : knBQ 1 nm [] = true := by simp [knBQ,okKd,formOf,forms,h]
theorem kd6Q (nm hd : Str) {n : Nat} (h : n ≤ 4) : kdBQ 6 nm hd n true true = true := by simp [kdBQ,okKd,formOf,forms,h]
theorem kn6Q {nm hd : Str} (h : nameBQ nm = true) (k : nameBQ hd = true) : knBQ 6 nm hd = true := by simp [knBQ,okKd,formOf,forms,h,k]
theorem kd7Q (hd : Str) {n : Nat} (h0 : 1 ≤ n) (h : n ≤ 5) : kdBQ 7 [] hd n true true = true := by simp [kdBQ,okKd,formOf,forms,h0,h]
theorem kn7Q {hd : Str} (k : nameBQ hd = true) : knBQ 7 [] hd = true := by simp [knBQ,okKd,formOf,forms,k]
theorem kd9Q (nm : Str) (b : Bool) : kdBQ 9 nm [] 1 true b = true := by simp [kdBQ,okKd,formOf,forms]
theorem kn9Q {nm : Str} (h : nameBQ nm = true) : knBQ 9 nm [] = true := by simp [knBQ,okKd,formOf,forms,h]
theorem kd4Q (a b : Bool) : kdBQ 4 [] [] 1 a b = true := by revert a b;decide
theorem kd5Q (a : Bool) : kdBQ 5 [] [] 1 a true = true := by revert a;decide
theorem kd8Q (a : Bool) : kdBQ 8 [] [] 2 true a = true := by revert a;decide
theorem stmT_wfQ {M : Mk} (hM : MkOkQ M) (k d : Nat) {D : Nat} {bd : Bs × Nat → List Sm × (Bs × Nat)} (hb : ∀ x,WfQ D x.2 (bd x).1 (bd x).2.2) (b : Bs) (lf : Nat) : WfQ (D + 1) (lf + 1) [(stmT M k d bd b lf).1] (stmT M k d bd b lf).2.2 := by
 have hn : ∀ f b,f ≤ 6 → wfEQ 8 (numE M f b).1 := fun f b hf => (numE_wfQ hM f b).mono (by omega);have ht : ∀ b,wfEQ 8 (truE M 2 b).1 := fun b => truE_wfQ hM 2 b;have z : Sm.counts [] = 0 := rfl;unfold stmT
 split
 ·exact wf_oneQ (lf' := lf) (by simp only [z];omega) (kd1Q _) (kn1Q nm_b0Q) (one_wfQ (ht _)) wf_nilQ wf_nilQ
 split
 ·exact wf_oneQ (lf' := lf) (by simp only [z];omega) (by simp [kdBQ,okKd,formOf,forms]) (by simp [knBQ,okKd,formOf,forms,nm_t0Q]) (two_wfQ (hn _ _ (by omega)) (hn _ _ (by omega))) wf_nilQ wf_nilQ
 split
 ·exact wf_oneQ (lf' := lf) (by simp only [z];omega) (by simp [kdBQ,okKd,formOf,forms]) (by simp [knBQ,okKd,formOf,forms,nm_t0Q]) (one_wfQ (hn _ _ (by omega))) wf_nilQ wf_nilQ
 split
 ·have h1 := hb ((truE M 2 b).2,lf);have h2 := hb (bd ((truE M 2 b).2,lf)).2;exact wf_oneQ (by have := h1.cnt;have := h2.cnt;simp only at *;omega) (kd4Q _ _) (by decide) (one_wfQ (ht _)) h1.all h2.all
 split
 ·have h1 := hb ((truE M 2 b).2,lf);exact wf_oneQ (by have := h1.cnt;simp only at *;omega) (kd5Q _) (by decide) (one_wfQ (ht _)) h1.all wf_nilQ
 split
 ·have hc := nextB_lt b hM.a0;have ha := hM.al _ hc;have hh := nextB_lt (nextB b M.ars.length).2 ha.1;have h3 := hM.a3;exact wf_oneQ (lf' := lf) (by simp only [z];omega) (by rw [(numL_ok _ _ _).1];exact kd6Q _ _ (Nat.le_trans (hM.ar2 _ _) (by omega))) (kn6Q (nm_abcQ (by omega)) (nm_hQ (by omega))) (num_wfQ hM) wf_nilQ wf_nilQ
 split
 ·have ha := hM.al _ hM.own;have hh := nextB_lt b ha.1;exact wf_oneQ (lf' := lf) (by simp only [z];omega) (by rw [List.length_cons,(numL_ok _ _ _).1];exact kd7Q _ (by omega) (Nat.succ_le_succ (Nat.le_trans (hM.ar2 _ _) (by omega)))) (kn7Q (nm_hQ (by omega))) (more_wfQ (hn _ _ (by omega)) hM) wf_nilQ wf_nilQ
 split
 ·split
  ·have h1 := hb ((numL M 2 (nextB b 2).2).2,lf);exact wf_oneQ (by have := h1.cnt;simp only at *;omega) (by rw [(numL_ok _ _ _).1];exact kd8Q _) (by decide) (num_wfQ hM) wf_nilQ h1.all
  ·have h1 := hb ((numE M 3 (nextB (nextB b 2).2 M.ints).2).2,lf);have hx := nextB_lt (nextB b 2).2 hM.i0;have h3 := hM.i3;exact wf_oneQ (lf' := (bd ((numE M 3 (nextB (nextB b 2).2 M.ints).2).2,lf)).2.2) (by have := h1.cnt;simp only at *;omega) (kd9Q _ _) (kn9Q (nm_xQ (by omega))) (one_wfQ (hn _ _ (by omega))) wf_nilQ h1.all
 split
 ·exact wf_oneQ (lf' := lf) (by simp only [z];omega) (by decide) (by decide) (fun _ h => by cases h) wf_nilQ wf_nilQ
 ·have h3 := hM.i3;exact wf_oneQ (lf' := lf) (by simp only [z];omega) (kd1Q _) (kn1Q (nm_xQ (by have := nextB_lt (if k = 12 then (nextB b 3).2 else b) hM.i0;omega))) (one_wfQ (hn _ _ (by omega))) wf_nilQ wf_nilQ
theorem bodL_wfQ {st : Nat → Bs → Nat → Sm × (Bs × Nat)} {D : Nat} (hs : ∀ k b lf,WfQ D (lf + 1) [(st k b lf).1] (st k b lf).2.2) : ∀ f x,WfQ D x.2 (bodL st f x).1 (bodL st f x).2.2
 | 0,x => ⟨by simp [bodL,Sm.counts],Nat.zero_le _,rfl,rfl,rfl⟩
 | f + 1,(b,lf) => by
  unfold bodL
  split
  ·exact ⟨by simp [Sm.counts],Nat.zero_le _,rfl,rfl,rfl⟩
  ·rename_i hne
   split
   ·exact ⟨by simp [Sm.counts],Nat.zero_le _,rfl,rfl,rfl⟩
   ·have h1 := hs (nextB b 14).1 (nextB b 14).2 (lf - 1);have h2 := bodL_wfQ hs f (st (nextB b 14).1 (nextB b 14).2 (lf - 1)).2;have hl : lf ≠ 0 := fun e => hne (.inr e)
    have al : ∀ (q : Sm → Bool) (s : Sm) (l : List Sm),Sm.alls q [s] = true → Sm.alls q l = true → Sm.alls q (s :: l) = true := fun q s l a b => by
     simp only [Sm.alls,Bool.and_eq_true] at a ⊢;exact ⟨a.1,b⟩
    refine ⟨?_,?_,al _ _ _ h1.frm h2.frm,al _ _ _ h1.nam h2.nam,al _ _ _ h1.sma h2.sma⟩
    ·have a1 := h1.cnt;have a2 := h2.cnt;simp only [Sm.counts] at a1 ⊢;omega
    ·have a1 := h1.dep;have a2 := h2.dep;simp only [Sm.deeps] at a1 ⊢;omega
theorem bodE_wfQ {M : Mk} (hM : MkOkQ M) : ∀ f x,WfQ (f + 1) x.2 (bodE M f x).1 (bodE M f x).2.2
 | 0,x => bodL_wfQ (fun k b lf => stmT_wfQ hM k 3 (D := 0) (fun x => ⟨by simp [Sm.counts],Nat.zero_le _,rfl,rfl,rfl⟩) b lf) 13 x
 | f + 1,x => bodL_wfQ (fun k b lf => stmT_wfQ hM k (2 - f) (bodE_wfQ hM f) b lf) 13 x
structure HdOkQ (h : Hd) : Prop where
 nam : namHQ h = true
 frm : frmH h = true
 sma : smaH h = true
theorem MkOkQ.at {M : Mk} (h : MkOkQ M) (k : Nat) : MkOkQ (M.at k) := ⟨h.i0,h.i3,h.ar2 _ _,h.f2,h.a3,h.a0,h.ar2,h.al,h.own⟩
theorem hdS_wfQ {M : Mk} (hM : MkOkQ M) {k : Nat} (hk : k < 3) (c : Cd) : HdOkQ (hdS M k c) := by
 have h := bodE_wfQ (hM.at k) 3 (c.bytes.take 40,12);have hc := h.cnt;have hd := h.dep;simp only at hc;have h2 := hM.ar2 M.own k;refine ⟨?_,h.frm,?_⟩
 ·simp only [namHQ,hdS,Bool.and_eq_true];refine ⟨⟨nm_hQ hk,?_⟩,h.nam⟩;simp only [namesB,List.all_eq_true,List.mem_map,List.mem_range];rintro _ ⟨i,hi,rfl⟩;exact nm_pQ (by omega)
 ·simp only [smaH,hdS,Bool.and_eq_true,h.sma,and_true,namesB_len];simp only [Bool.not_eq_true',Bool.or_eq_false_iff,decide_eq_false_iff_not];refine ⟨⟨by omega,decide_eq_false (by omega)⟩,decide_eq_false (by omega)⟩
theorem hdsP_wfQ {M : Mk} (hM : MkOkQ M) : ∀ (l : List Cd) (k : Nat),k + l.length ≤ 3 → ∀ h ∈ hdsP M k l,HdOkQ h
 | [],k,_,h,hh => by cases hh
 | c :: r,k,hk,h,hh => by
  simp only [List.length_cons] at hk;rcases List.mem_cons.1 hh with rfl | hh
  ·exact hdS_wfQ hM (by omega) c
  ·exact hdsP_wfQ hM r (k + 1) (by omega) h hh
theorem arP_posQ (x : Prt) : 0 < (arP x).length ∧ (arP x).length ≤ 3 := by
 have h := arP_len x;have h2 := arUp_len x 3;unfold arP at *;omega
theorem mkP_okQ (p : Pln) {i : Nat} (hi : i < (prtsP p).length) (x : Prt) : MkOkQ (mkP (arsP p) (p.flags.toNat % 3) i x) := by
 have hp := prtsP_len p;have hl : (arsP p).length = (prtsP p).length := by simp [arsP]
 refine ⟨by simp only [mkP,intsP];omega,by simp only [mkP,intsP];omega,by simp [mkP],by simp only [mkP];omega,by simp only [mkP];omega,by simp only [mkP];omega,arN_le,?_,by simp only [mkP];omega⟩;intro c hc;simp only [mkP] at hc;simp only [arL,mkP];rw [getD_at hc];have hm := List.getElem_mem hc;generalize (arsP p)[c] = l at hm;obtain ⟨y,_,rfl⟩ := List.mem_map.1 hm;exact arP_posQ y
theorem vssP_okQ {M : Mk} (hM : MkOkQ M) (x : Prt) : 1 ≤ (vssP M x).length ∧ (vssP M x).length ≤ 2 ∧ ∀ v ∈ vssP M x,v.length ≤ 3 ∧ ∀ h ∈ v,HdOkQ h := by
 have hf := fstP_len x;refine ⟨by simp [vssP],by unfold vssP;split <;> simp,fun v hv => ?_⟩;unfold vssP at hv;rcases List.mem_cons.1 hv with rfl | hv
 ·exact ⟨by rw [hdsP_len];exact hf,hdsP_wfQ hM _ 0 (by omega)⟩
 ·split at hv
  ·rw [List.mem_singleton.1 hv];exact ⟨by rw [hdsP_len,List.length_take];omega,hdsP_wfQ hM _ 0 (by rw [List.length_take];omega)⟩
  ·cases hv
theorem vars_okQ (x : Prt) : (varsP x).length ≤ 8 ∧ ∀ v ∈ varsP x,nameBQ v.nm = true ∧ frmV v = true := by
 refine ⟨by simp only [varsP,List.length_append,vrsI_len,vrsT_len,List.length_singleton,intsP,tabsP];omega,fun v hv => ?_⟩;simp only [varsP,vrsI,vrsT,List.mem_append,List.mem_map,List.mem_range,List.mem_singleton] at hv;rcases hv with (⟨i,hi,rfl⟩ | rfl) | ⟨i,hi,rfl⟩
 ·simp only [intsP] at hi;refine ⟨nm_xQ (by omega),?_⟩;rw [show frmV (vrI i) = decide ((Int64.ofNat i).toInt ≠ -9223372036854775808) from rfl,decide_eq_true_eq,Int64.toInt_ofNat_of_lt (by omega)];omega
 ·exact ⟨nm_b0Q,by decide⟩
 ·simp only [tabsP] at hi;obtain rfl : i = 0 := by omega
  exact ⟨nm_t0Q,by decide⟩
theorem buildF_goodQ (p : Pln) : namFQ (buildF p) = true := by
 have hp := prtsP_len p
 have hcs : ∀ c ∈ (buildF p).comps,∃ i x,i < (prtsP p).length ∧ c = cmpP (arsP p) (p.flags.toNat % 3) i x := by
  intro c hc;simp only [buildF,cmpsP] at hc;obtain ⟨i,hi,rfl⟩ := List.mem_mapIdx.1 hc;exact ⟨i,_,hi,rfl⟩
 have hhd : ∀ c ∈ (buildF p).comps,∀ v ∈ c.vers,∀ h ∈ v,HdOkQ h := by
  intro c hc v hv h hh;obtain ⟨i,x,hi,rfl⟩ := hcs c hc;exact ((vssP_okQ (mkP_okQ p hi x) x).2.2 v hv).2 h hh
 have ev : ∀ q : Hd → Bool,(∀ h,HdOkQ h → q h = true) → evH q (buildF p) = true := by
  intro q hq;simp only [evH,List.all_eq_true];exact fun c hc v hv h hh => hq h (hhd c hc v hv h hh)
 have h9 : (prtsP p).length * (prtsP p).length ≤ 9 := Nat.mul_le_mul hp.2 hp.2;have hmin : min p.links.length ((prtsP p).length * (prtsP p).length) ≤ (prtsP p).length * (prtsP p).length := Nat.min_le_right _ _
 have hlk : ∀ l ∈ (buildF p).links,nameBQ l.fr = true ∧ nameBQ l.to = true ∧ lkB l = true := by
  intro l hl;simp only [buildF,lnksP,List.mem_flatMap,List.mem_range] at hl;obtain ⟨k,hk,hl⟩ := hl;unfold lnkP at hl
  split at hl
  ·rename_i h0;rw [List.mem_singleton.1 hl]
   have hd : k / (prtsP p).length < (prtsP p).length := by
    rw [Nat.div_lt_iff_lt_mul hp.1];omega
   have hm := Nat.mod_lt k hp.1;refine ⟨nm_abcQ (by omega),nm_abcQ (by omega),?_⟩;simp only [lkB,Bool.and_eq_true,decide_eq_true_eq];rw [Int64.toInt_ofNat_of_lt (by omega)];omega
  ·cases hl
 have h2 : namFQ (buildF p) = true := by
  simp only [namFQ,Bool.and_eq_true,ev namHQ fun h k => k.nam,and_true];refine ⟨⟨⟨show nameBQ fleetN = true by decide +kernel,?_⟩,?_⟩,?_⟩
  ·simp only [buildF,flgsP,List.all_eq_true,List.mem_map,List.mem_range];rintro _ ⟨k,hk,rfl⟩;exact nm_fQ (by omega)
  ·rw [List.all_eq_true];intro l hl;rw [(hlk l hl).1,(hlk l hl).2.1];rfl
  ·rw [List.all_eq_true];intro c hc;obtain ⟨i,x,hi,rfl⟩ := hcs c hc;rw [Bool.and_eq_true,List.all_eq_true];exact ⟨nm_abcQ (by omega),fun v hv => ((vars_okQ x).2 v hv).1⟩
 exact h2
/-! ### All names -/
theorem gdE_of {e : Ex} (h1 : Ex.all namEQ e = true) (h2 : Ex.all frmE e = true) : Ex.all gdE e = true := by
 induction e using Ex.ind with | _ op nm n args ih
 rw [all_mk,Bool.and_eq_true] at h1 h2 ⊢;refine ⟨?_,?_⟩
 ·have k1 := h1.1;have k2 := h2.1;simp only [namEQ,Bool.or_eq_true,Bool.not_eq_true'] at k1;simp only [frmE,Bool.and_eq_true,Bool.or_eq_true,decide_eq_true_eq] at k2;show goe nm = true;rcases k1 with k1 | k1
  ·rcases k2.1.2 with k2 | k2
   ·rw [k1] at k2;cases k2
   ·rw [k2];rfl
  ·exact goe_of k1
 ·have : ∀ l : List Ex,(∀ a ∈ l,Ex.all namEQ a = true → Ex.all frmE a = true → Ex.all gdE a = true) → Ex.alls namEQ l = true → Ex.alls frmE l = true → Ex.alls gdE l = true := by
   intro l;induction l with
   | nil => intro _ _ _;rfl
   | cons a r ihr =>
    intro h a1 a2;rw [Ex.alls,Bool.and_eq_true] at a1 a2 ⊢;exact ⟨h a (.head _) a1.1 a2.1,ihr (fun x hx => h x (.tail _ hx)) a1.2 a2.2⟩
  exact this args ih h1.2 h2.2
theorem gdEs_of : ∀ {l : List Ex},Ex.alls namEQ l = true → Ex.alls frmE l = true → Ex.alls gdE l = true
 | [],_,_ => rfl
 | a :: r,h1,h2 => by
  rw [Ex.alls,Bool.and_eq_true] at h1 h2 ⊢;exact ⟨gdE_of h1.1 h2.1,gdEs_of h1.2 h2.2⟩
theorem gdS_of : ∀ s,namSQ s = true → frmS s = true → gdS s = true
 | .mk kd nm hd ex th el,h1,h2 => by
  simp only [namSQ,frmS,gdS,Bool.and_eq_true,Bool.or_eq_true,Bool.not_eq_true',decide_eq_true_eq] at h1 h2 ⊢
  have one : ∀ {b : Bool} {s : Str},b = false ∨ nameBQ s = true → b = true ∨ s = [] → goe s = true := by
   intro b s a c;rcases a with a | a
   ·rcases c with c | c
    ·rw [a] at c;cases c
    ·rw [c];rfl
   ·exact goe_of a
  refine ⟨⟨one h1.1.1 h2.1.1.1.1.2,one h1.1.2 h2.1.1.1.2⟩,gdEs_of h1.2 h2.2⟩
theorem gdSs_of : ∀ {l : List Sm},Sm.alls namSQ l = true → Sm.alls frmS l = true → Sm.alls gdS l = true := by
 have key : ∀ s : Sm,Sm.all namSQ s = true → Sm.all frmS s = true → Sm.all gdS s = true := by
  intro s;induction s using Sm.ind with
  | _ kd nm hd ex th el i1 i2 =>
   intro h1 h2;rw [sall_mk,Bool.and_eq_true,Bool.and_eq_true] at h1 h2 ⊢
   have lst : ∀ l : List Sm,(∀ a ∈ l,Sm.all namSQ a = true → Sm.all frmS a = true → Sm.all gdS a = true) → Sm.alls namSQ l = true → Sm.alls frmS l = true → Sm.alls gdS l = true := by
    intro l;induction l with
    | nil => intro _ _ _;rfl
    | cons a r ihr =>
     intro h a1 a2;rw [Sm.alls,Bool.and_eq_true] at a1 a2 ⊢;exact ⟨h a (.head _) a1.1 a2.1,ihr (fun x hx => h x (.tail _ hx)) a1.2 a2.2⟩
   exact ⟨⟨gdS_of _ h1.1.1 h2.1.1,lst th i1 h1.1.2 h2.1.2⟩,lst el i2 h1.2 h2.2⟩
 intro l;induction l with
 | nil => intro _ _;rfl
 | cons a r ihr =>
  intro a1 a2;rw [Sm.alls,Bool.and_eq_true] at a1 a2 ⊢;exact ⟨key a a1.1 a2.1,ihr a1.2 a2.2⟩
theorem gdF_build (p : Pln) : gdF (buildF p) := by
 have h1 := buildF_goodQ p;have h0 := buildF_good p
 have h2 : frmF (buildF p) = true := by
  unfold checkF at h0
  split at h0
  ·cases h0
  split at h0
  ·cases h0
  split at h0
  ·cases h0
  rename_i k;simpa using k
 simp only [namFQ,Bool.and_eq_true,List.all_eq_true] at h1;simp only [frmF,Bool.and_eq_true] at h2;obtain ⟨⟨⟨⟨a1,a2⟩,a3⟩,a4⟩,a5⟩ := h1;refine ⟨a1,a2,fun x hx => a3 x hx,fun c hc => ⟨(a4 c hc).1,(a4 c hc).2,fun v hv h hh => ?_⟩⟩;simp only [evH,List.all_eq_true] at a5 h2;have k1 := a5 c hc v hv h hh;have k2 := h2.2 c hc v hv h hh;simp only [namHQ,Bool.and_eq_true] at k1;exact ⟨by unfold gdH;rw [Bool.and_eq_true];exact k1.1,gdSs_of k1.2 k2⟩
theorem Fx.call23 : callN Tryz.prog 23 = Bool.true := by kernel_rfl
theorem Fx.sl26 : slN Tryz.prog 26 = Option.some 5 := by kernel_rfl
theorem chgc {H : Hp} {x : Chg} {cs : List Value} (h : Rep H (dChg x) cs) : cs = cChg x := by
 rw [dChg,repS] at h;obtain ⟨_,rfl,_,_,h⟩ := repL_val.1 h;obtain ⟨_,rfl,_,_,h⟩ := repL_val.1 h;obtain ⟨_,rfl,_,_,h⟩ := repL_val.1 h;obtain ⟨_,rfl,_,_,h⟩ := repL_val.1 h;obtain ⟨_,rfl,_,_,h⟩ := repL_val.1 h;rw [repL_nil] at h;subst h;rfl
theorem ft_len9 {H : Hp} {k : IntKind} {f : Ft} {cs : List Value} (h : Rep H (dFt k f) cs) : cs.length = 4 := by
 obtain ⟨_,_,_,_,_,_,rfl,_⟩ := ft_open h
 rfl
structure Blt (w0 : World) (H0 H : Hp) (k : Nat) (f : Ft) (cs : List Value) : Prop where
 inv : Inv w0 H0 H
 rep : Rep H (dFt .i64 f) cs
 pos : posF f
 gd : gdF f
 bnd : ∃ M D,M ≤ 100 + 2 * k ∧ D * 4 ^ (4 - k) ≤ 16384 ∧ bndF M D f
theorem Blt.next {w0 : World} {H0 H H' : Hp} {k : Nat} {f : Ft} {cs : List Value} (b : Blt w0 H0 H k f cs) (hk : k < 4) (I : Inv w0 H0 H') (t : Tr2 H H') : ∃ g,Blt w0 H0 H' (k + 1) g cs := by
 obtain ⟨K,t1,t2⟩ := t;obtain ⟨g,g1,g2⟩ := t1 f cs b.pos b.rep;obtain ⟨h,h1,h2⟩ := t2 g cs (g1.pos b.pos) g2;obtain ⟨M,D,hM,hD,hb⟩ := b.bnd;refine ⟨h,I,h2,h1.pos (g1.pos b.pos),h1.gd (g1.gd b.gd),_,_,?_,?_,h1.bnd (g1.bnd hb)⟩
 ·omega
 ·have e : 4 ^ (4 - k) = 4 * 4 ^ (4 - (k + 1)) := by rw [show 4 - k = (4 - (k + 1)) + 1 by omega,Nat.pow_succ,Nat.mul_comm]
  rw [e] at hD;generalize 4 ^ (4 - (k + 1)) = q at hD ⊢;have : 2 * (2 * D) * q = D * (4 * q) := by rw [← Nat.mul_assoc,← Nat.mul_assoc,Nat.mul_comm D 4]
  omega
theorem Blt.ok {w0 : World} {H0 H : Hp} {k : Nat} {f : Ft} {cs : List Value} (b : Blt w0 H0 H k f cs) (hk : k ≤ 4) : ∃ M D,M ≤ 1000 ∧ D ≤ 1000000 ∧ bndF M D f := by
 obtain ⟨M,D,hM,hD,hb⟩ := b.bnd;refine ⟨M,D,by omega,?_,hb⟩;have : D * 1 ≤ D * 4 ^ (4 - k) := Nat.mul_le_mul_left D (Nat.pos_of_ne_zero (by simp));omega
structure Fin (w0 : World) (H0 H : Hp) (f : Ft) (cs : List Value) : Prop where
 inv : Inv w0 H0 H
 rep : Rep H (dFt .i64 f) cs
 pos : posF f
 gd : gdF f
 bnd : ∃ M D,M ≤ 1000 ∧ D ≤ 1000000 ∧ bndF M D f
theorem Blt.toFin {w0 : World} {H0 H : Hp} {k : Nat} {f : Ft} {cs : List Value} (b : Blt w0 H0 H k f cs) (hk : k ≤ 4) : Fin w0 H0 H f cs := ⟨b.inv,b.rep,b.pos,b.gd,b.ok hk⟩
set_option maxRecDepth 100000 in
theorem build8_st {w0 : World} {H0 H : Hp} {W : World} {bs : List Res} {p : Pln} {cs : List Value} {l : List Chg} {v : Value} (I : Inv w0 H0 H) (h : Rep H (dPln p) cs) (hl : Rep H0 (.seq 5 (l.map dChg)) [v]) (s : St H w0 bs W) :
 Calls Tryz.prog 7 #[.agg cs.toArray,v] W fun e W' => ∃ z : Hp × Ft × List Value,Fin w0 H0 z.1 z.2.1 z.2.2 ∧ e = .returned (.agg z.2.2.toArray) ∧ St z.1 w0 bs W' := by
 obtain ⟨p1,c1,p2,c2,rfl,_,_⟩ := pln_open h;obtain ⟨pl,cl,el,_⟩ := hl.sl;simp only [List.cons.injEq,and_true,List.length_map] at el;subst el;have hlcap := hl.cap;refine Sx.enterS Tryz.func7 rfl Tryz.ntmps7 rfl s ?_;refine .sr<|.bx Z Z Z fun b2 => .al Fx.zero31 Z fun b4 => .ns<|.yv (.loadW Z Fx.agg25 (.tail _<|.head _) Z) Z<|.ct (X := List Value) Fx.call15 Z (fun W t => build_plan H p _ W h t.agr) Z fun x8 H8 hx8 u8 => ?_
 have b0 : Blt w0 H0 H8 0 (buildF p) x8 := ⟨I.grow u8,hx8,posF_build p,gdF_build p,100,64,by omega,by decide,bndF_of (buildF_ok p) (fun c hc => (buildF_sm p c hc).2.1) (ini_build p)⟩;have hxl := ft_len9 hx8;refine .al Fx.zero31 Z fun b5 => .sV .head Z Z Fx.size31 (ft_len9 hx8) hx8.one Z<|.nt<|.sq<|.sr<|.a Z Z<|.nt<|.bk<|.lp (X := Nat × Hp × Ft) [(1,_),(4,_),(5,_)] ⟨rfl,rfl,rfl,trivial⟩ (_ :: _ :: _ :: bs) (fun z => [(6,.int .i64 (z.1 : Nat))]) (fun z => z.2.1) (fun z => []) (fun z => z.1 ≤ 4 ∧ Blt w0 H0 z.2.1 z.1 z.2.2 x8) (fun z => 4 - z.1) (0,H8,buildF p) (fun _ s => s) ⟨rfl,trivial⟩ ⟨Nat.zero_le 4,b0⟩ fun z hC => ?_
 obtain ⟨i,Hk,fk⟩ := z;dsimp only at hC ⊢;obtain ⟨hi0,bk⟩ := hC;have hlk := hl.up bk.inv.up.up;refine .sq<|.sr<|.m Z Z<|.m Z Z<|.yv (.lenSl Fx.sl26 Z) Z<|.yv (.lss Z Z) Z<|.m Z Z<|.b2 (fun h13 => ?_) (fun h13 => ?_)
 ·try simp only [dt] at h13
  have hi1 : i < l.length := by omega
  refine .gd Z Z<|.yv (.move Z) Z<|.gd Z Z<|.yv (.lss Z Z) Z<|.yv (.pickT Z Z) Z<|.nt<|.cd Z (fun h16 => ?_) (fun h16 => ?_)
  ·try simp only [dt] at h16
   have hi2 : i < 4 := by omega
   obtain ⟨bE,oE,csE,eE,rE,lE,mE⟩ := hlk.elem (map_at hi1);cases eE;obtain rfl := chgc rE;refine .sk<|.tN<|.sq<|.bk<|.fl (trip := [(_,_,_),(_,_,_),(_,_,_),(_,_,_),(_,_,_)]) 5 [(0,0),(1,0),(2,0),(3,0),(4,0)] (by kernel_rfl) (by kernel_rfl) Z<|.yv (.loadW Z Fx.agg31 (.head _) (ft_len9 hx8)) Z<|.m Z Z<|.m Z Z<|.yv (.indexSl Fx.sl26 Z Z Z (by omega) (q := oE + i * 5) Z) Z<|.yv (.loadMW Z Fx.agg53 mE Z) Z<|.fn (tl := [_]) Z<|.cs (X := Hp) Fx.call23 Z (fun W t => by obtain ⟨M,D,hM,hD,hb⟩ := bk.ok hi0;exact apply8_st l[i] bk.inv bk.rep bk.pos hb hM bk.gd t) Z fun z24 hz24 => ?_
   obtain ⟨f24,b24⟩ := bk.next hi2 hz24.2 hz24.1;exact .nl<|.bN<|.tN<|.rg<|.m Z Z<|.yv (.add Z Z (w6 (by omega))) Z<|.a Z Z<|.nt<|.ag (x := (i,Hk,fk)) (i + 1,z24,f24) ⟨rfl,trivial⟩ ⟨rfl,rfl,rfl,trivial⟩ (fun _ s => s) ⟨by dsimp only;omega,b24⟩ (by dsimp only;omega)
  skip
  refine .ex<|.tE<|.tE<|.bE<|.tN<|.sr<|.yv (.loadW Z Fx.agg31 (.head _) (ft_len9 hx8)) Z<|.sV (.tail<|.head) Z Z Fx.size31 (ft_len9 hx8) hx8.one Z<|.nt<|.rt<|?_
  refine Sx.ret1 (.inl rfl) rfl (.cell rfl Fx.agg31 (.tail _<|.head _) hxl) fun W t => ⟨(Hk,fk,x8),bk.toFin hi0,rfl,t.drop.drop.drop⟩
 try simp only [df] at h13
 refine .gF Z Z Z Z<|.gF Z Z Z Z<|.yv (.pickF Z Z) Z<|.nt<|.cF Z<|.ex<|.tE<|.tE<|.bE<|.tN<|.sr<|.yv (.loadW Z Fx.agg31 (.head _) (ft_len9 hx8)) Z<|.sV (.tail<|.head) Z Z Fx.size31 (ft_len9 hx8) hx8.one Z<|.nt<|.rt<|?_
 refine Sx.ret1 (.inl rfl) rfl (.cell rfl Fx.agg31 (.tail _<|.head _) hxl) fun W t => ⟨(Hk,fk,x8),bk.toFin hi0,rfl,t.drop.drop.drop⟩
theorem ealls_mem {q : Ex → Bool} : ∀ {l : List Ex},Ex.alls q l = true → ∀ e ∈ l,Ex.all q e = true
 | [],_,e,he => by cases he
 | x :: r,h,e,he => by
  rw [Ex.alls,Bool.and_eq_true] at h;rcases List.mem_cons.1 he with rfl | he
  ·exact h.1
  ·exact ealls_mem h.2 e he
theorem Fx.call7 : callN Tryz.prog 7 = Bool.true := by kernel_rfl
theorem gl_at {H : Hp} (n : Nat) (G : Gl H) : Gl (H.at n) := ⟨G.shapes,G.forms,G.words,G.symbols⟩
theorem txtL_map {α : Type} {f : α → D} (h : ∀ x,(f x).txt = false) : ∀ l : List α,D.txtL (l.map f) = false
 | [] => rfl
 | x :: r => by rw [List.map_cons,D.txtL,h x,txtL_map h r];rfl
theorem txt_cd (x : Cd) : (dCd x).txt = false := by
 simp only [dCd,D.txt,D.txtL,txtL_map (f := dU8) (fun _ => rfl),Bool.or_false]
theorem txt_prt (x : Prt) : (dPrt x).txt = false := by
 simp only [dPrt,D.txt,D.txtL,txtL_map txt_cd,Bool.or_false]
theorem txt_pln (x : Pln) : (dPln x).txt = false := by
 simp only [dPln,D.txt,D.txtL,txtL_map (f := dU8) (fun _ => rfl),txtL_map txt_prt,Bool.or_false]
theorem txt_chgs (l : List Chg) : D.txt (.seq 5 (l.map dChg)) = false := txtL_map (f := dChg) (fun _ => rfl) l
end Go.Proofs.YtohfacbajcenoaaGreatDoor
namespace Go.Proofs.YtohfacbajcenoaaGreatDoor
open Go.RowKit Go.Par Go.Sx
open Go.RowKit Go.Par Go.Sx
open Go.RowKit Go.Par Go.Sx
open Go.RowKit Go.Par Go.Sx
open Go.RowKit Go.Par Go.Sx
open Go.RowKit Go.Par Go.Sx
end Go.Proofs.YtohfacbajcenoaaGreatDoor
namespace Go.Proofs.YtohfacbajcenoaaGreatDoor
open Go.RowKit Go.Par Go.Sx
/-! ### A body, statement by statement -/
/-! ### Heads -/
def ren0 (s : Str) : Str := if s = [] then [] else s ++ [113]
theorem ren0_nil : ren0 [] = [] := rfl
theorem ren0_ne {s : Str} (h : s ≠ []) : ren0 s = s ++ [113] := if_neg h
theorem ren0_e {s : Str} : ren0 s = [] ↔ s = [] := by
 unfold ren0
 split
 ·rename_i h;simp [h]
 ·rename_i h;simp [h]
theorem ren0_inj {a b : Str} : ren0 a = ren0 b ↔ a = b := by
 refine ⟨fun h => ?_,fun h => by rw [h]⟩
 by_cases ha : a = []
 ·subst ha;rw [ren0_nil] at h;exact (ren0_e.1 h.symm).symm
 ·by_cases hb : b = []
  ·subst hb;rw [ren0_nil] at h;exact ren0_e.1 h
  ·rw [ren0_ne ha,ren0_ne hb] at h;exact List.append_cancel_right h
theorem gd_ne {s : Str} (h : gdN s = true) : s ≠ [] := by
 intro e;subst e
 revert h;decide
theorem gd_ren {s : Str} (h : gdN s = true) : ren0 s = s ++ [113] := ren0_ne (gd_ne h)
theorem gd_len {s : Str} (h : gdN s = true) : (s ++ [113]).length ≤ 12 := by
 unfold gdN at h;rw [Bool.and_eq_true] at h;exact name_len h.2
theorem goe_len {s : Str} (h : goe s = true) : (ren0 s).length ≤ 12 := by
 unfold goe at h;rw [Bool.or_eq_true,decide_eq_true_eq] at h;rcases h with h | h
 ·rw [h];decide
 ·rw [gd_ren h];exact gd_len h
theorem goe_nm {s : Str} (h : goe s = true) : nameB (ren0 s) = nameB s := by
 unfold goe at h;rw [Bool.or_eq_true,decide_eq_true_eq] at h;rcases h with h | h
 ·rw [h];rfl
 ·rw [gd_ren h];unfold gdN at h;rw [Bool.and_eq_true] at h;rw [h.1,h.2]
theorem gd_nm {s : Str} (h : gdN s = true) : nameB (ren0 s) = nameB s := goe_nm (goe_of h)
mutual
def renE : Ex → Ex
 | .mk op nm n args => .mk op (ren0 nm) n (renEs args)
def renEs : List Ex → List Ex
 | [] => []
 | e :: r => renE e :: renEs r
end
mutual
def renS : Sm → Sm
 | .mk kd nm hd ex th el => .mk kd (ren0 nm) (ren0 hd) (renEs ex) (renSs th) (renSs el)
def renSs : List Sm → List Sm
 | [] => []
 | s :: r => renS s :: renSs r
end
theorem renEs_map : ∀ l,renEs l = l.map renE
 | [] => rfl
 | e :: r => by rw [renEs,renEs_map r];rfl
theorem renSs_map : ∀ l,renSs l = l.map renS
 | [] => rfl
 | e :: r => by rw [renSs,renSs_map r];rfl
theorem renE_mk (op : UInt8) (nm : Str) (n : Int64) (args : List Ex) : renE (.mk op nm n args) = .mk op (ren0 nm) n (renEs args) := by rw [renE]
theorem renS_mk (kd : UInt8) (nm hd : Str) (ex : List Ex) (th el : List Sm) : renS (.mk kd nm hd ex th el) = .mk kd (ren0 nm) (ren0 hd) (renEs ex) (renSs th) (renSs el) := by rw [renS]
theorem renEs_len (l : List Ex) : (renEs l).length = l.length := by rw [renEs_map,List.length_map]
theorem renSs_len (l : List Sm) : (renSs l).length = l.length := by rw [renSs_map,List.length_map]
def renH (h : Hd) : Hd := ⟨ren0 h.nm,h.ps.map ren0,renSs h.body⟩
def renV (v : Vr) : Vr := ⟨ren0 v.nm,v.ty,v.init⟩
def renC (c : Cp) : Cp := ⟨ren0 c.nm,c.vars.map renV,c.vers.map fun v => v.map renH⟩
def renG (x : Fg) : Fg := ⟨ren0 x.nm,x.init⟩
def renL (x : Lk) : Lk := ⟨ren0 x.fr,ren0 x.to,x.lat⟩
def otherF (f : Ft) : Ft := ⟨ren0 f.nm,f.flags.map renG,f.links.map renL,f.comps.map renC⟩
/-! ### Sizes and forms -/
mutual
theorem depth_ren : ∀ e : Ex,(renE e).depth = e.depth
 | .mk op nm n args => by rw [renE_mk,depth_mk,depth_mk,deeps_ren args]
theorem deeps_ren : ∀ l : List Ex,Ex.deeps (renEs l) = Ex.deeps l
 | [] => rfl
 | e :: r => by simp only [renEs,Ex.deeps,depth_ren e,deeps_ren r]
end
mutual
theorem frmE_ren : ∀ e : Ex,Ex.all frmE (renE e) = Ex.all frmE e
 | .mk op nm n args => by
  rw [renE_mk,all_mk,all_mk,frmEs_ren args]
  congr 1
  have h : decide (ren0 nm = []) = decide (nm = []) := by rw [decide_eq_decide];exact ren0_e
  simp only [frmE,renEs_len,h]
theorem frmEs_ren : ∀ l : List Ex,Ex.alls frmE (renEs l) = Ex.alls frmE l
 | [] => rfl
 | e :: r => by rw [renEs,Ex.alls,Ex.alls,frmE_ren e,frmEs_ren r]
end
mutual
theorem namE_ren : ∀ e : Ex,Ex.all gdE e = true → Ex.all namE (renE e) = Ex.all namE e
 | .mk op nm n args,h => by
  rw [all_mk,Bool.and_eq_true] at h;rw [renE_mk,all_mk,all_mk,namEs_ren args h.2]
  congr 1
  simp only [namE,goe_nm (show goe nm = true from h.1)]
theorem namEs_ren : ∀ l : List Ex,Ex.alls gdE l = true → Ex.alls namE (renEs l) = Ex.alls namE l
 | [],_ => rfl
 | e :: r,h => by
  rw [Ex.alls,Bool.and_eq_true] at h;rw [renEs,Ex.alls,Ex.alls,namE_ren e h.1,namEs_ren r h.2]
end
mutual
theorem count_ren : ∀ s : Sm,Sm.count (renS s) = Sm.count s
 | .mk kd nm hd ex th el => by rw [renS_mk,scount_mk,scount_mk,counts_ren th,counts_ren el]
theorem counts_ren : ∀ l : List Sm,Sm.counts (renSs l) = Sm.counts l
 | [] => rfl
 | s :: r => by simp only [renSs,Sm.counts,count_ren s,counts_ren r]
end
mutual
theorem sdepth_ren : ∀ s : Sm,Sm.depth (renS s) = Sm.depth s
 | .mk kd nm hd ex th el => by rw [renS_mk,sdepth_mk,sdepth_mk,sdeeps_ren th,sdeeps_ren el]
theorem sdeeps_ren : ∀ l : List Sm,Sm.deeps (renSs l) = Sm.deeps l
 | [] => rfl
 | s :: r => by simp only [renSs,Sm.deeps,sdepth_ren s,sdeeps_ren r]
end
def KeepS (q : Sm → Bool) : Prop := ∀ s,gdS s = true → q (renS s) = q s
mutual
theorem all_ren {q : Sm → Bool} (hq : KeepS q) : ∀ s : Sm,Sm.all gdS s = true → Sm.all q (renS s) = Sm.all q s
 | .mk kd nm hd ex th el,h => by
  rw [sall_mk,Bool.and_eq_true,Bool.and_eq_true] at h;have := hq _ h.1.1;rw [renS_mk] at this ⊢;rw [sall_mk,sall_mk,this,alls_ren hq th h.1.2,alls_ren hq el h.2]
theorem alls_ren {q : Sm → Bool} (hq : KeepS q) : ∀ l : List Sm,Sm.alls gdS l = true → Sm.alls q (renSs l) = Sm.alls q l
 | [],_ => rfl
 | s :: r,h => by
  rw [Sm.alls,Bool.and_eq_true] at h;rw [renSs,Sm.alls,Sm.alls,all_ren hq s h.1,alls_ren hq r h.2]
end
theorem keep_sma : KeepS smaS := fun s _ => by
 obtain ⟨kd,nm,hd,ex,th,el⟩ := s;rw [renS_mk];simp only [smaS,renEs_map,List.all_map]
 congr 1
 funext x
 simp only [Function.comp,depth_ren]
theorem keep_nam : KeepS namS := fun s h => by
 obtain ⟨kd,nm,hd,ex,th,el⟩ := s;simp only [gdS,Bool.and_eq_true] at h;rw [renS_mk];simp only [namS,goe_nm h.1.1,goe_nm h.1.2,namEs_ren ex h.2]
theorem keep_frm : KeepS frmS := fun s _ => by
 obtain ⟨kd,nm,hd,ex,th,el⟩ := s;rw [renS_mk];have h1 : decide (ren0 nm = []) = decide (nm = []) := by rw [decide_eq_decide];exact ren0_e
 have h2 : decide (ren0 hd = []) = decide (hd = []) := by rw [decide_eq_decide];exact ren0_e
 simp only [frmS,renEs_len,renSs_len,h1,h2,frmEs_ren]
def gdHF (h : Hd) : Prop := gdH h = true ∧ Sm.alls gdS h.body = true
theorem smaH_ren {h : Hd} (g : gdHF h) : smaH (renH h) = smaH h := by
 simp only [smaH,renH,List.length_map,counts_ren,sdeeps_ren,alls_ren keep_sma _ g.2]
theorem gdH_nm {h : Hd} (g : gdH h = true) : gdN h.nm = true ∧ ∀ p ∈ h.ps,gdN p = true := by
 unfold gdH at g;rw [Bool.and_eq_true,List.all_eq_true] at g;exact g
theorem all_cong {α : Type} {p q : α → Bool} {l : List α} (h : ∀ x ∈ l,p x = q x) : l.all p = l.all q := by
 induction l with
 | nil => rfl
 | cons a r ih => rw [List.all_cons,List.all_cons,h a (.head _),ih fun x hx => h x (.tail _ hx)]
theorem namH_ren {h : Hd} (g : gdHF h) : namH (renH h) = namH h := by
 obtain ⟨g1,g2⟩ := gdH_nm g.1;simp only [namH,renH,gd_nm g1,alls_ren keep_nam _ g.2,List.all_map];rw [all_cong (p := nameB ∘ ren0) (q := nameB) fun x hx => gd_nm (g2 x hx)]
theorem frmH_ren {h : Hd} (g : gdHF h) : frmH (renH h) = frmH h := by simp only [frmH,renH,alls_ren keep_frm _ g.2]
theorem evH_ren {q : Hd → Bool} (hq : ∀ h,gdHF h → q (renH h) = q h) {f : Ft} (g : gdF f) : evH q (otherF f) = evH q f := by
 simp only [evH,otherF,List.all_map];refine all_cong fun c hc => ?_;simp only [Function.comp,renC,List.all_map];refine all_cong fun v hv => ?_;simp only [Function.comp,List.all_map];exact all_cong fun h hh => hq h ((g.2.2.2 c hc).2.2 v hv h hh)
theorem addK_ren (ks : List Str) (s : Str) : addK (ks.map ren0) (ren0 s) = (addK ks s).map ren0 := by
 unfold addK
 by_cases h : s ∈ ks
 ·rw [if_pos h,if_pos (List.mem_map_of_mem h)]
 ·rw [if_neg h,if_neg (fun k => h (by obtain ⟨a,ha,e⟩ := List.mem_map.1 k;exact ren0_inj.1 e ▸ ha))];simp
theorem stepV_ren : ∀ (v : List Hd) (ks : List Str),stepV (ks.map ren0) (v.map renH) = (stepV ks v).map ren0
 | [],ks => rfl
 | h :: v,ks => by
  show stepV (stepH (ks.map ren0) (renH h)) (v.map renH) = _;rw [show stepH (ks.map ren0) (renH h) = (stepH ks h).map ren0 from addK_ren ks h.nm,stepV_ren v]
  rfl
theorem names_ren (c : Cp) : namesOf (renC c) = (namesOf c).map ren0 := by
 have key : ∀ (l : List (List Hd)) (ks : List Str),(l.map fun v => v.map renH).foldl stepV (ks.map ren0) = (l.foldl stepV ks).map ren0 := by
  intro l;induction l with
  | nil => intro ks;rfl
  | cons v r ih => intro ks;rw [List.map_cons,List.foldl_cons,List.foldl_cons,stepV_ren,ih]
 exact key c.vers []
theorem smlC_ren (c : Cp) : smlC (renC c) = smlC c := by
 simp only [smlC,names_ren,List.length_map];simp only [renC,List.length_map]
theorem checkF_ren {f : Ft} (g : gdF f) : checkF (otherF f) = checkF f := by
 have h1 : smlF (otherF f) = smlF f := by
  unfold smlF;rw [evH_ren (fun h k => smaH_ren k) g]
  congr 1
  ·simp only [limF,otherF,List.length_map]
  ·congr 1
   show (f.comps.map renC).all smlC = _;rw [List.all_map];exact all_cong fun c _ => smlC_ren c
 have h2 : namF (otherF f) = namF f := by
  unfold namF;rw [evH_ren (fun h k => namH_ren k) g]
  congr 1
  congr 1
  ·congr 1
   ·congr 1
    ·exact gd_nm g.1
    ·show (f.flags.map renG).all _ = _;rw [List.all_map];exact all_cong fun x hx => gd_nm (g.2.1 x hx)
   ·show (f.links.map renL).all _ = _;rw [List.all_map];refine all_cong fun x hx => ?_;obtain ⟨a,b⟩ := g.2.2.1 x hx;show (nameB (ren0 x.fr) && nameB (ren0 x.to)) = _;rw [gd_nm a,gd_nm b]
  ·show (f.comps.map renC).all _ = _;rw [List.all_map];refine all_cong fun c hc => ?_;have k := g.2.2.2 c hc;show (nameB (ren0 c.nm) && (c.vars.map renV).all _) = _;rw [gd_nm k.1,List.all_map]
   congr 1
   exact all_cong fun v hv => gd_nm (k.2.1 v hv)
 have h3 : frmF (otherF f) = frmF f := by
  unfold frmF;rw [evH_ren (fun h k => frmH_ren k) g]
  congr 1
  congr 1
  ·show (f.links.map renL).all _ = _;rw [List.all_map];rfl
  ·show (f.comps.map renC).all _ = _;rw [List.all_map];refine all_cong fun c _ => ?_;show (c.vars.map renV).all _ = _;rw [List.all_map];rfl
 unfold checkF;rw [h1,h2,h3]
/-! ### What is found by its name -/
theorem has_ren (l : List Str) (n : Str) : hasB (l.map ren0) (ren0 n) = hasB l n := by
 simp only [hasB,List.any_map]
 congr 1
 funext x
 simp only [Function.comp,ren0_inj]
theorem flag_ren (l : List Fg) (n : Str) : flagB (l.map renG) (ren0 n) = flagB l n := by
 simp only [flagB,List.any_map]
 congr 1
 funext x
 simp only [Function.comp,renG,ren0_inj]
theorem find_ren {α : Type} (g : α → α) (nm : α → Str) (hg : ∀ x,nm (g x) = ren0 (nm x)) (l : List α) (n : Str) : (l.map g).find? (fun x => decide (nm x = ren0 n)) = (l.find? fun x => decide (nm x = n)).map g := by
 rw [List.find?_map]
 congr 1
 congr 1
 funext x
 simp only [Function.comp,hg,ren0_inj]
theorem var_ren (l : List Vr) (n : Str) : varF (l.map renV) (ren0 n) = (varF l n).map renV := find_ren renV Vr.nm (fun _ => rfl) l n
theorem cp_ren (l : List Cp) (n : Str) : cpF (l.map renC) (ren0 n) = (cpF l n).map renC := find_ren renC Cp.nm (fun _ => rfl) l n
theorem hd_ren (l : List (List Hd)) (n : Str) : hdF (l.map fun v => v.map renH) (ren0 n) = (hdF l n).map renH := by
 have e : (l.map fun v => v.map renH).flatten = l.flatten.map renH := by rw [List.map_flatten]
 unfold hdF;rw [e];exact find_ren renH Hd.nm (fun _ => rfl) _ n
def renSc (s : Sc) : Sc := ⟨s.flags.map renG,s.vars.map renV,s.ps.map ren0⟩
def renR (r : Tr) : Tr := ⟨r.ty,ren0 r.nm,r.er⟩
theorem nameT_ren (s : Sc) (n : Str) : nameT (renSc s) (ren0 n) = nameT s n := by
 unfold nameT renSc;simp only [has_ren,var_ren,flag_ren]
 split
 ·rfl
 ·cases varF s.vars n with
  | none => rfl
  | some v => rfl
theorem varS_ren (s : Sc) (n : Str) : varS (renSc s) (ren0 n) = (varS s n).map renV := by
 unfold varS renSc;simp only [has_ren,var_ren]
 split <;> rfl
theorem tableT_ren (s : Sc) (n : Str) : tableT (renSc s) (ren0 n) = tableT s n := by
 unfold tableT;rw [varS_ren];cases varS s n with
 | none => rfl
 | some v => rfl
theorem wrong_ren (t : UInt8) (nm : Str) (er : Nat) : wrongT t (ren0 nm) er = renR (wrongT t nm er) := by
 unfold wrongT
 split <;> rfl
theorem fstE_ren (l : List Tr) : fstE (l.map renR) = (fstE l).map renR := by
 unfold fstE;rw [List.find?_map]
 rfl
theorem fstT_ren (l : List Tr) : fstT (l.map renR) = fstT l := by
 unfold fstT;rw [List.map_map]
 rfl
theorem alike_ren (l : List Tr) : alikeT (l.map renR) = renR (alikeT l) := by
 unfold alikeT;rw [fstE_ren,fstT_ren];cases fstE l with
 | some r => rfl
 | none =>
  simp only [Option.map_none,List.all_map];have e : ((fun r : Tr => decide (r.ty = fstT l)) ∘ renR) = fun r => decide (r.ty = fstT l) := rfl;rw [e]
  split <;> rfl
theorem tyOp_ren (s : Sc) (op : UInt8) (nm : Str) (a : Tr) : tyOp (renSc s) op (ren0 nm) (renR a) = renR (tyOp s op nm a) := by
 unfold tyOp;rw [nameT_ren,tableT_ren];simp only [wrong_ren];show (if ¬ a.er = 0 then _ else _) = _
 split
 ·rfl
 split
 ·rfl
 split
 ·rfl
 split
 ·rfl
 split
 ·rfl
 show (if ¬ a.ty = needT_ op a.ty then _ else _) = _
 split
 ·rfl
 split
 ·rfl
 ·rfl
mutual
theorem tyE_ren (s : Sc) : ∀ e : Ex,tyE (renSc s) (renE e) = renR (tyE s e)
 | .mk op nm n args => by rw [renE_mk,tyE,tyE,tyEs_ren s args,alike_ren,tyOp_ren]
theorem tyEs_ren (s : Sc) : ∀ l : List Ex,tyEs (renSc s) (renEs l) = (tyEs s l).map renR
 | [] => rfl
 | e :: r => by rw [renEs,tyEs,tyEs,tyE_ren s e,tyEs_ren s r];rfl
end
/-! ### What is reported -/
def rpR (x : Rp) : Rp := (ren0 x.1,x.2)
theorem rpE_ren (r : Tr) (t : UInt8) : rpE (renR r) t = (rpE r t).map rpR := by
 unfold rpE;show (if r.er = 0 then _ else _) ++ (if r.ty = t then _ else _) = _;rw [List.map_append]
 congr 1
 ·split <;> rfl
 ·split <;> rfl
theorem allT_ren (s : Sc) (t : UInt8) (l : List Ex) : allT (renSc s) t (renEs l) = (allT s t l).map rpR := by
 unfold allT;rw [renEs_map,List.flatMap_map,List.map_flatMap]
 congr 1
 funext e
 rw [tyE_ren,rpE_ren]
theorem chgT_ren (s : Sc) (n : Str) : chgT (renSc s) (ren0 n) = chgT s n := by
 unfold chgT;rw [varS_ren];cases varS s n <;> rfl
theorem chgR_ren (s : Sc) (n : Str) : chgR (renSc s) (ren0 n) = (chgR s n).map rpR := by
 unfold chgR;rw [varS_ren];have h1 : hasB (renSc s).ps (ren0 n) = hasB s.ps n := has_ren _ _;have h2 : flagB (renSc s).flags (ren0 n) = flagB s.flags n := flag_ren _ _;rw [h1,h2];cases varS s n <;> rfl
theorem one_ren {c : Prop} [Decidable c] (n : Str) (e : Nat) : (if c then [] else [(ren0 n,e)]) = (if c then [] else [(n,e)] : List Rp).map rpR := by split <;> rfl
theorem callR_ren (s : Sc) (vs : List (List Hd)) (n : Str) (es : List Ex) (k : Nat) : callR (renSc s) (vs.map fun v => v.map renH) (ren0 n) (renEs es) k = (callR s vs n es k).map rpR := by
 unfold callR;rw [hd_ren,renEs_len,allT_ren,List.map_append,List.map_append];cases hdF vs n with
 | none =>
  congr 1
  congr 1
  exact one_ren _ _
 | some h =>
  congr 1
  congr 1
  show (if ((es.length : Int) - (k : Nat) = (((renH h).ps.length : Nat) : Int)) then _ else _) = _;rw [show (renH h).ps.length = h.ps.length from List.length_map _];exact one_ren _ _
theorem stR_ren (cs : List Cp) (own : List (List Hd)) (s : Sc) (x : Sm) : stR (cs.map renC) (own.map fun v => v.map renH) (renSc s) (renS x) = (stR cs own s x).map rpR := by
 obtain ⟨kd,nm,hd,ex,th,el⟩ := x;rw [renS_mk];rw [stR,stR,chgR_ren,chgT_ren];simp only [allT_ren]
 split
 ·rw [List.map_append];congr 1;split <;> rfl
 split
 ·rw [List.map_append,List.map_append];congr 1;congr 1;exact one_ren _ _
 split
 ·rw [List.map_append,List.map_append];congr 1;congr 1;exact one_ren _ _
 split
 ·rfl
 split
 ·rw [cp_ren,List.map_append];cases cpF cs nm with
  | none =>
   have := callR_ren s [] hd ex 0
   congr 1
  | some c =>
   have := callR_ren s c.vers hd ex 0
   congr 1
 split
 ·exact callR_ren _ _ _ _ _
 split
 ·rfl
 ·rfl
def ky (x : Pb) : Rp := (x.nm,x.er)
theorem atW_ky (w : Str) (l : List Rp) : (atW w l).map ky = l := by
 unfold atW;rw [List.map_map];exact List.map_id'' (fun _ => rfl) l
theorem if_ky (b : Bool) (w w' n : Str) (e : Nat) : (rpIf b w' (ren0 n) e).map ky = ((rpIf b w n e).map ky).map rpR := by
 cases b <;> rfl
section
variable (cs : List Cp) (own : List (List Hd)) (s : Sc) (pl pl' : Str)
mutual
theorem stL_ren : ∀ (x : Sm) (k : Nat),(stL (cs.map renC) (own.map fun v => v.map renH) (renSc s) pl' k (renS x)).map ky = ((stL cs own s pl k x).map ky).map rpR
 | .mk kd nm hd ex th el,k => by
  have h := stR_ren cs own s (.mk kd nm hd ex th el);rw [renS_mk] at h ⊢;rw [stL_mk,stL_mk,List.map_append,List.map_append,List.map_append,List.map_append,List.map_append,List.map_append,atW_ky,atW_ky,h,stLs_ren th (k + 1),counts_ren th,stLs_ren el _]
theorem stLs_ren : ∀ (l : List Sm) (k : Nat),(stLs (cs.map renC) (own.map fun v => v.map renH) (renSc s) pl' k (renSs l)).map ky = ((stLs cs own s pl k l).map ky).map rpR
 | [],k => by rw [renSs,stLs,stLs];rfl
 | x :: r,k => by rw [renSs,stLs,stLs,List.map_append,List.map_append,List.map_append,stL_ren x k,count_ren x,stLs_ren r _]
end
end
def Rn (l m : List Pb) : Prop := m.map ky = (l.map ky).map rpR
theorem Rn.nil : Rn [] [] := rfl
theorem Rn.app {a b c d : List Pb} (h : Rn a b) (k : Rn c d) : Rn (a ++ c) (b ++ d) := by
 unfold Rn at h k ⊢;rw [List.map_append,List.map_append,List.map_append,h,k]
theorem Rn.flat {f g : Nat → List Pb} (h : ∀ i,Rn (f i) (g i)) : ∀ l : List Nat,Rn (l.flatMap f) (l.flatMap g)
 | [] => .nil
 | i :: r => by rw [List.flatMap_cons,List.flatMap_cons];exact (h i).app (Rn.flat h r)
theorem flg_ren (f : Ft) (i : Nat) : Rn (flg1 f i) (flg1 (otherF f) i) := by
 unfold flg1;rw [show (otherF f).flags = f.flags.map renG from rfl,List.getElem?_map,← List.map_take];cases f.flags[i]? with
 | none => exact .nil
 | some x =>
  show Rn (rpIf (flagB (f.flags.take i) x.nm) _ _ _) (rpIf (flagB ((f.flags.take i).map renG) (ren0 x.nm)) _ (ren0 x.nm) _);rw [flag_ren];exact if_ky _ _ _ _ _
theorem isSome_map {α β : Type} {f : α → β} {o : Option α} : (o.map f).isSome = o.isSome := by cases o <;> rfl
theorem same_ren (l : List Lk) (x : Lk) : sameL (l.map renL) (renL x) = sameL l x := by
 unfold sameL;rw [List.any_map]
 congr 1
 funext y
 simp only [Function.comp,renL,ren0_inj]
theorem lnk_ren (f : Ft) (i : Nat) : Rn (lnk1 f i) (lnk1 (otherF f) i) := by
 unfold lnk1;rw [show (otherF f).links = f.links.map renL from rfl,show (otherF f).comps = f.comps.map renC from rfl,List.getElem?_map,← List.map_take];cases f.links[i]? with
 | none => exact .nil
 | some x =>
  simp only [Option.map_some,same_ren];show Rn _ (rpIf (!(cpF (f.comps.map renC) (ren0 x.fr)).isSome) _ (ren0 x.fr) _ ++ (rpIf (!(cpF (f.comps.map renC) (ren0 x.to)).isSome) _ (ren0 x.to) _ ++ rpIf _ _ (ren0 x.fr) _));rw [cp_ren,cp_ren,isSome_map,isSome_map];exact .app (if_ky _ _ _ _ _) (.app (if_ky _ _ _ _ _) (if_ky _ _ _ _ _))
theorem vr_ren (f : Ft) (c : Cp) (i : Nat) : Rn (var1 f c i) (var1 (otherF f) (renC c) i) := by
 unfold var1;rw [show (renC c).vars = c.vars.map renV from rfl,show (otherF f).flags = f.flags.map renG from rfl,List.getElem?_map,← List.map_take];cases c.vars[i]? with
 | none => exact .nil
 | some v =>
  show Rn _ (rpIf ((varF ((c.vars.take i).map renV) (ren0 v.nm)).isSome || flagB (f.flags.map renG) (ren0 v.nm)) _ (ren0 v.nm) _);rw [var_ren,flag_ren,isSome_map];exact if_ky _ _ _ _ _
theorem par_ren (f : Ft) (c : Cp) (n : Nat) (h : Hd) (i : Nat) : Rn (par1 f c n h i) (par1 (otherF f) (renC c) n (renH h) i) := by
 unfold par1;rw [show (renH h).ps = h.ps.map ren0 from rfl,show (renC c).vars = c.vars.map renV from rfl,show (otherF f).flags = f.flags.map renG from rfl,List.getElem?_map,← List.map_take];cases h.ps[i]? with
 | none => exact .nil
 | some p =>
  show Rn _ (rpIf ((varF (c.vars.map renV) (ren0 p)).isSome || flagB (f.flags.map renG) (ren0 p) || hasB ((h.ps.take i).map ren0) (ren0 p)) _ (ren0 p) _);rw [var_ren,flag_ren,has_ren,isSome_map];exact if_ky _ _ _ _ _
theorem bef_ren (c : Cp) (n : Nat) (h : Hd) : befB (renC c) n (renH h) = befB c n h := by
 unfold befB;rw [show (renC c).vers = c.vers.map (fun v => v.map renH) from rfl,show (renH h).nm = ren0 h.nm from rfl,← List.map_take,hd_ren];cases hdF (c.vers.take n) h.nm with
 | none => rfl
 | some b =>
  show (!decide ((b.ps.map ren0).length = (h.ps.map ren0).length)) = _;rw [List.length_map,List.length_map]
theorem hdl_ren (f : Ft) (c : Cp) (n : Nat) (v : List Hd) (i : Nat) : Rn (hdl1 f c n v i) (hdl1 (otherF f) (renC c) n (v.map renH) i) := by
 unfold hdl1;rw [List.getElem?_map,← List.map_take];cases v[i]? with
 | none => exact .nil
 | some h =>
  simp only [Option.map_some,bef_ren]
  have e1 : (hdF [(v.take i).map renH] (renH h).nm).isSome = (hdF [v.take i] h.nm).isSome := by
   have := hd_ren [v.take i] h.nm;rw [show (renH h).nm = ren0 h.nm from rfl];rw [List.map_cons,List.map_nil] at this;rw [this,isSome_map]
  rw [e1,show (renH h).ps.length = h.ps.length from List.length_map _];exact .app (if_ky _ _ _ _ _) (.app (if_ky _ _ _ _ _) (.app (.flat (fun i => par_ren f c n h i) _) (stLs_ren f.comps c.vers ⟨f.flags,c.vars,h.ps⟩ _ _ h.body 0)))
theorem ver_ren (f : Ft) (c : Cp) (n : Nat) : Rn (ver1 f c n) (ver1 (otherF f) (renC c) n) := by
 unfold ver1;rw [show (renC c).vers = c.vers.map (fun v => v.map renH) from rfl,List.getElem?_map];cases c.vers[n]? with
 | none => exact .nil
 | some v =>
  show Rn _ ((List.range (v.map renH).length).flatMap _);rw [List.length_map];exact .flat (fun i => hdl_ren f c n v i) _
theorem cmp_ren (f : Ft) (i : Nat) : Rn (cmp1 f i) (cmp1 (otherF f) i) := by
 unfold cmp1;rw [show (otherF f).comps = f.comps.map renC from rfl,show (otherF f).flags = f.flags.map renG from rfl,List.getElem?_map,← List.map_take];cases f.comps[i]? with
 | none => exact .nil
 | some c =>
  show Rn _ (rpIf ((cpF ((f.comps.take i).map renC) (ren0 c.nm)).isSome || flagB (f.flags.map renG) (ren0 c.nm)) _ (ren0 c.nm) _ ++ ((List.range (c.vars.map renV).length).flatMap _ ++ (List.range (c.vers.map fun v => v.map renH).length).flatMap _));rw [cp_ren,flag_ren,isSome_map,List.length_map,List.length_map];exact .app (if_ky _ _ _ _ _) (.app (.flat (fun i => vr_ren f c i) _) (.flat (fun i => ver_ren f c i) _))
theorem probs_ren (f : Ft) (c : Nat) : Rn (probs f c) (probs (otherF f) c) := by
 unfold probs;refine .app ?_ ?_
 ·split
  ·exact .nil
  ·rfl
 ·rw [show (otherF f).flags.length = f.flags.length from List.length_map _,show (otherF f).links.length = f.links.length from List.length_map _,show (otherF f).comps.length = f.comps.length from List.length_map _];exact .app (.flat (fun i => flg_ren f i) _) (.app (.flat (fun i => lnk_ren f i) _) (.flat (fun i => cmp_ren f i) _))
theorem renames {f : Ft} (g : gdF f) : (frsP noP (probs (otherF f) (checkF (otherF f)))).er = (frsP noP (probs f (checkF f))).er ∧ (frsP noP (probs (otherF f) (checkF (otherF f)))).nm = ren0 (frsP noP (probs f (checkF f))).nm := by
 rw [checkF_ren g];have h := probs_ren f (checkF f);generalize probs f (checkF f) = l at h;generalize probs (otherF f) (checkF f) = m at h;unfold Rn at h
 match l,m,h with
 | [],[],_ => exact ⟨rfl,rfl⟩
 | [],y :: m,h => cases h
 | x :: l,[],h => cases h
 | x :: l,y :: m,h =>
  have e := (List.cons.inj h).1;have e1 : ky y = rpR (ky x) := e;have f1 : frsP noP (x :: l) = x := by rw [frsP,if_pos (show noP.er = 0 from rfl)];rfl
  have f2 : frsP noP (y :: m) = y := by rw [frsP,if_pos (show noP.er = 0 from rfl)];rfl
  rw [f1,f2];exact ⟨congrArg Prod.snd e1,congrArg Prod.fst e1⟩
/-! ### The names that are reported -/
def GoR (l : List Rp) : Prop := ∀ x ∈ l,goe x.1 = true
def GoP (l : List Pb) : Prop := ∀ x ∈ l,goe x.nm = true
theorem GoR.nil : GoR [] := fun _ h => by cases h
theorem GoR.app {l m : List Rp} (h : GoR l) (k : GoR m) : GoR (l ++ m) := fun x hx => (List.mem_append.1 hx).elim (h x) (k x)
theorem GoR.one {n : Str} {e : Nat} (h : goe n = true) : GoR [(n,e)] := fun x hx => by rw [List.mem_singleton.1 hx];exact h
theorem GoR.ite {c : Prop} [Decidable c] {l m : List Rp} (h : GoR l) (k : GoR m) : GoR (if c then l else m) := by split;exact h;exact k
theorem GoP.nil : GoP [] := fun _ h => by cases h
theorem GoP.app {l m : List Pb} (h : GoP l) (k : GoP m) : GoP (l ++ m) := fun x hx => (List.mem_append.1 hx).elim (h x) (k x)
theorem GoP.if_ {b : Bool} {w n : Str} {e : Nat} (h : goe n = true) : GoP (rpIf b w n e) := by
 unfold rpIf
 split
 ·intro x hx;rw [List.mem_singleton.1 hx];exact h
 ·exact .nil
theorem GoP.flat {α : Type} {f : α → List Pb} {l : List α} (h : ∀ a,GoP (f a)) : GoP (l.flatMap f) := fun x hx => by
 obtain ⟨a,_,hx⟩ := List.mem_flatMap.1 hx;exact h a x hx
theorem GoR.at {l : List Rp} (h : GoR l) (w : Str) : GoP (atW w l) := fun x hx => by
 obtain ⟨y,hy,rfl⟩ := List.mem_map.1 hx;exact h y hy
theorem goe_wrong {t : UInt8} {nm : Str} {er : Nat} (h : goe nm = true) : goe (wrongT t nm er).nm = true := by
 unfold wrongT
 split
 ·rfl
 ·exact h
theorem goe_op {s : Sc} {op : UInt8} {nm : Str} {a : Tr} (h : goe nm = true) (k : goe a.nm = true) : goe (tyOp s op nm a).nm = true := by
 unfold tyOp
 split
 ·exact k
 split
 ·rfl
 split
 ·rfl
 split
 ·exact goe_wrong h
 split
 ·exact goe_wrong h
 split
 ·rfl
 split
 ·exact goe_wrong h
 ·rfl
theorem goe_alike {l : List Tr} (h : ∀ r ∈ l,goe r.nm = true) : goe (alikeT l).nm = true := by
 unfold alikeT;cases hf : fstE l with
 | some r => exact h r (List.mem_of_find?_eq_some hf)
 | none => simp only;split <;> rfl
mutual
theorem goe_ty (s : Sc) : ∀ e : Ex,Ex.all gdE e = true → goe (tyE s e).nm = true
 | .mk op nm n args,h => by
  rw [all_mk,Bool.and_eq_true] at h;rw [tyE];exact goe_op h.1 (goe_alike (goe_tys s args h.2))
theorem goe_tys (s : Sc) : ∀ l : List Ex,Ex.alls gdE l = true → ∀ r ∈ tyEs s l,goe r.nm = true
 | [],_,r,hr => by rw [tyEs] at hr;cases hr
 | e :: l,h,r,hr => by
  rw [Ex.alls,Bool.and_eq_true] at h;rw [tyEs] at hr;rcases List.mem_cons.1 hr with rfl | hr
  ·exact goe_ty s e h.1
  ·exact goe_tys s l h.2 r hr
end
theorem GoR.e {r : Tr} {t : UInt8} (h : goe r.nm = true) : GoR (rpE r t) := by
 unfold rpE;refine .app ?_ (.ite .nil (.one Z))
 split
 ·exact .nil
 ·exact .one h
theorem GoR.all {s : Sc} {t : UInt8} {l : List Ex} (h : Ex.alls gdE l = true) : GoR (allT s t l) := fun x hx => by
 obtain ⟨a,ha,hx⟩ := List.mem_flatMap.1 hx;exact GoR.e (goe_ty s a (ealls_mem h a ha)) x hx
theorem GoR.chg {s : Sc} {n : Str} (h : goe n = true) : GoR (chgR s n) := by
 unfold chgR
 split
 ·exact .nil
 ·exact .one h
theorem GoR.call {s : Sc} {vs : List (List Hd)} {n : Str} {es : List Ex} {k : Nat} (h : goe n = true) (he : Ex.alls gdE es = true) : GoR (callR s vs n es k) :=
 .app (.ite .nil (.one h)) (.app (.ite .nil (.one h)) (.all he))
theorem GoR.st {cs : List Cp} {own : List (List Hd)} {s : Sc} {x : Sm} (h : gdS x = true) : GoR (stR cs own s x) := by
 obtain ⟨kd,nm,hd,ex,th,el⟩ := x;simp only [gdS,Bool.and_eq_true] at h;obtain ⟨⟨h1,h2⟩,h3⟩ := h;unfold stR;exact .ite (.app (.chg h1) (.ite (.all h3) (.one h1)))<|.ite (.app (.chg h1) (.app (.ite .nil (.one h1)) (.all h3)))<|.ite (.app (.chg h1) (.app (.ite .nil (.one h1)) (.all h3)))<|.ite (.all h3)<|.ite (.app (.ite .nil (.one h1)) (.call h2 h3))<|.ite (.call h2 h3)<|.ite (.all h3) .nil
mutual
theorem GoP.st (cs : List Cp) (own : List (List Hd)) (s : Sc) (pl : Str) : ∀ (k : Nat) (x : Sm),Sm.all gdS x = true → GoP (stL cs own s pl k x)
 | k,.mk kd nm hd ex th el,h => by
  rw [sall_mk,Bool.and_eq_true,Bool.and_eq_true] at h;rw [stL_mk];exact .app ((GoR.st h.1.1).at _) (.app (GoP.sts cs own s pl _ th h.1.2) (GoP.sts cs own s pl _ el h.2))
theorem GoP.sts (cs : List Cp) (own : List (List Hd)) (s : Sc) (pl : Str) : ∀ (k : Nat) (l : List Sm),Sm.alls gdS l = true → GoP (stLs cs own s pl k l)
 | k,[],_ => by rw [stLs];exact .nil
 | k,x :: r,h => by
  rw [Sm.alls,Bool.and_eq_true] at h;rw [stLs];exact .app (GoP.st cs own s pl k x h.1) (GoP.sts cs own s pl _ r h.2)
end
theorem mem_at {α : Type} {l : List α} {i : Nat} {x : α} (h : l[i]? = some x) : x ∈ l := List.mem_of_getElem? h
theorem goP_probs {f : Ft} (g : gdF f) (c : Nat) : GoP (probs f c) := by
 obtain ⟨g0,g1,g2,g3⟩ := g;unfold probs;refine .app ?_ (.app (.flat fun i => ?_) (.app (.flat fun i => ?_) (.flat fun i => ?_)))
 ·split
  ·exact .nil
  ·intro x hx;rw [List.mem_singleton.1 hx];exact goe_of g0
 ·unfold flg1
  split
  ·exact .nil
  ·rename_i x hx;exact .if_ (goe_of (g1 x (mem_at hx)))
 ·unfold lnk1
  split
  ·exact .nil
  ·rename_i x hx;have k := g2 x (mem_at hx);exact .app (.if_ (goe_of k.1)) (.app (.if_ (goe_of k.2)) (.if_ (goe_of k.1)))
 ·unfold cmp1
  split
  ·exact .nil
  ·rename_i c hc;obtain ⟨k1,k2,k3⟩ := g3 c (mem_at hc);refine .app (.if_ (goe_of k1)) (.app (.flat fun i => ?_) (.flat fun n => ?_))
   ·unfold var1
    split
    ·exact .nil
    ·rename_i v hv;exact .if_ (goe_of (k2 v (mem_at hv)))
   ·unfold ver1
    split
    ·exact .nil
    ·rename_i v hv;refine .flat fun j => ?_;unfold hdl1
     split
     ·exact .nil
     ·rename_i h hh;obtain ⟨j1,j2⟩ := k3 v (mem_at hv) h (mem_at hh);obtain ⟨j3,j4⟩ := gdH_nm j1;refine .app (.if_ (goe_of j3)) (.app (.if_ (goe_of j3)) (.app (.flat fun q => ?_) (.sts _ _ _ _ _ _ j2)));unfold par1
      split
      ·exact .nil
      ·rename_i p hp;exact .if_ (goe_of (j4 p (mem_at hp)))
theorem frs_goe {f : Ft} (g : gdF f) (c : Nat) : goe (frsP noP (probs f c)).nm = true := by
 have h := goP_probs g c;generalize probs f c = l at h;rw [frsP,if_pos (show noP.er = 0 from rfl)];cases l with
 | nil => rfl
 | cons x r => exact h x (.head _)
/-! ### Bounds -/
mutual
theorem narE_ren : ∀ e : Ex,Ex.all narrow (renE e) = Ex.all narrow e
 | .mk op nm n args => by rw [renE_mk,all_mk,all_mk,narrow_mk,narrow_mk,renEs_len,narEs_ren args]
theorem narEs_ren : ∀ l : List Ex,Ex.alls narrow (renEs l) = Ex.alls narrow l
 | [] => rfl
 | e :: r => by rw [renEs,Ex.alls,Ex.alls,narE_ren e,narEs_ren r]
end
theorem keep_SD {N D : Nat} : KeepS (okSD N D) := fun s _ => by
 obtain ⟨kd,nm,hd,ex,th,el⟩ := s;rw [renS_mk];simp only [okSD,renEs_len,deeps_ren]
 congr 1
 rw [← alls_eq,← alls_eq,narEs_ren]
theorem bndH_ren {M D : Nat} {h : Hd} (g : gdHF h) (k : bndH M D h) : bndH M D (renH h) :=
 ⟨by show (h.ps.map ren0).length ≤ M;rw [List.length_map];exact k.ps,by show Sm.counts (renSs h.body) ≤ 100;rw [counts_ren];exact k.cnt,by show Sm.deeps (renSs h.body) ≤ 100;rw [sdeeps_ren];exact k.dep,by
  show Sm.alls (okSD 100 D) (renSs h.body) = true;rw [alls_ren keep_SD _ g.2];exact k.all⟩
theorem bndF_ren {M D : Nat} {f : Ft} (g : gdF f) (k : bndF M D f) : bndF M D (otherF f) := by
 refine ⟨by show (f.flags.map renG).length ≤ 100;rw [List.length_map];exact k.flags,by show (f.links.map renL).length ≤ 100;rw [List.length_map];exact k.links,by show (f.comps.map renC).length ≤ 100;rw [List.length_map];exact k.comps,fun c hc => ?_⟩;obtain ⟨c0,hc0,rfl⟩ := List.mem_map.1 hc;have kc := k.all c0 hc0;refine ⟨by show (c0.vars.map renV).length ≤ 100;rw [List.length_map];exact kc.vars,by show (c0.vers.map fun v => v.map renH).length < 99;rw [List.length_map];exact kc.vers,fun v hv => ?_,fun v hv => ?_⟩
 ·obtain ⟨v0,hv0,rfl⟩ := List.mem_map.1 hv;exact kc.ini v0 hv0
 ·obtain ⟨v0,hv0,rfl⟩ := List.mem_map.1 hv;refine ⟨by rw [List.length_map];exact (kc.all v0 hv0).1,fun h hh => ?_⟩;obtain ⟨h0,hh0,rfl⟩ := List.mem_map.1 hh;exact bndH_ren ((g.2.2.2 c0 hc0).2.2 v0 hv0 h0 hh0) ((kc.all v0 hv0).2 h0 hh0)
theorem Fx.call75 : callN Tryz.prog 75 = Bool.true := by kernel_rfl
def RenOf (e : Ex) : Prop := Ex.all narrow e = true → Ex.all gdE e = true → ∀ (H : Hp) (cs : List Value) (w : World),Rep H (dEx .i64 e) cs → Agr H w →
 Calls Tryz.prog 75 #[.agg cs.toArray] w fun r w' => ∃ x H',Rep H' (dEx .i64 (renE e)) x ∧ r = .returned (.agg x.toArray) ∧ Grow H w H' w'
set_option maxHeartbeats 2000000 in
set_option maxRecDepth 100000 in
theorem ren_any (e : Ex) : RenOf e := by
 induction e using Ex.ind with | _ op nm nn args ih
 intro hnr hgd H cs w h hA;rw [all_mk,Bool.and_eq_true] at hgd;rw [all_mk,Bool.and_eq_true,narrow_mk,decide_eq_true_eq] at hnr;obtain ⟨p,c,rfl,hs,hnm⟩ := ex_open h;have hcap := hs.cap;have hn3 := hnr.1;refine Sx.enter (H := H) Tryz.func75 rfl Tryz.ntmps75 rfl hA ?_;refine .sr<|.bx Z Z Z fun b1 => .al Fx.zero58 Z fun b2 => .ns<|.yv (.fieldAddr Z Fx.field58_0) Z<|.yv (.load Z Fx.agg3 (.tail _<|.head _) Z) Z<|.yv (.fieldAddr Z Fx.field58_2) Z<|.yv (.load Z Fx.agg2 (.tail _<|.head _) Z) Z<|.yv (.build Z (Fx.bld58_0_2 _ _)) Z<|.al Fx.zero58 Z fun b3 => .sW .head Z Z Fx.size58 (by simp [Value.oneCell',strV]) Z<|.nt<|.cu (X := Str) [(1,_),(2,_),(3,_)] ⟨rfl,rfl,rfl,trivial⟩ (fun z => []) (fun z => H) (fun z => [.box b3 [.int .i64 op.toNat,strV z,.int .i64 nn.toInt,.slice none 0 0] 58,.box b2 [.int .i64 0,.string ⟨#[]⟩,.int .i64 0,.slice none 0 0] 58,.box b1 [.int .i64 op.toNat,strV nm,.int .i64 nn.toInt,.slice p args.length c] 58]) (fun z => z = ren0 nm) ?_ fun z hC => ?_
 ·
  refine .sr<|.yv (.fieldAddr Z Fx.field58_1) Z<|.yv (.load Z Fx.agg9 (.tail _<|.tail _<|.head _) Z) Z<|.yv (.neS Z Z) Z<|.nt<|.cd Z (fun h13 => ?_) (fun h13 => ?_)
  ·try simp only [dt] at h13
   have hne : nm ≠ [] := h13;exact .rg<|.yv (.fieldAddr Z Fx.field58_1) Z<|.yv (.load Z Fx.agg9 (.tail _<|.tail _<|.head _) Z) Z<|.yv (.app Z Z ((by simp only [List.length_append,List.length_cons,List.length_nil];omega))) Z<|.yv (.fieldAddr Z Fx.field58_1) Z<|.st .head Z Z Fx.size9 Z (nb Z) Z<|.nt<|.me (nm ++ [113]) trivial ⟨rfl,rfl,rfl,trivial⟩ (fun _ s => s) (ren0_ne hne).symm
  try simp only [df] at h13
  have hem : nm = [] := by simpa using h13
  exact .sk<|.tN<|.me [] trivial ⟨rfl,rfl,rfl,trivial⟩ (fun _ s => s) (by rw [hem];rfl)
 obtain rfl := hC;refine .sq<|.sr<|.yv (.fieldAddr Z Fx.field58_3) Z<|.yv (.load Z Fx.agg56 (.tail _<|.tail _<|.head _) Z) Z<|.yv (.lenSl Fx.sl56 Z) Z<|.m Z Z<|?_
 refine Sx.row0 58 4 ?_;refine .nt<|.bk<|.lp (X := Nat × Hp × Value × List Value) [(2,_),(3,_),(19,_),(20,_)] ⟨rfl,rfl,rfl,rfl,trivial⟩ [_,_] (fun z => [(21,.int .i64 (z.1 : Nat))]) (fun z => z.2.1) (fun z => [.row 58 4 z.2.2.1 z.1 z.2.2.2,.box b3 [.int .i64 op.toNat,strV (ren0 nm),.int .i64 nn.toInt,z.2.2.1] 58]) (fun z => z.1 ≤ args.length ∧ HUp w H z.2.1 ∧ RepZ z.2.1 4 (((args.take z.1).map renE).map (dEx .i64)) z.2.2.2) (fun z => args.length - z.1) (0,H,.slice none 0 0,[]) (fun _ s => s) ⟨rfl,trivial⟩ ⟨by simp,.refl,RepZ.nil⟩ fun z hC => ?_
 obtain ⟨k,H1,r,xs⟩ := z;dsimp only at hC ⊢;obtain ⟨hk0,u1,hz⟩ := hC;refine .sr<|.yv (.lss Z Z) Z<|.nt<|.sq<|.cd Z (fun h22 => ?_) (fun h22 => ?_)
 ·try simp only [dt] at h22
  have hk : k < args.length := by omega
  obtain ⟨bE,oE,cE,hpE,rE,lE,mE⟩ := (hs.up u1.up).elem (map_at (f := dEx .i64) hk);cases hpE;have hnr1 := lalls_at hk hnr.2;have hgd1 := lalls_at hk hgd.2;refine .sk<|.tN<|.sq<|.bk<|.sr<|.yv (.indexSl Fx.sl56 Z Z Z (by omega) (q := oE + k * 4) Z) Z<|.yv (.loadMW Z Fx.agg58 mE lE) Z<|.al Fx.zero58 Z fun b5 => .sV .head Z Z Fx.size58 lE rE.one Z<|.nt<|.fl (trip := [(_,_,_),(_,_,_),(_,_,_),(_,_,_),(_,_,_)]) 5 [(0,0),(1,0),(2,0),(3,1),(4,1)] (by kernel_rfl) (by kernel_rfl) Z<|.yv (.fieldAddr Z Fx.field58_3) Z<|.yv (.load Z Fx.agg56 (.tail _<|.tail _<|.head _) Z) Z<|.yv (.loadW Z Fx.agg58 (.head _) lE) Z<|.ct (X := List Value) Fx.call75 Z (fun W s => ih _ (List.getElem_mem hk) hnr1 hgd1 H1 cE W rE s.agr) Z fun x28 H28 hx28 u28 => ?_
  generalize hx : args[k] = x at hx28;obtain ⟨op2,nm2,n2,a2⟩ := x;have hx28b := hx28;rw [renE_mk] at hx28b;obtain ⟨p2,c2,rfl,hs2,hnm2⟩ := ex_open hx28b;generalize renEs a2 = args2 at hs2 hx28 ⊢;exact .bl Z (Fx.bsl56_1 _ _ _ _) Z fun b29 => .fn (tl := [_,_,_]) Z<|.ap (news := [.int .i64 op2.toNat,strV (ren0 nm2),.int .i64 n2.toInt,.slice p2 args2.length c2]) Fx.row56 Z (fun _ => (.tail<|.tail<|.head)) Z (.box (.head _) z0) Z (by simp [Value.oneCell',strV]) (by simp [maxLen];omega) (by omega) Z fun r30 _ => .ra (.tail _<|.tail _<|.head _) fun p30 c30 e30 => .yv (.fieldAddr Z Fx.field58_3) Z<|.st (.tail<|.tail<|.tail<|.head) Z Z Fx.size56 (by rw [e30];rfl) (nb Z) Z<|.nl<|.bN<|.tN<|.rg<|.yv (.add Z Z (w6 (by omega))) Z<|.m Z Z<|.nt<|.ag (x := (k,H1,r,xs)) (k + 1,H28,r30,xs ++ [.int .i64 op2.toNat,strV (ren0 nm2),.int .i64 n2.toInt,.slice p2 args2.length c2]) ⟨rfl,trivial⟩ ⟨rfl,rfl,rfl,rfl,trivial⟩ (fun _ s => (s.pick [2,3,4,5] _ Z Z)) ⟨by dsimp only;omega,u1.trans u28,by dsimp only;rw [take_snoc hk,hx,List.map_append,List.map_append];exact (hz.up u28.up).snoc hx28 Z⟩ (by dsimp only;omega)
 try simp only [df] at h22
 obtain rfl : k = args.length := by omega
 rw [List.take_length] at hz;refine Sx.freezeSeq (ds := (args.map renE).map (dEx .i64)) (by simp) hz fun H3 p3 c3 u3 e3 h3 => ?_;subst e3;refine .ex<|.tE<|.tE<|.bE<|.tN<|.sr<|.yv (.loadW Z Fx.agg58 (.head _) Z) Z<|.sW (.tail<|.head) Z Z Fx.size58 (by simp [Value.oneCell',strV]) Z<|.nt<|.rt<|?_
 refine Sx.ret1 (.inl rfl) rfl (.cell rfl Fx.agg58 (.tail _<|.head _) rfl) fun W t => ⟨_,H3,?_,rfl,(u1.trans u3).grow t⟩;rw [renE_mk];have e : args.length = (renEs args).length := (renEs_len args).symm;rw [e];exact ex_shut (by have := goe_len (show goe nm = true from hgd.1);omega) (by rw [renEs_len,renEs_map];exact h3)
theorem Fx.call37 : callN Tryz.prog 37 = Bool.true := by kernel_rfl
theorem Fx.bld85_0_4_5 (x0 : Int) (x4p : Option Addr) (x4n x4c : Nat) (x5p : Option Addr) (x5n x5c : Nat) : buildN Tryz.prog 85 [(0,.int .i64 x0),(4,.slice x4p x4n x4c),(5,.slice x5p x5n x5c)] = some [.int .i64 x0,.string ⟨#[]⟩,.string ⟨#[]⟩,.slice none 0 0,.slice x4p x4n x4c,.slice x5p x5n x5c] := by kernel_rfl
theorem alls_at8 {q : Sm → Bool} : ∀ {l : List Sm} {k : Nat} (h : k < l.length),Sm.alls q l = true → Sm.all q l[k] = true
 | s :: r,k,h,e => by
  rw [Sm.alls,Bool.and_eq_true] at e;cases k with
  | zero => exact e.1
  | succ k => exact alls_at8 (l := r) (by simpa using h) e.2
theorem sm_ren {H : Hp} {kd : UInt8} {nm hd : Str} {ex : List Ex} {th el : List Sm} {p q1 q2 : Option Addr} {c d1 d2 : Nat} (hn : goe nm = true) (hh : goe hd = true) (h1 : Rep H (.seq 4 ((ex.map renE).map (dEx .i64))) [.slice p ex.length c]) (h2 : Rep H (.seq 6 ((renSs th).map (dSm .i64))) [.slice q1 (renSs th).length d1]) (h3 : Rep H (.seq 6 ((renSs el).map (dSm .i64))) [.slice q2 (renSs el).length d2]) :
 Rep H (dSm .i64 (renS (.mk kd nm hd ex th el))) [.int .i64 kd.toNat,strV (ren0 nm),strV (ren0 hd),.slice p ex.length c,.slice q1 (renSs th).length d1,.slice q2 (renSs el).length d2] := by
 rw [renS_mk,← renEs_len ex];rw [← renEs_map,← renEs_len ex] at h1;exact sm_shut (by have := goe_len hn;omega) (by have := goe_len hh;omega) h1 h2 h3
set_option maxHeartbeats 4000000 in
set_option maxRecDepth 100000 in
theorem body8_any (N : Nat) (hN : N ≤ 1000000) : ∀ (l : List Sm),syL N l → Sm.alls gdS l = true → ∀ (H : Hp) (v : Value) (w : World),Rep H (.seq 6 (l.map (dSm .i64))) [v] → Agr H w →
 Calls Tryz.prog 37 #[v] w fun r w' => ∃ (y : Value) (H' : Hp),Rep H' (.seq 6 ((renSs l).map (dSm .i64))) [y] ∧ r = .returned y ∧ Grow H w H' w' := by
 refine Sm.lists fun l ih => ?_;intro hok hgd H v w hs hA;obtain ⟨p,c,e,_⟩ := hs.sl;simp only [List.cons.injEq,and_true,List.length_map] at e;subst e;have hcap := hs.cap;have hll := hok.len;refine Sx.enter (H := H) Tryz.func37 rfl Tryz.ntmps37 rfl hA ?_;refine .sr<|.a Z Z<|.ns<|.a Z Z<|?_
 refine Sx.row0 85 6 ?_;refine .nt<|.sq<|.sr<|.m Z Z<|.yv (.lenSl Fx.sl80 Z) Z<|.m Z Z<|.nt<|.bk<|.lp (X := Nat × Hp × Value × List Value) [(9,_),(10,_)] ⟨rfl,rfl,trivial⟩ [] (fun z => [(3,z.2.2.1),(11,.int .i64 (z.1 : Nat))]) (fun z => z.2.1) (fun z => [.row 85 6 z.2.2.1 z.1 z.2.2.2]) (fun z => z.1 ≤ l.length ∧ HUp w H z.2.1 ∧ RepZ z.2.1 6 (((l.take z.1).map renS).map (dSm .i64)) z.2.2.2) (fun z => l.length - z.1) (0,H,.slice none 0 0,[]) (fun _ s => s) ⟨rfl,rfl,trivial⟩ ⟨by simp,.refl,RepZ.nil⟩ fun z hC => ?_
 obtain ⟨k,H1,r,xs⟩ := z;dsimp only at hC ⊢;obtain ⟨hk0,u1,hz⟩ := hC;refine .sr<|.yv (.lss Z Z) Z<|.nt<|.sq<|.cd Z (fun h12 => ?_) (fun h12 => ?_)
 ·try simp only [dt] at h12
  have hk : k < l.length := by omega
  obtain ⟨bE,oE,cE,hpE,rE,lE,mE⟩ := (hs.up u1.up).elem (map_at (f := dSm .i64) hk);cases hpE;have hi := ih _ (List.getElem_mem hk);have hka := hok.at hk;have hga := alls_at8 hk hgd;generalize hx : l[k] = x at rE hi hka hga;obtain ⟨kd,nm,hd,ex,th,el⟩ := x;obtain ⟨p1,c1,p2,c2,p3,c3,rfl,hs1,hs2,hs3,hn1,hn2⟩ := sm_open rE;simp only [Sm.th,Sm.el] at hi;obtain ⟨k1,k2,k3,k4,k5,k6,k7⟩ := syL_one hka;rw [sall_mk,Bool.and_eq_true,Bool.and_eq_true] at hga;obtain ⟨⟨hgs,hgt⟩,hge⟩ := hga;simp only [gdS,Bool.and_eq_true] at hgs;obtain ⟨⟨hgn,hgh⟩,hgx⟩ := hgs;have hln := goe_len hgn;have hlh := goe_len hgh;have hit := hi.1 ⟨by omega,by omega,k6⟩ hgt;have hie := hi.2 ⟨by omega,by omega,k7⟩ hge;have hcap1 := hs1.cap;refine .sk<|.tN<|.sq<|.bk<|.sr<|.yv (.indexSl Fx.sl80 Z Z Z (by omega) (q := oE + k * 6) Z) Z<|.yv (.loadMW Z Fx.agg85 mE Z) Z<|.al Fx.zero85 Z fun b5 => .sW .head Z Z Fx.size85 (by simp [Value.oneCell',strV]) Z<|.nt<|.sq<|.ft (p := .light _ _ (.light _ _ (.light _ _ (.light _ _ (.light _ _ (.light _ _ (.alt _ _ _ (.alt _ _ _ (.light _ _ (.alt _ _ _ (.done) (.no))) (.alt _ _ _ (.alt _ _ _ (.light _ _ (.done)) (.no)) (.no))) (.alt _ _ _ (.alt _ _ _ (.alt _ _ _ (.light _ _ (.done)) (.no)) (.no)) (.no))))))))) 10 (.light 0 (.light 1 (.light 2 (.light 3 (.light 5 (.light 6 (.alt 4 0 (.alt 7 0 (.light 8 (.alt 9 0 (.done) (.no))) (.alt 9 0 (.alt 7 0 (.light 8 (.done)) (.no)) (.no))) (.alt 9 0 (.alt 4 0 (.alt 7 0 (.light 8 (.done)) (.no)) (.no)) (.no))))))))) (by kernel_rfl) (by kernel_rfl) Z<|.yv (.fieldAddr Z Fx.field85_0) Z<|.yv (.load Z Fx.agg3 (.head _) Z) Z<|.yv (.fieldAddr Z Fx.field85_4) Z<|.yv (.load Z Fx.agg80 (.head _) Z) Z<|.yv (.fieldAddr Z Fx.field85_5) Z<|.yv (.load Z Fx.agg80 (.head _) Z) Z<|.h ?_ (.h ?_ .nn)
  ·
   refine .ct (X := Value) Fx.call37 Z (fun W s => hit H1 _ W hs2 s.agr) Z fun y19 H19 hy19 u19 => ?_;obtain ⟨q19,d19,e19,_⟩ := hy19.sl;simp only [List.cons.injEq,and_true,List.length_map] at e19;subst e19;refine .h ?_ (.h ?_ .nn)
   ·
    refine .ct (X := Value) Fx.call37 Z (fun W s => hie H19 _ W (hs3.up u19.up) s.agr) Z fun y22 H22 hy22 u22 => ?_;obtain ⟨q22,d22,e22,_⟩ := hy22.sl;simp only [List.cons.injEq,and_true,List.length_map] at e22;subst e22;have u5 := u19.trans u22;have hs1b := hs1.up u5.up;have hy19b := hy19.up u22.up;refine .yv (.build Z (Fx.bld85_0_4_5 _ _ _ _ _ _ _)) Z<|.h1<|.al Fx.zero85 Z fun b6 => .fn (tl := [_]) Z<|.sW .head Z Z Fx.size85 (by simp [Value.oneCell',strV]) Z<|.nt<|.cu (X := Str) [(3,_),(5,_),(6,_),(9,_),(10,_),(11,_)] ⟨rfl,rfl,rfl,rfl,rfl,rfl,trivial⟩ (fun z => []) (fun z => H22) (fun z => [.box b6 [.int .i64 kd.toNat,strV z,.string ⟨#[]⟩,.slice none 0 0,.slice q19 (renSs th).length d19,.slice q22 (renSs el).length d22] 85,.box b5 [.int .i64 kd.toNat,strV nm,strV hd,.slice p1 ex.length c1,.slice p2 th.length c2,.slice p3 el.length c3] 85,.row 85 6 r k xs]) (fun z => z = ren0 nm) ?_ fun z hC => ?_
    ·
     refine .sr<|.yv (.fieldAddr Z Fx.field85_1) Z<|.yv (.load Z Fx.agg9 (.tail _<|.head _) Z) Z<|.yv (.neS Z Z) Z<|.nt<|.cd Z (fun h26 => ?_) (fun h26 => ?_)
     ·try simp only [dt] at h26
      have hnenm : nm ≠ [] := h26;exact .rg<|.yv (.fieldAddr Z Fx.field85_1) Z<|.yv (.load Z Fx.agg9 (.tail _<|.head _) Z) Z<|.yv (.app Z Z ((by simp only [List.length_append,List.length_cons,List.length_nil];omega))) Z<|.yv (.fieldAddr Z Fx.field85_1) Z<|.st .head Z Z Fx.size9 Z (nb Z) Z<|.nt<|.me (nm ++ [113]) trivial ⟨rfl,rfl,rfl,rfl,rfl,rfl,trivial⟩ (fun _ s => s) (ren0_ne hnenm).symm
     try simp only [df] at h26
     have hemnm : nm = [] := by simpa using h26
     exact .sk<|.tN<|.me [] trivial ⟨rfl,rfl,rfl,rfl,rfl,rfl,trivial⟩ (fun _ s => s) (by rw [hemnm];rfl)
    obtain rfl := hC;refine .cu (X := Str) [(3,_),(5,_),(6,_),(9,_),(10,_),(11,_)] ⟨rfl,rfl,rfl,rfl,rfl,rfl,trivial⟩ (fun z => []) (fun z => H22) (fun z => [.box b6 [.int .i64 kd.toNat,strV (ren0 nm),strV z,.slice none 0 0,.slice q19 (renSs th).length d19,.slice q22 (renSs el).length d22] 85,.box b5 [.int .i64 kd.toNat,strV nm,strV hd,.slice p1 ex.length c1,.slice p2 th.length c2,.slice p3 el.length c3] 85,.row 85 6 r k xs]) (fun z => z = ren0 hd) ?_ fun z hC => ?_
    ·
     refine .sr<|.yv (.fieldAddr Z Fx.field85_2) Z<|.yv (.load Z Fx.agg9 (.tail _<|.head _) Z) Z<|.yv (.neS Z Z) Z<|.nt<|.cd Z (fun h33 => ?_) (fun h33 => ?_)
     ·try simp only [dt] at h33
      have hnehd : hd ≠ [] := h33;exact .rg<|.yv (.fieldAddr Z Fx.field85_2) Z<|.yv (.load Z Fx.agg9 (.tail _<|.head _) Z) Z<|.yv (.app Z Z ((by simp only [List.length_append,List.length_cons,List.length_nil];omega))) Z<|.yv (.fieldAddr Z Fx.field85_2) Z<|.st .head Z Z Fx.size9 Z (nb Z) Z<|.nt<|.me (hd ++ [113]) trivial ⟨rfl,rfl,rfl,rfl,rfl,rfl,trivial⟩ (fun _ s => s) (ren0_ne hnehd).symm
     try simp only [df] at h33
     have hemhd : hd = [] := by simpa using h33
     exact .sk<|.tN<|.me [] trivial ⟨rfl,rfl,rfl,rfl,rfl,rfl,trivial⟩ (fun _ s => s) (by rw [hemhd];rfl)
    obtain rfl := hC;refine .sq<|.sr<|.yv (.fieldAddr Z Fx.field85_3) Z<|.yv (.load Z Fx.agg56 (.tail _<|.head _) Z) Z<|.yv (.lenSl Fx.sl56 Z) Z<|.m Z Z<|?_
    refine Sx.row0 58 4 ?_;refine .nt<|.bk<|.lp (X := Nat × Hp × Value × List Value) [(3,_),(6,_),(9,_),(10,_),(11,_),(39,_),(40,_)] ⟨rfl,rfl,rfl,rfl,rfl,rfl,rfl,trivial⟩ [_,_] (fun z => [(41,.int .i64 (z.1 : Nat))]) (fun z => z.2.1) (fun z => [.row 58 4 z.2.2.1 z.1 z.2.2.2,.box b6 [.int .i64 kd.toNat,strV (ren0 nm),strV (ren0 hd),z.2.2.1,.slice q19 (renSs th).length d19,.slice q22 (renSs el).length d22] 85]) (fun z => z.1 ≤ ex.length ∧ HUp w H22 z.2.1 ∧ RepZ z.2.1 4 (((ex.take z.1).map renE).map (dEx .i64)) z.2.2.2) (fun z => ex.length - z.1) (0,H22,.slice none 0 0,[]) (fun _ s => s) ⟨rfl,trivial⟩ ⟨by simp,.refl,RepZ.nil⟩ fun z hC => ?_
    obtain ⟨j,H3,re,ys⟩ := z;dsimp only at hC ⊢;obtain ⟨hj0,u3,hze⟩ := hC;refine .sr<|.yv (.lss Z Z) Z<|.nt<|.sq<|.cd Z (fun h42 => ?_) (fun h42 => ?_)
    ·try simp only [dt] at h42
     have hj : j < ex.length := by omega
     obtain ⟨bF,oF,cF,hpF,rF,lF,mF⟩ := (hs1b.up u3.up).elem (map_at (f := dEx .i64) hj);cases hpF;have hnj : Ex.all narrow ex[j] = true := List.all_eq_true.1 k5 _ (List.getElem_mem hj);have hgj := lalls_at hj hgx;refine .sk<|.tN<|.sq<|.bk<|.sr<|.yv (.indexSl Fx.sl56 Z Z Z (by omega) (q := oF + j * 4) Z) Z<|.yv (.loadMW Z Fx.agg58 mF lF) Z<|.al Fx.zero58 Z fun b8 => .sV .head Z Z Fx.size58 lF rF.one Z<|.nt<|.fl (trip := [(_,_,_),(_,_,_),(_,_,_),(_,_,_),(_,_,_)]) 5 [(0,0),(1,0),(2,0),(3,1),(4,1)] (by kernel_rfl) (by kernel_rfl) Z<|.yv (.fieldAddr Z Fx.field85_3) Z<|.yv (.load Z Fx.agg56 (.tail _<|.tail _<|.head _) Z) Z<|.yv (.loadW Z Fx.agg58 (.head _) lF) Z<|.ct (X := List Value) Fx.call75 Z (fun W s => ren_any _ hnj hgj H3 cF W rF s.agr) Z fun x48 H48 hx48 u48 => ?_
     generalize hxj : ex[j] = xj at hx48;obtain ⟨op2,nm2,n2,a2⟩ := xj;have hx48b := hx48;rw [renE_mk] at hx48b;obtain ⟨pz,cz,rfl,hz2,hnm2⟩ := ex_open hx48b;generalize renEs a2 = args2 at hz2 hx48 ⊢;exact .bl Z (Fx.bsl56_1 _ _ _ _) Z fun b49 => .fn (tl := [_,_,_]) Z<|.ap (news := [.int .i64 op2.toNat,strV (ren0 nm2),.int .i64 n2.toInt,.slice pz args2.length cz]) Fx.row56 Z (fun _ => (.tail<|.tail<|.head)) Z (.box (.head _) z0) Z (by simp [Value.oneCell',strV]) (by simp [maxLen];omega) (by omega) Z fun r50 _ => .ra (.tail _<|.tail _<|.head _) fun p50 c50 e50 => .yv (.fieldAddr Z Fx.field85_3) Z<|.st (.tail<|.tail<|.tail<|.head) Z Z Fx.size56 (by rw [e50];rfl) (nb Z) Z<|.nl<|.bN<|.tN<|.rg<|.yv (.add Z Z (w6 (by omega))) Z<|.m Z Z<|.nt<|.ag (x := (j,H3,re,ys)) (j + 1,H48,r50,ys ++ [.int .i64 op2.toNat,strV (ren0 nm2),.int .i64 n2.toInt,.slice pz args2.length cz]) ⟨rfl,trivial⟩ ⟨rfl,rfl,rfl,rfl,rfl,rfl,rfl,trivial⟩ (fun _ s => (s.pick [2,3,4,5] _ Z Z)) ⟨by dsimp only;omega,u3.trans u48,by dsimp only;rw [take_snoc hj,hxj,List.map_append,List.map_append];exact (hze.up u48.up).snoc hx48 Z⟩ (by dsimp only;omega)
    try simp only [df] at h42
    obtain rfl : j = ex.length := by omega
    rw [List.take_length] at hze;refine Sx.freezeSeq (ds := (ex.map renE).map (dEx .i64)) (by simp) hze fun HX pX cX u6 eX hX => ?_;subst eX;have uX := u5.trans (u3.trans u6);have hy19X := hy19b.up (u3.trans u6).up;have hy22X := hy22.up (u3.trans u6).up;exact .ex<|.tE<|.tE<|.bE<|.tN<|.rg<|.m Z Z<|.yv (.loadW Z Fx.agg85 (.head _) Z) Z<|.bl Z (Fx.bsl80_1 _ _ _ _ _ _) Z fun b55 => .ap (news := [.int .i64 kd.toNat,strV (ren0 nm),strV (ren0 hd),.slice pX ex.length cX,.slice q19 (renSs th).length d19,.slice q22 (renSs el).length d22]) Fx.row80 Z (fun _ => (.tail<|.tail<|.tail<|.head)) Z (.box (.head _) z0) Z (by simp [Value.oneCell',strV]) (by simp [maxLen];omega) (by omega) Z fun r56 _ => .a Z Z<|.nl<|.bN<|.tN<|.rg<|.yv (.add Z Z (w6 (by omega))) Z<|.m Z Z<|.nt<|.ag (x := (k,H1,r,xs)) (k + 1,HX,r56,xs ++ [.int .i64 kd.toNat,strV (ren0 nm),strV (ren0 hd),.slice pX ex.length cX,.slice q19 (renSs th).length d19,.slice q22 (renSs el).length d22]) ⟨rfl,rfl,trivial⟩ ⟨rfl,rfl,trivial⟩ (fun _ s => (s.pick [3] _ Z Z)) ⟨by dsimp only;omega,u1.trans uX,by dsimp only;rw [take_snoc hk,hx,List.map_append,List.map_append];exact (hz.up uX.up).snoc (sm_ren hgn hgh hX hy19X hy22X) Z⟩ (by dsimp only;omega)
   refine .al Fx.zero85 Z fun b6 => .h1<|.ct (X := Value) Fx.call37 Z (fun W s => hie H19 _ W (hs3.up u19.up) s.agr) Z fun y22 H22 hy22 u22 => ?_
   obtain ⟨q22,d22,e22,_⟩ := hy22.sl;simp only [List.cons.injEq,and_true,List.length_map] at e22;subst e22;have u5 := u19.trans u22;have hs1b := hs1.up u5.up;have hy19b := hy19.up u22.up;refine .yv (.build Z (Fx.bld85_0_4_5 _ _ _ _ _ _ _)) Z<|.fn (tl := [_]) Z<|.sW .head Z Z Fx.size85 (by simp [Value.oneCell',strV]) Z<|.nt<|.cu (X := Str) [(3,_),(5,_),(6,_),(9,_),(10,_),(11,_)] ⟨rfl,rfl,rfl,rfl,rfl,rfl,trivial⟩ (fun z => []) (fun z => H22) (fun z => [.box b6 [.int .i64 kd.toNat,strV z,.string ⟨#[]⟩,.slice none 0 0,.slice q19 (renSs th).length d19,.slice q22 (renSs el).length d22] 85,.box b5 [.int .i64 kd.toNat,strV nm,strV hd,.slice p1 ex.length c1,.slice p2 th.length c2,.slice p3 el.length c3] 85,.row 85 6 r k xs]) (fun z => z = ren0 nm) ?_ fun z hC => ?_
   ·
    refine .sr<|.yv (.fieldAddr Z Fx.field85_1) Z<|.yv (.load Z Fx.agg9 (.tail _<|.head _) Z) Z<|.yv (.neS Z Z) Z<|.nt<|.cd Z (fun h26 => ?_) (fun h26 => ?_)
    ·try simp only [dt] at h26
     have hnenm : nm ≠ [] := h26;exact .rg<|.yv (.fieldAddr Z Fx.field85_1) Z<|.yv (.load Z Fx.agg9 (.tail _<|.head _) Z) Z<|.yv (.app Z Z ((by simp only [List.length_append,List.length_cons,List.length_nil];omega))) Z<|.yv (.fieldAddr Z Fx.field85_1) Z<|.st .head Z Z Fx.size9 Z (nb Z) Z<|.nt<|.me (nm ++ [113]) trivial ⟨rfl,rfl,rfl,rfl,rfl,rfl,trivial⟩ (fun _ s => s) (ren0_ne hnenm).symm
    try simp only [df] at h26
    have hemnm : nm = [] := by simpa using h26
    exact .sk<|.tN<|.me [] trivial ⟨rfl,rfl,rfl,rfl,rfl,rfl,trivial⟩ (fun _ s => s) (by rw [hemnm];rfl)
   obtain rfl := hC;refine .cu (X := Str) [(3,_),(5,_),(6,_),(9,_),(10,_),(11,_)] ⟨rfl,rfl,rfl,rfl,rfl,rfl,trivial⟩ (fun z => []) (fun z => H22) (fun z => [.box b6 [.int .i64 kd.toNat,strV (ren0 nm),strV z,.slice none 0 0,.slice q19 (renSs th).length d19,.slice q22 (renSs el).length d22] 85,.box b5 [.int .i64 kd.toNat,strV nm,strV hd,.slice p1 ex.length c1,.slice p2 th.length c2,.slice p3 el.length c3] 85,.row 85 6 r k xs]) (fun z => z = ren0 hd) ?_ fun z hC => ?_
   ·
    refine .sr<|.yv (.fieldAddr Z Fx.field85_2) Z<|.yv (.load Z Fx.agg9 (.tail _<|.head _) Z) Z<|.yv (.neS Z Z) Z<|.nt<|.cd Z (fun h33 => ?_) (fun h33 => ?_)
    ·try simp only [dt] at h33
     have hnehd : hd ≠ [] := h33;exact .rg<|.yv (.fieldAddr Z Fx.field85_2) Z<|.yv (.load Z Fx.agg9 (.tail _<|.head _) Z) Z<|.yv (.app Z Z ((by simp only [List.length_append,List.length_cons,List.length_nil];omega))) Z<|.yv (.fieldAddr Z Fx.field85_2) Z<|.st .head Z Z Fx.size9 Z (nb Z) Z<|.nt<|.me (hd ++ [113]) trivial ⟨rfl,rfl,rfl,rfl,rfl,rfl,trivial⟩ (fun _ s => s) (ren0_ne hnehd).symm
    try simp only [df] at h33
    have hemhd : hd = [] := by simpa using h33
    exact .sk<|.tN<|.me [] trivial ⟨rfl,rfl,rfl,rfl,rfl,rfl,trivial⟩ (fun _ s => s) (by rw [hemhd];rfl)
   obtain rfl := hC;refine .sq<|.sr<|.yv (.fieldAddr Z Fx.field85_3) Z<|.yv (.load Z Fx.agg56 (.tail _<|.head _) Z) Z<|.yv (.lenSl Fx.sl56 Z) Z<|.m Z Z<|?_
   refine Sx.row0 58 4 ?_;refine .nt<|.bk<|.lp (X := Nat × Hp × Value × List Value) [(3,_),(6,_),(9,_),(10,_),(11,_),(39,_),(40,_)] ⟨rfl,rfl,rfl,rfl,rfl,rfl,rfl,trivial⟩ [_,_] (fun z => [(41,.int .i64 (z.1 : Nat))]) (fun z => z.2.1) (fun z => [.row 58 4 z.2.2.1 z.1 z.2.2.2,.box b6 [.int .i64 kd.toNat,strV (ren0 nm),strV (ren0 hd),z.2.2.1,.slice q19 (renSs th).length d19,.slice q22 (renSs el).length d22] 85]) (fun z => z.1 ≤ ex.length ∧ HUp w H22 z.2.1 ∧ RepZ z.2.1 4 (((ex.take z.1).map renE).map (dEx .i64)) z.2.2.2) (fun z => ex.length - z.1) (0,H22,.slice none 0 0,[]) (fun _ s => s) ⟨rfl,trivial⟩ ⟨by simp,.refl,RepZ.nil⟩ fun z hC => ?_
   obtain ⟨j,H3,re,ys⟩ := z;dsimp only at hC ⊢;obtain ⟨hj0,u3,hze⟩ := hC;refine .sr<|.yv (.lss Z Z) Z<|.nt<|.sq<|.cd Z (fun h42 => ?_) (fun h42 => ?_)
   ·try simp only [dt] at h42
    have hj : j < ex.length := by omega
    obtain ⟨bF,oF,cF,hpF,rF,lF,mF⟩ := (hs1b.up u3.up).elem (map_at (f := dEx .i64) hj);cases hpF;have hnj : Ex.all narrow ex[j] = true := List.all_eq_true.1 k5 _ (List.getElem_mem hj);have hgj := lalls_at hj hgx;refine .sk<|.tN<|.sq<|.bk<|.sr<|.yv (.indexSl Fx.sl56 Z Z Z (by omega) (q := oF + j * 4) Z) Z<|.yv (.loadMW Z Fx.agg58 mF lF) Z<|.al Fx.zero58 Z fun b8 => .sV .head Z Z Fx.size58 lF rF.one Z<|.nt<|.fl (trip := [(_,_,_),(_,_,_),(_,_,_),(_,_,_),(_,_,_)]) 5 [(0,0),(1,0),(2,0),(3,1),(4,1)] (by kernel_rfl) (by kernel_rfl) Z<|.yv (.fieldAddr Z Fx.field85_3) Z<|.yv (.load Z Fx.agg56 (.tail _<|.tail _<|.head _) Z) Z<|.yv (.loadW Z Fx.agg58 (.head _) lF) Z<|.ct (X := List Value) Fx.call75 Z (fun W s => ren_any _ hnj hgj H3 cF W rF s.agr) Z fun x48 H48 hx48 u48 => ?_
    generalize hxj : ex[j] = xj at hx48;obtain ⟨op2,nm2,n2,a2⟩ := xj;have hx48b := hx48;rw [renE_mk] at hx48b;obtain ⟨pz,cz,rfl,hz2,hnm2⟩ := ex_open hx48b;generalize renEs a2 = args2 at hz2 hx48 ⊢;exact .bl Z (Fx.bsl56_1 _ _ _ _) Z fun b49 => .fn (tl := [_,_,_]) Z<|.ap (news := [.int .i64 op2.toNat,strV (ren0 nm2),.int .i64 n2.toInt,.slice pz args2.length cz]) Fx.row56 Z (fun _ => (.tail<|.tail<|.head)) Z (.box (.head _) z0) Z (by simp [Value.oneCell',strV]) (by simp [maxLen];omega) (by omega) Z fun r50 _ => .ra (.tail _<|.tail _<|.head _) fun p50 c50 e50 => .yv (.fieldAddr Z Fx.field85_3) Z<|.st (.tail<|.tail<|.tail<|.head) Z Z Fx.size56 (by rw [e50];rfl) (nb Z) Z<|.nl<|.bN<|.tN<|.rg<|.yv (.add Z Z (w6 (by omega))) Z<|.m Z Z<|.nt<|.ag (x := (j,H3,re,ys)) (j + 1,H48,r50,ys ++ [.int .i64 op2.toNat,strV (ren0 nm2),.int .i64 n2.toInt,.slice pz args2.length cz]) ⟨rfl,trivial⟩ ⟨rfl,rfl,rfl,rfl,rfl,rfl,rfl,trivial⟩ (fun _ s => (s.pick [2,3,4,5] _ Z Z)) ⟨by dsimp only;omega,u3.trans u48,by dsimp only;rw [take_snoc hj,hxj,List.map_append,List.map_append];exact (hze.up u48.up).snoc hx48 Z⟩ (by dsimp only;omega)
   try simp only [df] at h42
   obtain rfl : j = ex.length := by omega
   rw [List.take_length] at hze;refine Sx.freezeSeq (ds := (ex.map renE).map (dEx .i64)) (by simp) hze fun HX pX cX u6 eX hX => ?_;subst eX;have uX := u5.trans (u3.trans u6);have hy19X := hy19b.up (u3.trans u6).up;have hy22X := hy22.up (u3.trans u6).up;exact .ex<|.tE<|.tE<|.bE<|.tN<|.rg<|.m Z Z<|.yv (.loadW Z Fx.agg85 (.head _) Z) Z<|.bl Z (Fx.bsl80_1 _ _ _ _ _ _) Z fun b55 => .ap (news := [.int .i64 kd.toNat,strV (ren0 nm),strV (ren0 hd),.slice pX ex.length cX,.slice q19 (renSs th).length d19,.slice q22 (renSs el).length d22]) Fx.row80 Z (fun _ => (.tail<|.tail<|.tail<|.head)) Z (.box (.head _) z0) Z (by simp [Value.oneCell',strV]) (by simp [maxLen];omega) (by omega) Z fun r56 _ => .a Z Z<|.nl<|.bN<|.tN<|.rg<|.yv (.add Z Z (w6 (by omega))) Z<|.m Z Z<|.nt<|.ag (x := (k,H1,r,xs)) (k + 1,HX,r56,xs ++ [.int .i64 kd.toNat,strV (ren0 nm),strV (ren0 hd),.slice pX ex.length cX,.slice q19 (renSs th).length d19,.slice q22 (renSs el).length d22]) ⟨rfl,rfl,trivial⟩ ⟨rfl,rfl,trivial⟩ (fun _ s => (s.pick [3] _ Z Z)) ⟨by dsimp only;omega,u1.trans uX,by dsimp only;rw [take_snoc hk,hx,List.map_append,List.map_append];exact (hz.up uX.up).snoc (sm_ren hgn hgh hX hy19X hy22X) Z⟩ (by dsimp only;omega)
  refine .al Fx.zero85 Z fun b6 => .h1<|.ct (X := Value) Fx.call37 Z (fun W s => hit H1 _ W hs2 s.agr) Z fun y19 H19 hy19 u19 => ?_
  obtain ⟨q19,d19,e19,_⟩ := hy19.sl;simp only [List.cons.injEq,and_true,List.length_map] at e19;subst e19;refine .h1<|.ct (X := Value) Fx.call37 Z (fun W s => hie H19 _ W (hs3.up u19.up) s.agr) Z fun y22 H22 hy22 u22 => ?_
  obtain ⟨q22,d22,e22,_⟩ := hy22.sl;simp only [List.cons.injEq,and_true,List.length_map] at e22;subst e22;have u5 := u19.trans u22;have hs1b := hs1.up u5.up;have hy19b := hy19.up u22.up;refine .yv (.build Z (Fx.bld85_0_4_5 _ _ _ _ _ _ _)) Z<|.fn (tl := [_]) Z<|.sW .head Z Z Fx.size85 (by simp [Value.oneCell',strV]) Z<|.nt<|.cu (X := Str) [(3,_),(5,_),(6,_),(9,_),(10,_),(11,_)] ⟨rfl,rfl,rfl,rfl,rfl,rfl,trivial⟩ (fun z => []) (fun z => H22) (fun z => [.box b6 [.int .i64 kd.toNat,strV z,.string ⟨#[]⟩,.slice none 0 0,.slice q19 (renSs th).length d19,.slice q22 (renSs el).length d22] 85,.box b5 [.int .i64 kd.toNat,strV nm,strV hd,.slice p1 ex.length c1,.slice p2 th.length c2,.slice p3 el.length c3] 85,.row 85 6 r k xs]) (fun z => z = ren0 nm) ?_ fun z hC => ?_
  ·
   refine .sr<|.yv (.fieldAddr Z Fx.field85_1) Z<|.yv (.load Z Fx.agg9 (.tail _<|.head _) Z) Z<|.yv (.neS Z Z) Z<|.nt<|.cd Z (fun h26 => ?_) (fun h26 => ?_)
   ·try simp only [dt] at h26
    have hnenm : nm ≠ [] := h26;exact .rg<|.yv (.fieldAddr Z Fx.field85_1) Z<|.yv (.load Z Fx.agg9 (.tail _<|.head _) Z) Z<|.yv (.app Z Z ((by simp only [List.length_append,List.length_cons,List.length_nil];omega))) Z<|.yv (.fieldAddr Z Fx.field85_1) Z<|.st .head Z Z Fx.size9 Z (nb Z) Z<|.nt<|.me (nm ++ [113]) trivial ⟨rfl,rfl,rfl,rfl,rfl,rfl,trivial⟩ (fun _ s => s) (ren0_ne hnenm).symm
   try simp only [df] at h26
   have hemnm : nm = [] := by simpa using h26
   exact .sk<|.tN<|.me [] trivial ⟨rfl,rfl,rfl,rfl,rfl,rfl,trivial⟩ (fun _ s => s) (by rw [hemnm];rfl)
  obtain rfl := hC;refine .cu (X := Str) [(3,_),(5,_),(6,_),(9,_),(10,_),(11,_)] ⟨rfl,rfl,rfl,rfl,rfl,rfl,trivial⟩ (fun z => []) (fun z => H22) (fun z => [.box b6 [.int .i64 kd.toNat,strV (ren0 nm),strV z,.slice none 0 0,.slice q19 (renSs th).length d19,.slice q22 (renSs el).length d22] 85,.box b5 [.int .i64 kd.toNat,strV nm,strV hd,.slice p1 ex.length c1,.slice p2 th.length c2,.slice p3 el.length c3] 85,.row 85 6 r k xs]) (fun z => z = ren0 hd) ?_ fun z hC => ?_
  ·
   refine .sr<|.yv (.fieldAddr Z Fx.field85_2) Z<|.yv (.load Z Fx.agg9 (.tail _<|.head _) Z) Z<|.yv (.neS Z Z) Z<|.nt<|.cd Z (fun h33 => ?_) (fun h33 => ?_)
   ·try simp only [dt] at h33
    have hnehd : hd ≠ [] := h33;exact .rg<|.yv (.fieldAddr Z Fx.field85_2) Z<|.yv (.load Z Fx.agg9 (.tail _<|.head _) Z) Z<|.yv (.app Z Z ((by simp only [List.length_append,List.length_cons,List.length_nil];omega))) Z<|.yv (.fieldAddr Z Fx.field85_2) Z<|.st .head Z Z Fx.size9 Z (nb Z) Z<|.nt<|.me (hd ++ [113]) trivial ⟨rfl,rfl,rfl,rfl,rfl,rfl,trivial⟩ (fun _ s => s) (ren0_ne hnehd).symm
   try simp only [df] at h33
   have hemhd : hd = [] := by simpa using h33
   exact .sk<|.tN<|.me [] trivial ⟨rfl,rfl,rfl,rfl,rfl,rfl,trivial⟩ (fun _ s => s) (by rw [hemhd];rfl)
  obtain rfl := hC;refine .sq<|.sr<|.yv (.fieldAddr Z Fx.field85_3) Z<|.yv (.load Z Fx.agg56 (.tail _<|.head _) Z) Z<|.yv (.lenSl Fx.sl56 Z) Z<|.m Z Z<|?_
  refine Sx.row0 58 4 ?_;refine .nt<|.bk<|.lp (X := Nat × Hp × Value × List Value) [(3,_),(6,_),(9,_),(10,_),(11,_),(39,_),(40,_)] ⟨rfl,rfl,rfl,rfl,rfl,rfl,rfl,trivial⟩ [_,_] (fun z => [(41,.int .i64 (z.1 : Nat))]) (fun z => z.2.1) (fun z => [.row 58 4 z.2.2.1 z.1 z.2.2.2,.box b6 [.int .i64 kd.toNat,strV (ren0 nm),strV (ren0 hd),z.2.2.1,.slice q19 (renSs th).length d19,.slice q22 (renSs el).length d22] 85]) (fun z => z.1 ≤ ex.length ∧ HUp w H22 z.2.1 ∧ RepZ z.2.1 4 (((ex.take z.1).map renE).map (dEx .i64)) z.2.2.2) (fun z => ex.length - z.1) (0,H22,.slice none 0 0,[]) (fun _ s => s) ⟨rfl,trivial⟩ ⟨by simp,.refl,RepZ.nil⟩ fun z hC => ?_
  obtain ⟨j,H3,re,ys⟩ := z;dsimp only at hC ⊢;obtain ⟨hj0,u3,hze⟩ := hC;refine .sr<|.yv (.lss Z Z) Z<|.nt<|.sq<|.cd Z (fun h42 => ?_) (fun h42 => ?_)
  ·try simp only [dt] at h42
   have hj : j < ex.length := by omega
   obtain ⟨bF,oF,cF,hpF,rF,lF,mF⟩ := (hs1b.up u3.up).elem (map_at (f := dEx .i64) hj);cases hpF;have hnj : Ex.all narrow ex[j] = true := List.all_eq_true.1 k5 _ (List.getElem_mem hj);have hgj := lalls_at hj hgx;refine .sk<|.tN<|.sq<|.bk<|.sr<|.yv (.indexSl Fx.sl56 Z Z Z (by omega) (q := oF + j * 4) Z) Z<|.yv (.loadMW Z Fx.agg58 mF lF) Z<|.al Fx.zero58 Z fun b8 => .sV .head Z Z Fx.size58 lF rF.one Z<|.nt<|.fl (trip := [(_,_,_),(_,_,_),(_,_,_),(_,_,_),(_,_,_)]) 5 [(0,0),(1,0),(2,0),(3,1),(4,1)] (by kernel_rfl) (by kernel_rfl) Z<|.yv (.fieldAddr Z Fx.field85_3) Z<|.yv (.load Z Fx.agg56 (.tail _<|.tail _<|.head _) Z) Z<|.yv (.loadW Z Fx.agg58 (.head _) lF) Z<|.ct (X := List Value) Fx.call75 Z (fun W s => ren_any _ hnj hgj H3 cF W rF s.agr) Z fun x48 H48 hx48 u48 => ?_
   generalize hxj : ex[j] = xj at hx48;obtain ⟨op2,nm2,n2,a2⟩ := xj;have hx48b := hx48;rw [renE_mk] at hx48b;obtain ⟨pz,cz,rfl,hz2,hnm2⟩ := ex_open hx48b;generalize renEs a2 = args2 at hz2 hx48 ⊢;exact .bl Z (Fx.bsl56_1 _ _ _ _) Z fun b49 => .fn (tl := [_,_,_]) Z<|.ap (news := [.int .i64 op2.toNat,strV (ren0 nm2),.int .i64 n2.toInt,.slice pz args2.length cz]) Fx.row56 Z (fun _ => (.tail<|.tail<|.head)) Z (.box (.head _) z0) Z (by simp [Value.oneCell',strV]) (by simp [maxLen];omega) (by omega) Z fun r50 _ => .ra (.tail _<|.tail _<|.head _) fun p50 c50 e50 => .yv (.fieldAddr Z Fx.field85_3) Z<|.st (.tail<|.tail<|.tail<|.head) Z Z Fx.size56 (by rw [e50];rfl) (nb Z) Z<|.nl<|.bN<|.tN<|.rg<|.yv (.add Z Z (w6 (by omega))) Z<|.m Z Z<|.nt<|.ag (x := (j,H3,re,ys)) (j + 1,H48,r50,ys ++ [.int .i64 op2.toNat,strV (ren0 nm2),.int .i64 n2.toInt,.slice pz args2.length cz]) ⟨rfl,trivial⟩ ⟨rfl,rfl,rfl,rfl,rfl,rfl,rfl,trivial⟩ (fun _ s => (s.pick [2,3,4,5] _ Z Z)) ⟨by dsimp only;omega,u3.trans u48,by dsimp only;rw [take_snoc hj,hxj,List.map_append,List.map_append];exact (hze.up u48.up).snoc hx48 Z⟩ (by dsimp only;omega)
  try simp only [df] at h42
  obtain rfl : j = ex.length := by omega
  rw [List.take_length] at hze;refine Sx.freezeSeq (ds := (ex.map renE).map (dEx .i64)) (by simp) hze fun HX pX cX u6 eX hX => ?_;subst eX;have uX := u5.trans (u3.trans u6);have hy19X := hy19b.up (u3.trans u6).up;have hy22X := hy22.up (u3.trans u6).up;exact .ex<|.tE<|.tE<|.bE<|.tN<|.rg<|.m Z Z<|.yv (.loadW Z Fx.agg85 (.head _) Z) Z<|.bl Z (Fx.bsl80_1 _ _ _ _ _ _) Z fun b55 => .ap (news := [.int .i64 kd.toNat,strV (ren0 nm),strV (ren0 hd),.slice pX ex.length cX,.slice q19 (renSs th).length d19,.slice q22 (renSs el).length d22]) Fx.row80 Z (fun _ => (.tail<|.tail<|.tail<|.head)) Z (.box (.head _) z0) Z (by simp [Value.oneCell',strV]) (by simp [maxLen];omega) (by omega) Z fun r56 _ => .a Z Z<|.nl<|.bN<|.tN<|.rg<|.yv (.add Z Z (w6 (by omega))) Z<|.m Z Z<|.nt<|.ag (x := (k,H1,r,xs)) (k + 1,HX,r56,xs ++ [.int .i64 kd.toNat,strV (ren0 nm),strV (ren0 hd),.slice pX ex.length cX,.slice q19 (renSs th).length d19,.slice q22 (renSs el).length d22]) ⟨rfl,rfl,trivial⟩ ⟨rfl,rfl,trivial⟩ (fun _ s => (s.pick [3] _ Z Z)) ⟨by dsimp only;omega,u1.trans uX,by dsimp only;rw [take_snoc hk,hx,List.map_append,List.map_append];exact (hz.up uX.up).snoc (sm_ren hgn hgh hX hy19X hy22X) Z⟩ (by dsimp only;omega)
 try simp only [df] at h12
 obtain rfl : k = l.length := by omega
 rw [List.take_length] at hz;refine .ex<|.tE<|.tE<|.bE<|.tN<|.sr<|.m Z Z<|.a Z Z<|.nt<|.rt<|?_
 refine Sx.freezeSeq (ds := (l.map renS).map (dSm .i64)) (by simp) hz fun HZ pZ cZ uZ eZ hZ => ?_;exact Sx.ret1 (.inl rfl) rfl (.tmp rfl) fun W t => ⟨r,HZ,by rw [renSs_map];exact hZ,rfl,(u1.trans uZ).grow t⟩
end Go.Proofs.YtohfacbajcenoaaGreatDoor
namespace Go.Sx
open Go.RowKit Go.Par
theorem At.rp {dfs : List Deferred} {n : Nat} {L : Sl} {H : Hp} {w0 : World} {bs : List Res} {e : TypeId} {r : Value} {xs : List Value} {G : Act → World → Prop} (hm : Res.ps e r xs ∈ bs) (h : ∀ p c,r = .slice p xs.length c → At dfs n L H w0 bs G) : At dfs n L H w0 bs G := fun a W f s => by
 have ho : ownsPs W w0.heap.size e r xs := (s.own _ hm).1;rcases ho with ⟨rfl,rfl⟩ | ⟨g,cap,cur,rfl,_⟩
 ·exact h none 0 rfl a W f s
 ·exact h _ cap rfl a W f s
end Go.Sx
namespace Go.Proofs.YtohfacbajcenoaaGreatDoor
open Go.RowKit Go.Par Go.Sx
theorem Fx.bld82_0_2 (x0 : ByteArray) (x2p : Option Addr) (x2n x2c : Nat) : buildN Tryz.prog 82 [(0,.string x0),(2,.slice x2p x2n x2c)] = some [.string x0,.slice none 0 0,.slice x2p x2n x2c] := by kernel_rfl
theorem lk_ren8 {H : Hp} {x : Lk} (h1 : gdN x.fr = true) (h2 : gdN x.to = true) : Rep H (dLk (renL x)) [strV (ren0 x.fr),strV (ren0 x.to),.int .i64 x.lat.toInt] :=
 lk_shut (x := renL x) (by have := goe_len (goe_of h1);show (ren0 x.fr).length ≤ _;omega) (by have := goe_len (goe_of h2);show (ren0 x.to).length ≤ _;omega)
theorem hd_ren8 {H : Hp} {y : Hd} {p1 p2 : Option Addr} {c1 c2 : Nat} (hn : gdN y.nm = true) (h1 : Rep H (.ps ((y.ps.map ren0).map strV)) [.slice p1 (y.ps.map ren0).length c1]) (h2 : Rep H (.seq 6 ((renSs y.body).map (dSm .i64))) [.slice p2 (renSs y.body).length c2]) :
 Rep H (dHd .i64 (renH y)) [strV (ren0 y.nm),.slice p1 (y.ps.map ren0).length c1,.slice p2 (renSs y.body).length c2] :=
 hd_shut (x := renH y) (by have := goe_len (goe_of hn);show (ren0 y.nm).length ≤ _;omega) h1 h2
theorem cp_ren8 {H : Hp} {x : Cp} {p1 p2 : Option Addr} {c1 c2 : Nat} (hn : gdN x.nm = true) (h1 : Rep H (.seq 3 ((x.vars.map renV).map (dVr .i64))) [.slice p1 x.vars.length c1]) (h2 : Rep H (.seq 1 ((x.vers.map fun v => v.map renH).map (dVs .i64))) [.slice p2 x.vers.length c2]) :
 Rep H (dCp .i64 (renC x)) [strV (ren0 x.nm),.slice p1 x.vars.length c1,.slice p2 x.vers.length c2] := by
 exact cp_shut (x := renC x) (by have := goe_len (goe_of hn);show (ren0 x.nm).length ≤ _;omega) h1 h2
theorem ft_ren8 {H : Hp} {f : Ft} {p1 p2 p3 : Option Addr} {c1 c2 c3 : Nat} (hn : gdN f.nm = true) (h1 : Rep H (.seq 2 ((f.flags.map renG).map dFg)) [.slice p1 f.flags.length c1]) (h2 : Rep H (.seq 3 ((f.links.map renL).map dLk)) [.slice p2 f.links.length c2]) (h3 : Rep H (.seq 3 ((f.comps.map renC).map (dCp .i64))) [.slice p3 f.comps.length c3]) :
 Rep H (dFt .i64 (otherF f)) [strV (ren0 f.nm),.slice p1 f.flags.length c1,.slice p2 f.links.length c2,.slice p3 f.comps.length c3] := by
 exact ft_shut (x := otherF f) (by have := goe_len (goe_of hn);show (ren0 f.nm).length ≤ _;omega) h1 h2 h3
set_option maxHeartbeats 4000000 in
set_option maxRecDepth 100000 in
theorem other8_any (N : Nat) (hN : N ≤ 1000000) (H : Hp) (f : Ft) (hok : syFt N f) (hgd : gdF f) (cs : List Value) (w : World) (h : Rep H (dFt .i64 f) cs) (hA : Agr H w) :
 Calls Tryz.prog 14 #[.agg cs.toArray] w fun r w' => ∃ (y : List Value) (H' : Hp),Rep H' (dFt .i64 (otherF f)) y ∧ r = .returned (.agg y.toArray) ∧ Grow H w H' w' := by
 obtain ⟨p1,c1,p2,c2,p3,c3,rfl,nf,k1,k2,k3⟩ := ft_open h;have hcap1 := k1.cap;have hcap2 := k2.cap;have hcap3 := k3.cap;have hfl := hok.flags;have hll := hok.links;have hcl := hok.comps;refine Sx.enter (H := H) Tryz.func14 rfl Tryz.ntmps14 rfl hA ?_;refine .sr<|.bx Z Z Z fun b1 => .al Fx.zero31 Z fun b2 => .ns<|.yv (.fieldAddr Z Fx.field31_0) Z<|.yv (.load Z Fx.agg9 (.tail _<|.head _) Z) Z<|.yv (.cast (v' := strV (ren0 f.nm)) (.app (a := f.nm) (b := [113]) Z Z (by have := gd_len hgd.1;simp only [List.length_append,List.length_cons,List.length_nil] at this ⊢;omega)) (by rw [gd_ren hgd.1];rfl)) Z<|.yv (.build Z (Fx.bld31_0 _)) Z<|.al Fx.zero31 Z fun b3 => .sW .head Z Z Fx.size31 (by simp [Value.oneCell',strV]) Z<|.nt<|.sq<|.sr<|.yv (.fieldAddr Z Fx.field31_1) Z<|.yv (.load Z Fx.agg27 (.tail _<|.tail _<|.head _) Z) Z<|.yv (.lenSl Fx.sl27 Z) Z<|.m Z Z<|?_
 refine Sx.row0 88 2 ?_;refine .nt<|.bk<|.lp (X := Nat × Value × List Value) [(1,_),(2,_),(3,_),(26,_),(27,_)] ⟨rfl,rfl,rfl,rfl,rfl,trivial⟩ [_,_] (fun z => [(28,.int .i64 (z.1 : Nat))]) (fun z => H) (fun z => [.row 88 2 z.2.1 z.1 z.2.2,.box b3 [strV (ren0 f.nm),z.2.1,.slice none 0 0,.slice none 0 0] 31]) (fun z => z.1 ≤ f.flags.length ∧ RepZ H 2 (((f.flags.take z.1).map renG).map dFg) z.2.2) (fun z => f.flags.length - z.1) (0,.slice none 0 0,[]) (fun _ s => s) ⟨rfl,trivial⟩ ⟨by simp,RepZ.nil⟩ fun z hC => ?_
 obtain ⟨k,r,xs⟩ := z;dsimp only at hC ⊢;obtain ⟨hk0,hz⟩ := hC;refine .sr<|.yv (.lss Z Z) Z<|.nt<|.sq<|.cd Z (fun h29 => ?_) (fun h29 => ?_)
 ·try simp only [dt] at h29
  have hk : k < f.flags.length := by omega
  obtain ⟨bE,oE,cE,hpE,rE,lE,mE⟩ := k1.elem (map_at (f := dFg) hk);cases hpE;have hgx := hgd.2.1 _ (List.getElem_mem hk);generalize hx : f.flags[k] = x at rE hgx;obtain ⟨rfl,nx⟩ := fg_open rE;exact .sk<|.tN<|.sq<|.bk<|.sr<|.yv (.indexSl Fx.sl27 Z Z Z (by omega) (q := oE + k * 2) Z) Z<|.yv (.loadMW Z Fx.agg88 mE Z) Z<|.al Fx.zero88 Z fun b5 => .sW .head Z Z Fx.size88 (by simp [Value.oneCell',strV]) Z<|.nt<|.rg<|.yv (.fieldAddr Z Fx.field31_1) Z<|.yv (.load Z Fx.agg27 (.tail _<|.tail _<|.head _) Z) Z<|.yv (.fieldAddr Z Fx.field88_0) Z<|.yv (.load Z Fx.agg9 (.head _) Z) Z<|.yv (.cast (v' := strV (ren0 x.nm)) (.app (a := x.nm) (b := [113]) Z Z (by have := gd_len hgx;simp only [List.length_append,List.length_cons,List.length_nil] at this ⊢;omega)) (by rw [gd_ren hgx];rfl)) Z<|.yv (.fieldAddr Z Fx.field88_1) Z<|.yv (.load Z Fx.agg4 (.head _) Z) Z<|.yv (.build Z (Fx.bld88_0_1 _ _)) Z<|.bl Z (Fx.bsl27_1 _ _) Z fun b40 => .ap (news := [strV (ren0 x.nm),.bool x.init]) Fx.row27 Z (fun _ => (.tail<|.tail<|.head)) Z (.box (.head _) z0) Z (by simp [Value.oneCell',strV]) (by simp [maxLen];omega) (by omega) Z fun r41 _ => .ra (.tail _<|.tail _<|.head _) fun p41 c41 e41 => .yv (.fieldAddr Z Fx.field31_1) Z<|.st (.tail<|.tail<|.tail<|.head) Z Z Fx.size27 (by rw [e41];rfl) (nb Z) Z<|.nl<|.bN<|.tN<|.rg<|.yv (.add Z Z (w6 (by omega))) Z<|.m Z Z<|.nt<|.ag (x := (k,r,xs)) (k + 1,r41,xs ++ [strV (ren0 x.nm),.bool x.init]) ⟨rfl,trivial⟩ ⟨rfl,rfl,rfl,rfl,rfl,trivial⟩ (fun _ s => (s.pick [2,3,4,5] _ Z Z)) ⟨by dsimp only;omega,by dsimp only;rw [take_snoc hk,hx,List.map_append,List.map_append];exact hz.snoc (fg_shut (x := renG x) (by have := goe_len (goe_of hgx);show (ren0 x.nm).length ≤ _;omega)) Z⟩ (by dsimp only;omega)
 try simp only [df] at h29
 obtain rfl : k = f.flags.length := by omega
 rw [List.take_length] at hz;refine Sx.freezeSeq (ds := (f.flags.map renG).map dFg) (by simp) hz fun H4 p4 c4 u4 e4 h4 => ?_;subst e4;refine .ex<|.tE<|.tE<|.bE<|.tN<|.sq<|.sr<|.yv (.fieldAddr Z Fx.field31_2) Z<|.yv (.load Z Fx.agg28 (.tail _<|.tail _<|.head _) Z) Z<|.yv (.lenSl Fx.sl28 Z) Z<|.m Z Z<|?_
 refine Sx.row0 91 3 ?_;have k24 := k2.up u4.up;refine .nt<|.bk<|.lp (X := Nat × Value × List Value) [(1,_),(2,_),(3,_),(45,_),(46,_)] ⟨rfl,rfl,rfl,rfl,rfl,trivial⟩ [_,_] (fun z => [(47,.int .i64 (z.1 : Nat))]) (fun z => H4) (fun z => [.row 91 3 z.2.1 z.1 z.2.2,.box b3 [strV (ren0 f.nm),.slice p4 f.flags.length c4,z.2.1,.slice none 0 0] 31]) (fun z => z.1 ≤ f.links.length ∧ RepZ H4 3 (((f.links.take z.1).map renL).map dLk) z.2.2) (fun z => f.links.length - z.1) (0,.slice none 0 0,[]) (fun _ s => s) ⟨rfl,trivial⟩ ⟨by simp,RepZ.nil⟩ fun z hC => ?_
 obtain ⟨k,r,xs⟩ := z;dsimp only at hC ⊢;obtain ⟨hk0,hz⟩ := hC;refine .sr<|.yv (.lss Z Z) Z<|.nt<|.sq<|.cd Z (fun h48 => ?_) (fun h48 => ?_)
 ·try simp only [dt] at h48
  have hk : k < f.links.length := by omega
  obtain ⟨bE,oE,cE,hpE,rE,lE,mE⟩ := k24.elem (map_at (f := dLk) hk);cases hpE;have hgx := hgd.2.2.1 _ (List.getElem_mem hk);generalize hx : f.links[k] = x at rE hgx;obtain ⟨rfl,nx,nx2⟩ := lk_open rE;exact .sk<|.tN<|.sq<|.bk<|.sr<|.yv (.indexSl Fx.sl28 Z Z Z (by omega) (q := oE + k * 3) Z) Z<|.yv (.loadMW Z Fx.agg91 mE Z) Z<|.al Fx.zero91 Z fun b7 => .sW .head Z Z Fx.size91 (by simp [Value.oneCell',strV]) Z<|.nt<|.rg<|.yv (.fieldAddr Z Fx.field31_2) Z<|.yv (.load Z Fx.agg28 (.tail _<|.tail _<|.head _) Z) Z<|.yv (.fieldAddr Z Fx.field91_0) Z<|.yv (.load Z Fx.agg9 (.head _) Z) Z<|.yv (.cast (v' := strV (ren0 x.fr)) (.app (a := x.fr) (b := [113]) Z Z (by have := gd_len hgx.1;simp only [List.length_append,List.length_cons,List.length_nil] at this ⊢;omega)) (by rw [gd_ren hgx.1];rfl)) Z<|.yv (.fieldAddr Z Fx.field91_1) Z<|.yv (.load Z Fx.agg9 (.head _) Z) Z<|.yv (.cast (v' := strV (ren0 x.to)) (.app (a := x.to) (b := [113]) Z Z (by have := gd_len hgx.2;simp only [List.length_append,List.length_cons,List.length_nil] at this ⊢;omega)) (by rw [gd_ren hgx.2];rfl)) Z<|.yv (.fieldAddr Z Fx.field91_2) Z<|.yv (.load Z Fx.agg3 (.head _) Z) Z<|.yv (.build Z (Fx.bld91_0_1_2 _ _ _)) Z<|.bl Z (Fx.bsl28_1 _ _ _) Z fun b62 => .ap (news := [strV (ren0 x.fr),strV (ren0 x.to),.int .i64 x.lat.toInt]) Fx.row28 Z (fun _ => (.tail<|.tail<|.head)) Z (.box (.head _) z0) Z (by simp [Value.oneCell',strV]) (by simp [maxLen];omega) (by omega) Z fun r63 _ => .ra (.tail _<|.tail _<|.head _) fun p63 c63 e63 => .yv (.fieldAddr Z Fx.field31_2) Z<|.st (.tail<|.tail<|.tail<|.head) Z Z Fx.size28 (by rw [e63];rfl) (nb Z) Z<|.nl<|.bN<|.tN<|.rg<|.yv (.add Z Z (w6 (by omega))) Z<|.m Z Z<|.nt<|.ag (x := (k,r,xs)) (k + 1,r63,xs ++ [strV (ren0 x.fr),strV (ren0 x.to),.int .i64 x.lat.toInt]) ⟨rfl,trivial⟩ ⟨rfl,rfl,rfl,rfl,rfl,trivial⟩ (fun _ s => (s.pick [2,3,4,5] _ Z Z)) ⟨by dsimp only;omega,by dsimp only;rw [take_snoc hk,hx,List.map_append,List.map_append];exact hz.snoc (lk_ren8 hgx.1 hgx.2) Z⟩ (by dsimp only;omega)
 try simp only [df] at h48
 obtain rfl : k = f.links.length := by omega
 rw [List.take_length] at hz;refine Sx.freezeSeq (ds := (f.links.map renL).map dLk) (by simp) hz fun H5 p5 c5 u5 e5 h5 => ?_;subst e5;refine .ex<|.tE<|.tE<|.bE<|.tN<|.sq<|.sr<|.yv (.fieldAddr Z Fx.field31_3) Z<|.yv (.load Z Fx.agg29 (.tail _<|.tail _<|.head _) Z) Z<|.yv (.lenSl Fx.sl29 Z) Z<|.m Z Z<|?_
 refine Sx.row0 78 3 ?_;have k35 := k3.up (u4.trans u5).up;have h45 := h4.up u5.up;refine .nt<|.bk<|.lp (X := Nat × Hp × Value × List Value) [(2,_),(3,_),(67,_),(68,_)] ⟨rfl,rfl,rfl,rfl,trivial⟩ [_,_] (fun z => [(69,.int .i64 (z.1 : Nat))]) (fun z => z.2.1) (fun z => [.row 78 3 z.2.2.1 z.1 z.2.2.2,.box b3 [strV (ren0 f.nm),.slice p4 f.flags.length c4,.slice p5 f.links.length c5,z.2.2.1] 31]) (fun z => z.1 ≤ f.comps.length ∧ HUp w H5 z.2.1 ∧ RepZ z.2.1 3 (((f.comps.take z.1).map renC).map (dCp .i64)) z.2.2.2) (fun z => f.comps.length - z.1) (0,H5,.slice none 0 0,[]) (fun _ s => s) ⟨rfl,trivial⟩ ⟨by simp,.refl,RepZ.nil⟩ fun z hC => ?_
 obtain ⟨k,Ha,rc,xs⟩ := z;dsimp only at hC ⊢;obtain ⟨hk0,ua,hz⟩ := hC;refine .sr<|.yv (.lss Z Z) Z<|.nt<|.sq<|.cd Z (fun h70 => ?_) (fun h70 => ?_)
 ·try simp only [dt] at h70
  have hk : k < f.comps.length := by omega
  obtain ⟨bE,oE,cE,hpE,rE,lE,mE⟩ := (k35.up ua.up).elem (map_at (f := dCp .i64) hk);cases hpE;have okc := hok.all _ (List.getElem_mem hk);have hgx := hgd.2.2.2 _ (List.getElem_mem hk);generalize hx : f.comps[k] = x at rE okc hgx;obtain ⟨q1,d1,q2,d2,rfl,nx,g1,g2⟩ := cp_open rE;have hcv := g1.cap;have hcr := g2.cap;have hvl := okc.vars;have hrl := okc.vers;refine .sk<|.tN<|.sq<|.bk<|.sr<|.yv (.indexSl Fx.sl29 Z Z Z (by omega) (q := oE + k * 3) Z) Z<|.yv (.loadMW Z Fx.agg78 mE Z) Z<|.al Fx.zero78 Z fun b9 => .sW .head Z Z Fx.size78 (by simp [Value.oneCell',strV]) Z<|.ns<|.yv (.fieldAddr Z Fx.field78_0) Z<|.yv (.load Z Fx.agg9 (.head _) Z) Z<|.yv (.cast (v' := strV (ren0 x.nm)) (.app (a := x.nm) (b := [113]) Z Z (by have := gd_len hgx.1;simp only [List.length_append,List.length_cons,List.length_nil] at this ⊢;omega)) (by rw [gd_ren hgx.1];rfl)) Z<|.yv (.build Z (Fx.bld78_0 _)) Z<|.al Fx.zero78 Z fun b10 => .sW .head Z Z Fx.size78 (by simp [Value.oneCell',strV]) Z<|.nt<|.sq<|.sr<|.yv (.fieldAddr Z Fx.field78_1) Z<|.yv (.load Z Fx.agg75 (.tail _<|.head _) Z) Z<|.yv (.lenSl Fx.sl75 Z) Z<|.m Z Z<|?_
  refine Sx.row0 98 3 ?_;refine .nt<|.bk<|.lp (X := Nat × Value × List Value) [(2,_),(3,_),(9,_),(10,_),(67,_),(68,_),(69,_),(78,_),(79,_)] ⟨rfl,rfl,rfl,rfl,rfl,rfl,rfl,rfl,rfl,trivial⟩ [_,_,_,_,_] (fun z => [(80,.int .i64 (z.1 : Nat))]) (fun z => Ha) (fun z => [.row 98 3 z.2.1 z.1 z.2.2,.box b10 [strV (ren0 x.nm),z.2.1,.slice none 0 0] 78]) (fun z => z.1 ≤ x.vars.length ∧ RepZ Ha 3 (((x.vars.take z.1).map renV).map (dVr .i64)) z.2.2) (fun z => x.vars.length - z.1) (0,.slice none 0 0,[]) (fun _ s => s) ⟨rfl,trivial⟩ ⟨by simp,RepZ.nil⟩ fun z hC => ?_
  obtain ⟨j,rv,ys⟩ := z;dsimp only at hC ⊢;obtain ⟨hj0,hzv⟩ := hC;refine .sr<|.yv (.lss Z Z) Z<|.nt<|.sq<|.cd Z (fun h81 => ?_) (fun h81 => ?_)
  ·try simp only [dt] at h81
   have hj : j < x.vars.length := by omega
   obtain ⟨bF,oF,cF,hpF,rF,lF,mF⟩ := g1.elem (map_at (f := dVr .i64) hj);cases hpF;have hgv := hgx.2.1 _ (List.getElem_mem hj);generalize hv : x.vars[j] = v at rF hgv;obtain ⟨rfl,nv⟩ := vr_open rF;exact .sk<|.tN<|.sq<|.bk<|.sr<|.yv (.indexSl Fx.sl75 Z Z Z (by omega) (q := oF + j * 3) Z) Z<|.yv (.loadMW Z Fx.agg98 mF Z) Z<|.al Fx.zero98 Z fun b12 => .sW .head Z Z Fx.size98 (by simp [Value.oneCell',strV]) Z<|.nt<|.rg<|.yv (.fieldAddr Z Fx.field78_1) Z<|.yv (.load Z Fx.agg75 (.tail _<|.tail _<|.head _) Z) Z<|.yv (.fieldAddr Z Fx.field98_0) Z<|.yv (.load Z Fx.agg9 (.head _) Z) Z<|.yv (.cast (v' := strV (ren0 v.nm)) (.app (a := v.nm) (b := [113]) Z Z (by have := gd_len hgv;simp only [List.length_append,List.length_cons,List.length_nil] at this ⊢;omega)) (by rw [gd_ren hgv];rfl)) Z<|.yv (.fieldAddr Z Fx.field98_1) Z<|.yv (.load Z Fx.agg3 (.head _) Z) Z<|.yv (.fieldAddr Z Fx.field98_2) Z<|.yv (.load Z Fx.agg2 (.head _) Z) Z<|.yv (.build Z (Fx.bld98_0_1_2 _ _ _)) Z<|.bl Z (Fx.bsl75_1 _ _ _) Z fun b94 => .ap (news := [strV (ren0 v.nm),.int .i64 v.ty.toNat,.int .i64 v.init.toInt]) Fx.row75 Z (fun _ => (.tail<|.tail<|.head)) Z (.box (.head _) z0) Z (by simp [Value.oneCell',strV]) (by simp [maxLen];omega) (by omega) Z fun r95 _ => .ra (.tail _<|.tail _<|.head _) fun p95 c95 e95 => .yv (.fieldAddr Z Fx.field78_1) Z<|.st (.tail<|.tail<|.tail<|.head) Z Z Fx.size75 (by rw [e95];rfl) (nb Z) Z<|.nl<|.bN<|.tN<|.rg<|.yv (.add Z Z (w6 (by omega))) Z<|.m Z Z<|.nt<|.ag (x := (j,rv,ys)) (j + 1,r95,ys ++ [strV (ren0 v.nm),.int .i64 v.ty.toNat,.int .i64 v.init.toInt]) ⟨rfl,trivial⟩ ⟨rfl,rfl,rfl,rfl,rfl,rfl,rfl,rfl,rfl,trivial⟩ (fun _ s => (s.pick [2,3,4,5,6,7,8] _ Z Z)) ⟨by dsimp only;omega,by dsimp only;rw [take_snoc hj,hv,List.map_append,List.map_append];exact hzv.snoc (vr_shut (x := renV v) (by have := goe_len (goe_of hgv);show (ren0 v.nm).length ≤ _;omega)) Z⟩ (by dsimp only;omega)
  try simp only [df] at h81
  obtain rfl : j = x.vars.length := by omega
  rw [List.take_length] at hzv;refine Sx.freezeSeq (ds := (x.vars.map renV).map (dVr .i64)) (by simp) hzv fun HV pV cV uV eV hV => ?_;subst eV;refine .ex<|.tE<|.tE<|.bE<|.tN<|.sq<|.sr<|.yv (.fieldAddr Z Fx.field78_2) Z<|.yv (.load Z Fx.agg76 (.tail _<|.head _) Z) Z<|.yv (.lenSl Fx.sl76 Z) Z<|.m Z Z<|?_
  refine Sx.row0 79 1 ?_;refine .nt<|.bk<|.lp (X := Nat × Hp × Value × List Value) [(2,_),(3,_),(10,_),(67,_),(68,_),(69,_),(99,_),(100,_)] ⟨rfl,rfl,rfl,rfl,rfl,rfl,rfl,rfl,trivial⟩ [_,_,_,_,_] (fun z => [(101,.int .i64 (z.1 : Nat))]) (fun z => z.2.1) (fun z => [.row 79 1 z.2.2.1 z.1 z.2.2.2,.box b10 [strV (ren0 x.nm),.slice pV x.vars.length cV,z.2.2.1] 78]) (fun z => z.1 ≤ x.vers.length ∧ HUp w HV z.2.1 ∧ RepZ z.2.1 1 (((x.vers.take z.1).map fun v => v.map renH).map (dVs .i64)) z.2.2.2) (fun z => x.vers.length - z.1) (0,HV,.slice none 0 0,[]) (fun _ s => s) ⟨rfl,trivial⟩ ⟨by simp,.refl,RepZ.nil⟩ fun z hC => ?_
  obtain ⟨i,Hb,rs,ws⟩ := z;dsimp only at hC ⊢;obtain ⟨hi0,ub,hzs⟩ := hC;refine .sr<|.yv (.lss Z Z) Z<|.nt<|.sq<|.cd Z (fun h102 => ?_) (fun h102 => ?_)
  ·try simp only [dt] at h102
   have hi : i < x.vers.length := by omega
   obtain ⟨bG,oG,cG,hpG,rG,lG,mG⟩ := (g2.up (uV.trans ub).up).elem (map_at (f := dVs .i64) hi);cases hpG;have okv := okc.all _ (List.getElem_mem hi);have hgw := hgx.2.2 _ (List.getElem_mem hi);generalize hxv : x.vers[i] = v at rG okv hgw;obtain ⟨pv,cv,rfl,gv⟩ := vs_open rG;have hcw := gv.cap;have hwl := okv.len;refine .sk<|.tN<|.sq<|.bk<|.sr<|.yv (.indexSl Fx.sl76 Z Z (i := i) Z hi (q := oG + i * 1) Z) Z<|.yv (.loadM Z Fx.agg79 mG (k := 0) Z Z) Z<|.a Z Z<|.ns<|.a Z Z<|.nt<|.sq<|.sr<|.m Z Z<|.yv (.lenSl Fx.sl79 Z) Z<|.m Z Z<|?_
   refine Sx.row0 82 3 ?_;refine .nt<|.bk<|.lp (X := Nat × Hp × Value × List Value) [(2,_),(3,_),(10,_),(67,_),(68,_),(69,_),(99,_),(100,_),(101,_),(105,_),(106,_)] ⟨rfl,rfl,rfl,rfl,rfl,rfl,rfl,rfl,rfl,rfl,rfl,trivial⟩ [_,_,_,_,_,_,_] (fun z => [(107,.int .i64 (z.1 : Nat)),(15,z.2.2.1)]) (fun z => z.2.1) (fun z => [.row 82 3 z.2.2.1 z.1 z.2.2.2]) (fun z => z.1 ≤ v.length ∧ HUp w Hb z.2.1 ∧ RepZ z.2.1 3 (((v.take z.1).map renH).map (dHd .i64)) z.2.2.2) (fun z => v.length - z.1) (0,Hb,.slice none 0 0,[]) (fun _ s => s) ⟨rfl,rfl,trivial⟩ ⟨by simp,.refl,RepZ.nil⟩ fun z hC => ?_
   obtain ⟨j,Hc,rh,zs⟩ := z;dsimp only at hC ⊢;obtain ⟨hj0,uc,hzh⟩ := hC;refine .sr<|.yv (.lss Z Z) Z<|.nt<|.sq<|.cd Z (fun h108 => ?_) (fun h108 => ?_)
   ·try simp only [dt] at h108
    have hj : j < v.length := by omega
    obtain ⟨bI,oI,cI,hpI,rI,lI,mI⟩ := (gv.up uc.up).elem (map_at (f := dHd .i64) hj);cases hpI;have okh := okv.all _ (List.getElem_mem hj);have hgh := hgw _ (List.getElem_mem hj);generalize hxh : v[j] = y at rI okh hgh;obtain ⟨t1,w1,t2,w2,rfl,ny,m1,m2⟩ := hd_open rI;have hyl := okh.ps;obtain ⟨hgn,hgp⟩ := gdH_nm hgh.1;have hcp := m1.cap;refine .sk<|.tN<|.sq<|.bk<|.sr<|.yv (.indexSl Fx.sl79 Z Z Z (by omega) (q := oI + j * 3) Z) Z<|.yv (.loadMW Z Fx.agg82 mI Z) Z<|.al Fx.zero82 Z fun b17 => .sW .head Z Z Fx.size82 (by simp [Value.oneCell',strV]) Z<|.nt<|.sq<|.ft (p := .light _ _ (.light _ _ (.light _ _ (.light _ _ (.light _ _ (.alt _ _ _ (.light _ _ (.alt _ _ _ (.done) (.no))) (.alt _ _ _ (.alt _ _ _ (.light _ _ (.done)) (.no)) (.no)))))))) 8 (.light 0 (.light 1 (.light 2 (.light 3 (.light 4 (.alt 5 0 (.light 6 (.alt 7 0 (.done) (.no))) (.alt 7 0 (.alt 5 0 (.light 6 (.done)) (.no)) (.no)))))))) (by kernel_rfl) (by kernel_rfl) Z<|.yv (.fieldAddr Z Fx.field82_0) Z<|.yv (.load Z Fx.agg9 (.head _) Z) Z<|.yv (.cast (v' := strV (ren0 y.nm)) (.app (a := y.nm) (b := [113]) Z Z (by have := gd_len hgn;simp only [List.length_append,List.length_cons,List.length_nil] at this ⊢;omega)) (by rw [gd_ren hgn];rfl)) Z<|.yv (.fieldAddr Z Fx.field82_2) Z<|.yv (.load Z Fx.agg80 (.head _) Z) Z<|.h ?_ (.h ?_ .nn)
    ·
     refine .ct (X := Value) Fx.call37 Z (fun W t => body8_any N hN y.body okh.body hgh.2 Hc _ W m2 t.agr) Z fun y116 H116 hy116 u116 => ?_;obtain ⟨pB,cB,eB,_⟩ := hy116.sl;simp only [List.cons.injEq,and_true,List.length_map] at eB;subst eB;have m1b := m1.up u116.up;refine .yv (.build Z (Fx.bld82_0_2 _ _ _ _)) Z<|.h1<|.al Fx.zero82 Z fun b18 => .fn (tl := [_]) Z<|.sW .head Z Z Fx.size82 (by simp [Value.oneCell',strV]) Z<|.nt<|.sq<|.sr<|.yv (.fieldAddr Z Fx.field82_1) Z<|.yv (.load Z Fx.agg54 (.tail _<|.head _) Z) Z<|.yv (.lenSl Fx.sl54 Z) Z<|.m Z Z<|?_
     refine At.ps0 9 ?_;refine .nt<|.bk<|.lp (X := Nat × Value × List Value) [(2,_),(3,_),(10,_),(15,_),(18,_),(67,_),(68,_),(69,_),(99,_),(100,_),(101,_),(105,_),(106,_),(107,_),(119,_),(120,_)] ⟨rfl,rfl,rfl,rfl,rfl,rfl,rfl,rfl,rfl,rfl,rfl,rfl,rfl,rfl,rfl,rfl,trivial⟩ [_,_,_,_,_,_,_,_,_] (fun z => [(121,.int .i64 (z.1 : Nat))]) (fun z => H116) (fun z => [.ps 9 z.2.1 z.2.2,.box b18 [strV (ren0 y.nm),z.2.1,.slice pB (renSs y.body).length cB] 82]) (fun z => z.1 ≤ y.ps.length ∧ z.2.2 = ((y.ps.take z.1).map ren0).map strV) (fun z => y.ps.length - z.1) (0,.slice none 0 0,[]) (fun _ s => s) ⟨rfl,trivial⟩ ⟨Nat.zero_le _,rfl⟩ fun z hC => ?_
     obtain ⟨m,rp,ps⟩ := z;dsimp only at hC ⊢;obtain ⟨hm0,hps⟩ := hC;have hpsl : ps.length = m := by rw [hps];simp only [List.length_map,List.length_take];omega
     refine .sr<|.yv (.lss Z Z) Z<|.nt<|.sq<|.cd Z (fun h122 => ?_) (fun h122 => ?_)
     ·try simp only [dt] at h122
      have hm : m < y.ps.length := by omega
      obtain ⟨bP,oP,csP,eP,rP,lP,mP⟩ := m1b.elem (map_at (f := dStr) hm);cases eP;have hgs := hgp _ (List.getElem_mem hm);generalize hs0 : y.ps[m] = s0 at rP hgs;obtain ⟨rfl,ns0⟩ := str_open rP;have hsl := goe_len (goe_of hgs);exact .sk<|.tN<|.sq<|.bk<|.sr<|.yv (.indexSl Fx.sl54 Z Z Z (by omega) (q := oP + m * 1) Z) Z<|.yv (.loadM Z Fx.agg9 mP (k := 0) Z Z) Z<|.a Z Z<|.nt<|.rg<|.yv (.fieldAddr Z Fx.field82_1) Z<|.yv (.load Z Fx.agg54 (.tail _<|.head _) Z) Z<|.m Z Z<|.yv (.cast (v' := strV (ren0 s0)) (.app (a := s0) (b := [113]) Z Z (by have := gd_len hgs;simp only [List.length_append,List.length_cons,List.length_nil] at this ⊢;omega)) (by rw [gd_ren hgs];rfl)) Z<|.bl Z (Fx.bsl54_1 _) Z fun b129 => .apP (u := ⟨(ren0 s0).toArray⟩) Fx.row54 Fx.zero9 Z (fun _ => (.tail<|.head)) Z (.box (.head _) z0) (okS.2 (by omega)) (by rw [hpsl];simp [maxLen];omega) (by rw [hpsl];omega) Z fun r130 => .rp (.tail _<|.head _) fun p130 c130 e130 => .yv (.fieldAddr Z Fx.field82_1) Z<|.st (.tail<|.tail<|.head) Z Z Fx.size54 (by rw [e130];rfl) (nb Z) Z<|.nl<|.bN<|.tN<|.rg<|.yv (.add Z Z (w6 (by omega))) Z<|.m Z Z<|.nt<|.ag (x := (m,rp,ps)) (m + 1,r130,ps ++ [strV (ren0 s0)]) ⟨rfl,trivial⟩ ⟨rfl,rfl,rfl,rfl,rfl,rfl,rfl,rfl,rfl,rfl,rfl,rfl,rfl,rfl,rfl,rfl,trivial⟩ (fun _ s => (s.pick [1,2,3,4,5,6,7,8,9,10,11] _ Z Z)) ⟨by dsimp only;omega,by dsimp only;rw [hps,take_snoc hm,hs0,List.map_append,List.map_append];rfl⟩ (by dsimp only;omega)
     try simp only [df] at h122
     obtain rfl : m = y.ps.length := by omega
     rw [List.take_length] at hps;subst hps;refine Sx.freezePs fun HP pP cP uP _ eP hP => ?_;rw [List.length_map] at eP;subst eP;exact .ex<|.tE<|.tE<|.bE<|.tN<|.rg<|.m Z Z<|.yv (.loadW Z Fx.agg82 (.head _) Z) Z<|.bl Z (Fx.bsl79_1 _ _ _) Z fun b135 => .ap (news := [strV (ren0 y.nm),.slice pP (y.ps.map ren0).length cP,.slice pB (renSs y.body).length cB]) Fx.row79 Z (fun _ => (.tail<|.tail<|.tail<|.head)) Z (.box (.head _) z0) Z (by simp [Value.oneCell',strV]) (by simp [maxLen];omega) (by omega) Z fun r136 _ => .ra (.tail _<|.tail _<|.tail _<|.head _) fun p136 c136 e136 => .a Z Z<|.nl<|.bN<|.tN<|.rg<|.yv (.add Z Z (w6 (by omega))) Z<|.m Z Z<|.nt<|.ag (x := (j,Hc,rh,zs)) (j + 1,HP,r136,zs ++ [strV (ren0 y.nm),.slice pP (y.ps.map ren0).length cP,.slice pB (renSs y.body).length cB]) ⟨rfl,rfl,trivial⟩ ⟨rfl,rfl,rfl,rfl,rfl,rfl,rfl,rfl,rfl,rfl,rfl,trivial⟩ (fun _ s => (s.pick [3,4,5,6,7,8,9,10] _ Z Z)) ⟨by dsimp only;omega,uc.trans (u116.trans uP),by dsimp only;rw [take_snoc hj,hxh,List.map_append,List.map_append];exact (hzh.up (u116.trans uP).up).snoc (hd_ren8 hgn hP (hy116.up uP.up)) Z⟩ (by dsimp only;omega)
    refine .al Fx.zero82 Z fun b18 => .h1<|.ct (X := Value) Fx.call37 Z (fun W t => body8_any N hN y.body okh.body hgh.2 Hc _ W m2 t.agr) Z fun y116 H116 hy116 u116 => ?_
    obtain ⟨pB,cB,eB,_⟩ := hy116.sl;simp only [List.cons.injEq,and_true,List.length_map] at eB;subst eB;have m1b := m1.up u116.up;refine .yv (.build Z (Fx.bld82_0_2 _ _ _ _)) Z<|.fn (tl := [_]) Z<|.sW .head Z Z Fx.size82 (by simp [Value.oneCell',strV]) Z<|.nt<|.sq<|.sr<|.yv (.fieldAddr Z Fx.field82_1) Z<|.yv (.load Z Fx.agg54 (.tail _<|.head _) Z) Z<|.yv (.lenSl Fx.sl54 Z) Z<|.m Z Z<|?_
    refine At.ps0 9 ?_;refine .nt<|.bk<|.lp (X := Nat × Value × List Value) [(2,_),(3,_),(10,_),(15,_),(18,_),(67,_),(68,_),(69,_),(99,_),(100,_),(101,_),(105,_),(106,_),(107,_),(119,_),(120,_)] ⟨rfl,rfl,rfl,rfl,rfl,rfl,rfl,rfl,rfl,rfl,rfl,rfl,rfl,rfl,rfl,rfl,trivial⟩ [_,_,_,_,_,_,_,_,_] (fun z => [(121,.int .i64 (z.1 : Nat))]) (fun z => H116) (fun z => [.ps 9 z.2.1 z.2.2,.box b18 [strV (ren0 y.nm),z.2.1,.slice pB (renSs y.body).length cB] 82]) (fun z => z.1 ≤ y.ps.length ∧ z.2.2 = ((y.ps.take z.1).map ren0).map strV) (fun z => y.ps.length - z.1) (0,.slice none 0 0,[]) (fun _ s => s) ⟨rfl,trivial⟩ ⟨Nat.zero_le _,rfl⟩ fun z hC => ?_
    obtain ⟨m,rp,ps⟩ := z;dsimp only at hC ⊢;obtain ⟨hm0,hps⟩ := hC;have hpsl : ps.length = m := by rw [hps];simp only [List.length_map,List.length_take];omega
    refine .sr<|.yv (.lss Z Z) Z<|.nt<|.sq<|.cd Z (fun h122 => ?_) (fun h122 => ?_)
    ·try simp only [dt] at h122
     have hm : m < y.ps.length := by omega
     obtain ⟨bP,oP,csP,eP,rP,lP,mP⟩ := m1b.elem (map_at (f := dStr) hm);cases eP;have hgs := hgp _ (List.getElem_mem hm);generalize hs0 : y.ps[m] = s0 at rP hgs;obtain ⟨rfl,ns0⟩ := str_open rP;have hsl := goe_len (goe_of hgs);exact .sk<|.tN<|.sq<|.bk<|.sr<|.yv (.indexSl Fx.sl54 Z Z Z (by omega) (q := oP + m * 1) Z) Z<|.yv (.loadM Z Fx.agg9 mP (k := 0) Z Z) Z<|.a Z Z<|.nt<|.rg<|.yv (.fieldAddr Z Fx.field82_1) Z<|.yv (.load Z Fx.agg54 (.tail _<|.head _) Z) Z<|.m Z Z<|.yv (.cast (v' := strV (ren0 s0)) (.app (a := s0) (b := [113]) Z Z (by have := gd_len hgs;simp only [List.length_append,List.length_cons,List.length_nil] at this ⊢;omega)) (by rw [gd_ren hgs];rfl)) Z<|.bl Z (Fx.bsl54_1 _) Z fun b129 => .apP (u := ⟨(ren0 s0).toArray⟩) Fx.row54 Fx.zero9 Z (fun _ => (.tail<|.head)) Z (.box (.head _) z0) (okS.2 (by omega)) (by rw [hpsl];simp [maxLen];omega) (by rw [hpsl];omega) Z fun r130 => .rp (.tail _<|.head _) fun p130 c130 e130 => .yv (.fieldAddr Z Fx.field82_1) Z<|.st (.tail<|.tail<|.head) Z Z Fx.size54 (by rw [e130];rfl) (nb Z) Z<|.nl<|.bN<|.tN<|.rg<|.yv (.add Z Z (w6 (by omega))) Z<|.m Z Z<|.nt<|.ag (x := (m,rp,ps)) (m + 1,r130,ps ++ [strV (ren0 s0)]) ⟨rfl,trivial⟩ ⟨rfl,rfl,rfl,rfl,rfl,rfl,rfl,rfl,rfl,rfl,rfl,rfl,rfl,rfl,rfl,rfl,trivial⟩ (fun _ s => (s.pick [1,2,3,4,5,6,7,8,9,10,11] _ Z Z)) ⟨by dsimp only;omega,by dsimp only;rw [hps,take_snoc hm,hs0,List.map_append,List.map_append];rfl⟩ (by dsimp only;omega)
    try simp only [df] at h122
    obtain rfl : m = y.ps.length := by omega
    rw [List.take_length] at hps;subst hps;refine Sx.freezePs fun HP pP cP uP _ eP hP => ?_;rw [List.length_map] at eP;subst eP;exact .ex<|.tE<|.tE<|.bE<|.tN<|.rg<|.m Z Z<|.yv (.loadW Z Fx.agg82 (.head _) Z) Z<|.bl Z (Fx.bsl79_1 _ _ _) Z fun b135 => .ap (news := [strV (ren0 y.nm),.slice pP (y.ps.map ren0).length cP,.slice pB (renSs y.body).length cB]) Fx.row79 Z (fun _ => (.tail<|.tail<|.tail<|.head)) Z (.box (.head _) z0) Z (by simp [Value.oneCell',strV]) (by simp [maxLen];omega) (by omega) Z fun r136 _ => .ra (.tail _<|.tail _<|.tail _<|.head _) fun p136 c136 e136 => .a Z Z<|.nl<|.bN<|.tN<|.rg<|.yv (.add Z Z (w6 (by omega))) Z<|.m Z Z<|.nt<|.ag (x := (j,Hc,rh,zs)) (j + 1,HP,r136,zs ++ [strV (ren0 y.nm),.slice pP (y.ps.map ren0).length cP,.slice pB (renSs y.body).length cB]) ⟨rfl,rfl,trivial⟩ ⟨rfl,rfl,rfl,rfl,rfl,rfl,rfl,rfl,rfl,rfl,rfl,trivial⟩ (fun _ s => (s.pick [3,4,5,6,7,8,9,10] _ Z Z)) ⟨by dsimp only;omega,uc.trans (u116.trans uP),by dsimp only;rw [take_snoc hj,hxh,List.map_append,List.map_append];exact (hzh.up (u116.trans uP).up).snoc (hd_ren8 hgn hP (hy116.up uP.up)) Z⟩ (by dsimp only;omega)
   try simp only [df] at h108
   obtain rfl : j = v.length := by omega
   rw [List.take_length] at hzh;refine Sx.freezeSeq (ds := (v.map renH).map (dHd .i64)) (by simp) hzh fun HH pH cH uH eH hH => ?_;subst eH;have uh := uc.trans uH;exact .ex<|.tE<|.tE<|.bE<|.tN<|.rg<|.yv (.fieldAddr Z Fx.field78_2) Z<|.yv (.load Z Fx.agg76 (.tail _<|.head _) Z) Z<|.m Z Z<|.bl Z (Fx.bsl76_1 _ _ _) Z fun b141 => .ap (news := [.slice pH v.length cH]) Fx.row76 Z (fun _ => (.tail<|.head)) Z (.box (.head _) z0) Z (by simp [Value.oneCell',strV]) (by simp [maxLen];omega) (by omega) Z fun r142 _ => .ra (.tail _<|.head _) fun p142 c142 e142 => .yv (.fieldAddr Z Fx.field78_2) Z<|.st (.tail<|.tail<|.head) Z Z Fx.size76 (by rw [e142];rfl) (nb Z) Z<|.nl<|.bN<|.tN<|.rg<|.yv (.add Z Z (w6 (by omega))) Z<|.m Z Z<|.nt<|.ag (x := (i,Hb,rs,ws)) (i + 1,HH,r142,ws ++ [.slice pH v.length cH]) ⟨rfl,trivial⟩ ⟨rfl,rfl,rfl,rfl,rfl,rfl,rfl,rfl,trivial⟩ (fun _ s => (s.pick [1,2,3,4,5,6,7] _ Z Z)) ⟨by dsimp only;omega,ub.trans uh,by dsimp only;rw [take_snoc hi,hxv,List.map_append,List.map_append];exact (hzs.up uh.up).snoc hH Z⟩ (by dsimp only;omega)
  try simp only [df] at h102
  obtain rfl : i = x.vers.length := by omega
  rw [List.take_length] at hzs;refine Sx.freezeSeq (ds := (x.vers.map fun v => v.map renH).map (dVs .i64)) (by simp) hzs fun HS pS cS uS eS hS => ?_;subst eS;have uX := uV.trans (ub.trans uS);have hVX := hV.up (ub.trans uS).up;exact .ex<|.tE<|.tE<|.bE<|.tN<|.rg<|.yv (.fieldAddr Z Fx.field31_3) Z<|.yv (.load Z Fx.agg29 (.tail _<|.tail _<|.tail _<|.head _) Z) Z<|.yv (.loadW Z Fx.agg78 (.head _) Z) Z<|.bl Z (Fx.bsl29_1 _ _ _) Z fun b148 => .ap (news := [strV (ren0 x.nm),.slice pV x.vars.length cV,.slice pS x.vers.length cS]) Fx.row29 Z (fun _ => (.tail<|.tail<|.tail<|.head)) Z (.box (.head _) z0) Z (by simp [Value.oneCell',strV]) (by simp [maxLen];omega) (by omega) Z fun r149 _ => .ra (.tail _<|.tail _<|.tail _<|.head _) fun p149 c149 e149 => .yv (.fieldAddr Z Fx.field31_3) Z<|.st (.tail<|.tail<|.tail<|.tail<|.head) Z Z Fx.size29 (by rw [e149];rfl) (nb Z) Z<|.nl<|.bN<|.tN<|.rg<|.yv (.add Z Z (w6 (by omega))) Z<|.m Z Z<|.nt<|.ag (x := (k,Ha,rc,xs)) (k + 1,HS,r149,xs ++ [strV (ren0 x.nm),.slice pV x.vars.length cV,.slice pS x.vers.length cS]) ⟨rfl,trivial⟩ ⟨rfl,rfl,rfl,rfl,trivial⟩ (fun _ s => (s.pick [3,4,5,6] _ Z Z)) ⟨by dsimp only;omega,ua.trans uX,by dsimp only;rw [take_snoc hk,hx,List.map_append,List.map_append];exact (hz.up uX.up).snoc (cp_ren8 hgx.1 hVX hS) Z⟩ (by dsimp only;omega)
 try simp only [df] at h70
 obtain rfl : k = f.comps.length := by omega
 rw [List.take_length] at hz;refine Sx.freezeSeq (ds := (f.comps.map renC).map (dCp .i64)) (by simp) hz fun HZ pZ cZ uZ eZ hZ => ?_;subst eZ;refine .ex<|.tE<|.tE<|.bE<|.tN<|.sr<|.yv (.loadW Z Fx.agg31 (.head _) Z) Z<|.sW (.tail<|.head) Z Z Fx.size31 (by simp [Value.oneCell',strV]) Z<|.nt<|.rt<|?_
 exact Sx.ret1 (.inl rfl) rfl (.cell rfl Fx.agg31 (.tail _<|.head _) rfl) fun W t => ⟨_,HZ,ft_ren8 hgd.1 (h45.up (ua.trans uZ).up) (h5.up (ua.trans uZ).up) hZ,rfl,(u4.trans (u5.trans (ua.trans uZ))).grow t⟩
theorem Fx.call14 : callN Tryz.prog 14 = Bool.true := by kernel_rfl
theorem Fx.field41_1 : fieldN Tryz.prog 41 1 = Option.some 1 := by kernel_rfl
theorem ren_le8 (s : Str) : s.length ≤ (ren0 s).length := by
 unfold ren0
 split
 ·rename_i h;rw [h];exact Nat.le_refl _
 ·simp
set_option maxHeartbeats 4000000 in
set_option maxRecDepth 100000 in
theorem typesRenames_any (H : Hp) (G : Gl H) (p : Pln) (l : List Chg) (cs : List Value) (v : Value) (h : Rep H (dPln p) cs) (hl : Rep H (.seq 5 (l.map dChg)) [v]) (w : World) (hA : Agr H w) (hlo : H.lo = w.heap.size) :
 Calls Tryz.prog 4 #[.agg cs.toArray,v] w fun r w' => r = .returned (.bool true) ∧ Ext w w' := by
 have I0 : Inv w H H := ⟨.refl,hA,hlo⟩;obtain ⟨p1,c1,p2,c2,rfl,_,_⟩ := pln_open h;refine Sx.enter (H := H) Tryz.func4 rfl Tryz.ntmps4 rfl hA ?_;refine .sr<|.bx Z Z Z fun b2 => .a Z Z<|.ns<|.yv (.loadW Z Fx.agg25 (.head _) Z) Z<|.m Z Z<|.cs (X := Hp × Ft × List Value) Fx.call7 Z (fun W t => build8_st I0 h hl t) Z fun z23 hz23 => ?_
 obtain ⟨Hb,f,xf⟩ := z23;dsimp only at hz23 ⊢;obtain ⟨Ib,hxf,hpf,hgf,M,D,hM,hD,hb⟩ := hz23;have ub := Ib.up;obtain ⟨q1,d1,q2,d2,q3,d3,rfl,nf,g1,g2,g3⟩ := ft_open hxf;have hb2 := bndF_ren hgf hb;have hren := renames hgf;have hge := goe_len (frs_goe hgf (checkF f));obtain ⟨P,eP⟩ : ∃ P,P = frsP noP (probs f (checkF f)) := ⟨_,rfl⟩;obtain ⟨Q,eQ⟩ : ∃ Q,Q = frsP noP (probs (otherF f) (checkF (otherF f))) := ⟨_,rfl⟩;rw [← eP,← eQ] at hren;rw [← eP] at hge;obtain ⟨hE,hN⟩ := hren;refine .al Fx.zero31 Z fun b5 => .sW .head Z Z Fx.size31 (by simp [pbV,Value.oneCell',strV]) Z<|.ns<|.yv (.loadW Z Fx.agg31 (.head _) Z) Z<|.ct (X := List Value) Fx.call8 Z (fun W t => syntax_sy 1000 (by decide) Hb f (hb.sy hM) _ W hxf t.agr) Z fun xs H1 hxs us => ?_
 have u1 := ub.trans us;refine .yv (.cast (v' := .tuple #[.agg (pbV P).toArray,.int .i64 (P.er : Nat)]) (.call Fx.call9 Z (fun W t => typesCheck_any H1 (G.up u1.up) f xs hxs (hb.ev hD) (fun c hc => ⟨ft_names hxs c hc,(hb.all c hc).vers,fun v hv h hh => (((hb.all c hc).all v hv).2 h hh).cnt⟩) W t.agr)) (by rw [eP])) Z<|.m Z Z<|.yv (.extract Z Z) Z<|.yv (.extract Z Z) Z<|.al Fx.zero41 Z fun b6 => .sW .head Z Z Fx.size41 (by simp [pbV,Value.oneCell',strV]) Z<|.a Z Z<|.ns<|.yv (.loadW Z Fx.agg31 (.tail _<|.head _) Z) Z<|.ct (X := List Value) Fx.call14 Z (fun W t => other8_any 1000 (by decide) H1 f (hb.sy hM) hgf _ W (hxf.up us.up) t.agr) Z fun xo H2 hxo uo => .ct (X := List Value) Fx.call8 Z (fun W t => syntax_sy 1000 (by decide) H2 (otherF f) (hb2.sy hM) _ W hxo t.agr) Z fun xs2 H3 hxs2 us2 => ?_
 have u3 := u1.trans (uo.trans us2);refine .yv (.cast (v' := .tuple #[.agg (pbV Q).toArray,.int .i64 (Q.er : Nat)]) (.call Fx.call9 Z (fun W t => typesCheck_any H3 (G.up u3.up) (otherF f) xs2 hxs2 (hb2.ev hD) (fun c hc => ⟨ft_names hxs2 c hc,(hb2.all c hc).vers,fun v hv h hh => (((hb2.all c hc).all v hv).2 h hh).cnt⟩) W t.agr)) (by rw [eQ])) Z<|.m Z Z<|.yv (.extract Z Z) Z<|.yv (.extract Z Z) Z<|.al Fx.zero41 Z fun b8 => .sW .head Z Z Fx.size41 (by simp [pbV,Value.oneCell',strV]) Z<|.a Z Z<|.ns<|.yv (.fieldAddr Z Fx.field41_1) Z<|.yv (.load Z Fx.agg9 (.tail _<|.head _) Z) Z<|.a Z Z<|.nt<|.sq<|.sr<|.yv (.move Z) Z<|.yv (.neS Z Z) Z<|.nt<|.cd Z (fun h30 => ?_) (fun h30 => ?_)
 ·try simp only [dt] at h30
  have hne : P.nm ≠ [] := h30;refine .rg<|.m Z Z<|.yv (.cast (v' := strV (ren0 P.nm)) (.app (a := P.nm) (b := [113]) Z Z (by have := ren_le8 P.nm;simp only [List.length_cons,List.length_nil];omega)) (by rw [ren0_ne hne];rfl)) Z<|.a Z Z<|.ns<|.yv (.call Fx.call11 Z (fun W t => awake8_any H3 (G.up u3.up) W t.agr)) Z<|.m Z Z<|.gd Z Z<|.yv (.move Z) Z<|.gd Z Z<|.yv (.move Z) Z<|.gd Z Z<|.yv (.cast (v' := .bool true) (.eql Z Z) (by rw [hE,decide_eq_true Z])) Z<|.yv (.pickT Z Z) Z<|.m Z Z<|.gd Z Z<|.yv (.fieldAddr Z Fx.field41_1) Z<|.gd Z Z<|.yv (.load Z Fx.agg9 (.head _) Z) Z<|.gd Z Z<|.yv (.move Z) Z<|.gd Z Z<|.yv (.cast (v' := .bool true) (.eqlS Z Z) (by rw [hN];exact congrArg Value.bool (decide_eq_true Z))) Z<|.yv (.pickT Z Z) Z<|.m Z Z<|.gd Z Z<|.yv (.fieldAddr Z Fx.field41_2) Z<|.gd Z Z<|.yv (.load Z Fx.agg39 (.head _) Z) Z<|.gd Z Z<|.yv (.fieldAddr Z Fx.field41_2) Z<|.gd Z Z<|.yv (.load Z Fx.agg39 (.tail _<|.head _) Z) Z<|.gd Z Z<|.yv (.cast (v' := .bool true) (.eql Z Z) (by rw [hE,decide_eq_true Z])) Z<|.yv (.pickT Z Z) Z<|.a Z Z<|.nt<|.rt<|?_
  exact Sx.ret1 (.inl rfl) rfl (.tmp rfl) fun W t => ⟨rfl,(u3.grow t).ext⟩
 try simp only [df] at h30
 have hem : P.nm = [] := by simpa using h30
 refine .sk<|.tN<|.sr<|.yv (.call Fx.call11 Z (fun W t => awake8_any H3 (G.up u3.up) W t.agr)) Z<|.m Z Z<|.gd Z Z<|.yv (.move Z) Z<|.gd Z Z<|.yv (.move Z) Z<|.gd Z Z<|.yv (.cast (v' := .bool true) (.eql Z Z) (by rw [hE,decide_eq_true Z])) Z<|.yv (.pickT Z Z) Z<|.m Z Z<|.gd Z Z<|.yv (.fieldAddr Z Fx.field41_1) Z<|.gd Z Z<|.yv (.load Z Fx.agg9 (.head _) Z) Z<|.gd Z Z<|.yv (.move Z) Z<|.gd Z Z<|.yv (.cast (v' := .bool true) (.eqlS Z Z) (by rw [hN];rw [hem];exact congrArg Value.bool (decide_eq_true Z))) Z<|.yv (.pickT Z Z) Z<|.m Z Z<|.gd Z Z<|.yv (.fieldAddr Z Fx.field41_2) Z<|.gd Z Z<|.yv (.load Z Fx.agg39 (.head _) Z) Z<|.gd Z Z<|.yv (.fieldAddr Z Fx.field41_2) Z<|.gd Z Z<|.yv (.load Z Fx.agg39 (.tail _<|.head _) Z) Z<|.gd Z Z<|.yv (.cast (v' := .bool true) (.eql Z Z) (by rw [hE,decide_eq_true Z])) Z<|.yv (.pickT Z Z) Z<|.a Z Z<|.nt<|.rt<|?_
 exact Sx.ret1 (.inl rfl) rfl (.tmp rfl) fun W t => ⟨rfl,(u3.grow t).ext⟩
variable {H : Type} {enc : TypeId × Value → H}
theorem wrap {a : Assume} {C : Checked} {os : Os} {f : FuncId} {fn : Func} {s : ChangeSpec} {conds : List PathCond} {apart fresh handsOn again : Bool} {X : World → Array Value → Prop}
 (hX : ∀ (w w' : World) (args : Array Value),w.heap = w'.heap → X w args → X w' args)
 (own : ownKnob C.prog.godebug = none) (started : os.Started) (noInit : C.prog.inits.idxOf? f = none) (hfn : C.prog.funcs[f]? = some fn)
 (witness : ∃ (w : World) (tape : Tape) (i : Input),w.os = os ∧ (w.forCall tape i).Shaped C.prog ∧ i.vars = [] ∧ Input.okWide C.prog (w.forCall tape i) .any w.heap.size f i ∧
  ((s.pre enc C.prog fn conds apart (w.forCall tape i).memory i.args ∧ X (w.forCall tape i).memory i.args) ∧ sizedMet enc C.prog fn (OpenSpec.ofChange s) apart (w.forCall tape i).memory i.args) ∧ a.holds C.prog (lone (Frame.enter C.prog f i.args .normal) [] (w.forCall tape i)))
 (contract : ∀ (W : World) (base : Nat) (args : Array Value) (ds gs : List (DataW H)) (before : List MemPlace),
  (∀ (j : Nat) t v,fn.params[j]? = some t → args[j]? = some v → Value.okWide C.prog W .any base t v) →
  DataW.Whole enc C.prog fn.params.toList s.vars apart W args.toList ds gs before →
  X W args → W.ShapedOpen C.prog →
  Calls C.prog f args W fun e W' => ∃ v,e = .returned v ∧ s.post enc C.prog fn apart fresh handsOn again W args v W') :
 ReturnsInHanded a C os f .any (fun w args => (s.pre enc C.prog fn conds apart w args ∧ X w args) ∧ sizedMet enc C.prog fn (OpenSpec.ofChange s) apart w args) (s.post enc C.prog fn apart fresh handsOn again) := by
 refine returnsInHanded_of_calls own started noInit witness ?_;intro w tape i _ hsh _ hok hpre _;obtain ⟨_,_,_,fn',hfn',_,_,_,_,hval⟩ := hok;have e : fn' = fn := Option.some.inj (hfn'.symm.trans hfn);subst e;obtain ⟨⟨⟨ds,gs,before,hw,_⟩,hx⟩,_⟩ := hpre;have hw' := DataW.Whole.of_heap (w' := w.forCall tape i) (by rfl) hw;refine (contract (w.forCall tape i) w.heap.size i.args ds gs before hval hw' (hX _ _ _ (by rfl) hx) hsh).mono fun e W' ⟨v,he,hp⟩ => ?_;subst he;exact ChangeSpec.post_blind hp

theorem own : ownKnob Tryz.prog.godebug = none := by kernel_rfl
def laids : List (String × DataW Unit) := [("math/bits.deBruijn32tab",Rows.laid_math_bits_deBruijn32tab),("math/bits.deBruijn64tab",Rows.laid_math_bits_deBruijn64tab),("internal/strconv.uint64pow10",Rows.laid_internal_strconv_uint64pow10),("rootcause/lexer.words",Rows.laid_rootcause_lexer_words),("rootcause/lexer.symbols",Rows.laid_rootcause_lexer_symbols),("rootcause/syntax.shapes",Rows.laid_rootcause_syntax_shapes),("rootcause/syntax.forms",Rows.laid_rootcause_syntax_forms)]
theorem gTab : Tryz.prog.globalNamed "internal/strconv.uint64pow10" = some 4 := by kernel_rfl
theorem gTabT : (Tryz.prog.globals[4]?).map (·.type) = some 233 := by kernel_rfl
theorem cellsTab : Tryz.prog.cellsOf 233 = 20 := by kernel_rfl
theorem cellsTabE : Tryz.prog.cellsOf 223 = 1 := by kernel_rfl
theorem tabEq : (Rows.laid_internal_strconv_uint64pow10 : DataW Unit) = Lib.tabData .u64 Lib.pow10Tab := by kernel_rfl
theorem gt_of {W : World} (h : laidMet Tryz.prog laids W) : Gt (allH W) := by
 intro W' hA;have h1 : Lib.TabIs Tryz.prog W "internal/strconv.uint64pow10" .u64 Lib.pow10Tab := Lib.tabIs_of_head gTab gTabT Tryz.underlying233 Tryz.underlying223 cellsTabE cellsTab (tabEq ▸ h.tail.tail);unfold Lib.TabIs World.var? at *;rw [gTab] at *;simp only [Option.bind_some] at *
 split at h1
 ·rename_i cs T m hb;rw [hA 4 _ hb];exact h1
 ·cases h1
theorem gl_of {W : World} (h : laidMet Tryz.prog laids W) : Gl (allH W) :=
 ⟨laid_mem (t := 209) (.arr 24 (.str [.int .i64,.bool,.int .i64,.strg])) _ (by kernel_rfl) (by kernel_rfl) (by kernel_rfl) (by kernel_rfl) (by kernel_rfl) h.tail.tail.tail.tail.tail,
  laid_mem (t := 218) (.arr 11 (.str [.bool,.bool,.int .i64,.int .i64,.bool,.bool])) _ (by kernel_rfl) (by kernel_rfl) (by kernel_rfl) (by kernel_rfl) (by kernel_rfl) h.tail.tail.tail.tail.tail.tail,
  laid_mem (t := 231) (.arr 39 .strg) _ (by kernel_rfl) (by kernel_rfl) (by kernel_rfl) (by kernel_rfl) (by kernel_rfl) h.tail.tail.tail,
  laid_mem (t := 216) (.arr 25 .strg) _ (by kernel_rfl) (by kernel_rfl) (by kernel_rfl) (by kernel_rfl) (by kernel_rfl) h.tail.tail.tail.tail⟩
theorem laid_met (os : Os) (args : Array Value) : laidMet Tryz.prog laids ((World.laidAll Tryz.prog os laids).forCall (fun _ _ => 0) ⟨#[],args,[]⟩).memory :=
 laidMet_laidAll _ (by kernel_rfl) (by kernel_rfl)
theorem laid_shaped (os : Os) (args : Array Value) : ((World.laidAll Tryz.prog os laids).forCall (fun _ _ => 0) ⟨#[],args,[]⟩).Shaped Tryz.prog :=
 World.shaped_of_ZipB (by kernel_rfl) (by kernel_rfl)
theorem ext_kept {W W' : World} (h : Ext W W') : ∀ may,W.keptBut W' may := fun may => (Ext.below h).frame may
theorem laidOut : laidOutB Tryz.prog = true := by kernel_rfl
end Go.Proofs.YtohfacbajcenoaaGreatDoor
