/- Texts of the proof, one behind the other. -/
import Derived.Test.YtohfacbajcenoaaGreatDoorMe
import Derived.Test.YtohfacbajcenoaaGreatDoorTie
import Derived.ProofKit
import Derived.OpenShut
import Derived.ShutString
import Derived.Lay
import Derived.Stop.LaidErr
import Derived.Stop.Joined
import Derived.Shelf.Vars
import Derived.Lib.LaidTab
import Derived.Lib.SmallJoins
import Derived.SevenTiedAt
set_option linter.all false
namespace Go.Proofs.YtohfacbajcenoaaGreatDoor
open Go.RowKit Go.Par Go.Sx
theorem fd2 (a m : Nat) : Int.fdiv (a : Int) (2 ^ m) = ((a / 2 ^ m : Nat) : Int) := by
 rw [Int.fdiv_eq_ediv_of_nonneg _ (Int.pow_nonneg (by decide))]
 rw [Int.natCast_ediv,Int.natCast_pow];rfl
theorem tm2 (a b : Nat) : Int.tmod (a : Int) (b : Int) = ((a % b : Nat) : Int) := by
 rw [Int.tmod_eq_emod_of_nonneg (Int.natCast_nonneg _)];rfl
theorem mulN {n : Nat} (h : n ≤ 3) : IntKind.i64.wrap ((n : Int) * n) = ((n * n : Nat) : Int) := by
 have key : ∀ i ∈ List.range 4,IntKind.i64.wrap ((i : Int) * i) = ((i * i : Nat) : Int) := by decide
 exact key n (List.mem_range.2 (by omega))
theorem quoN {a b : Nat} (h : a / b < 3) : IntKind.i64.wrap (Int.tdiv (a : Int) (b : Int)) = ((a / b : Nat) : Int) := by
 rw [Int.tdiv_eq_ediv_of_nonneg (Int.natCast_nonneg _),show (a : Int) / (b : Int) = ((a / b : Nat) : Int) from rfl]
 have h3 : ∀ n : Nat,n < 3 → IntKind.i64.wrap (n : Int) = (n : Int) := fun n hn => w64 (by omega) (by omega)
 exact h3 _ h
theorem take_min3 {α β : Type} {f : α → β} (l : List α) (n : Nat) : (l.map f).take (min l.length n) = (l.map f).take n := by
 have := take_min (l.map f) n
 rwa [List.length_map] at this
theorem vrI_shut {H : Hp} {j : Nat} (h : j < 10) : Rep H (dVr .i64 (vrI j)) [strV (nmB 120 j),.int .i64 1,.int .i64 (j : Nat)] := by
 have := vr_shut (H := H) (k := .i64) (x := vrI j) (by simp [vrI,nmB])
 have e : (Int64.ofNat j).toInt = (j : Int) := Int64.toInt_ofNat_of_lt (by omega)
 rw [show (vrI j).init.toInt = (j : Int) from e] at this
 exact this
theorem lk_shut4 {H : Hp} (a b : Nat) {n : Nat} (h : n < 4) : Rep H (dLk ⟨abcS a,abcS b,Int64.ofNat n⟩) [strV (abcS a),strV (abcS b),.int .i64 (n : Nat)] := by
 have := lk_shut (H := H) (x := ⟨abcS a,abcS b,Int64.ofNat n⟩) (by simp [abcS]) (by simp [abcS])
 have e : (Int64.ofNat n).toInt = (n : Int) := Int64.toInt_ofNat_of_lt (by omega)
 simp only [e] at this
 exact this
theorem lnkP_no {n k : Nat} {l : Bs} (hk : k < l.length) (h : ¬ 0 < l[k].toNat % 4) : lnkP n l k = [] := by unfold lnkP;rw [getD_at hk,if_neg h]
theorem lnkP_yes {n k : Nat} {l : Bs} (hk : k < l.length) (h : 0 < l[k].toNat % 4) : lnkP n l k = [⟨abcS (k / n),abcS (k % n),Int64.ofNat (l[k].toNat % 4)⟩] := by unfold lnkP;rw [getD_at hk,if_pos h]
theorem okB_mk {p : Pln} {k : Nat} {x : Prt} (hk : k < (prtsP p).length) (hf : p.flags.toNat % 3 ≤ 2) (hpos : 0 < (prtsP p).length ∧ (prtsP p).length ≤ 3) (hi : 0 < intsP x ∧ intsP x ≤ 3) : okB (mkP (arsP p) (p.flags.toNat % 3) k x) := by
 refine ⟨hi.1,hi.2,hf,by simpa [mkP,arsP] using hpos.1,by simpa [mkP,arsP] using hpos.2,by simpa [mkP,arsP] using hk,?_⟩
 intro l hl
 obtain ⟨y,_,rfl⟩ := List.mem_map.1 hl
 have := arP_len y
 exact ⟨by omega,by omega,fun n hn => arP_mem hn⟩
theorem fst_len {p : Pln} {k nf : Nat} {x : Prt} (hk : k < (prtsP p).length) (h : (arsP p).getD k [] = arP x) : (fstP x).length ≤ arL (mkP (arsP p) nf k x) (mkP (arsP p) nf k x).own := by
 show _ ≤ ((arsP p).getD k []).length
 rw [h,arP_len]
 unfold fstP
 split
 ·simp;omega
 ·rw [List.length_take];omega
theorem sec_len {p : Pln} {k nf : Nat} {x : Prt} (hk : k < (prtsP p).length) (h : (arsP p).getD k [] = arP x) : (x.sec.take 3).length ≤ arL (mkP (arsP p) nf k x) (mkP (arsP p) nf k x).own := by
 show _ ≤ ((arsP p).getD k []).length
 rw [h,arP_len,List.length_take];omega
theorem hdsP_pars (M : Mk) (n : Nat) : ∀ (l : List Cd) (k : Nat),hdsP { M with params := n } k l = hdsP M k l
 | [],_ => rfl
 | c :: r,k => by rw [hdsP,hdsP,hdsP_pars M n r (k + 1)];rfl
theorem hdsP_par {H : Hp} {M : Mk} {n : Nat} {l : List Cd} {v : Value} (h : Rep H (.seq 3 ((hdsP { M with params := n } 0 l).map (dHd .i64))) [v]) : Rep H (dVs .i64 (hdsP M 0 l)) [v] := by rwa [hdsP_pars] at h
set_option maxHeartbeats 8000000 in
set_option maxRecDepth 100000 in
theorem build_plan (H : Hp) (p : Pln) (cs : List Value) (w : World) (h : Rep H (dPln p) cs) (hA : Agr H w) : Calls Tryz.prog 15 #[.agg cs.toArray] w fun r w' => ∃ (v : List Value) (H' : Hp),Rep H' (dFt .i64 (buildF p)) v ∧ r = .returned (.agg v.toArray) ∧ Grow H w H' w' := by
 obtain ⟨p1,c1,p2,c2,rfl,h1,h2⟩ := pln_open h
 have hcap1 := h1.cap
 have hcap2 := h2.cap
 refine Sx.enter (H := H) Tryz.func15 rfl Tryz.ntmps15 rfl hA ?_
 refine .sr<|.bx Z Z Z fun b1 => .al Fx.zero31 Z fun b2 => .ns<|.yv (.fieldAddr Z Fx.field25_2) Z<|.yv (.load Z Fx.agg23 (.tail _<|.head _) Z) Z<|.yv (.lenSl Fx.sl23 Z) Z<|.yv (.call Fx.call38 Z (fun W s => least_any H p.comps.length 3 W s.agr)) Z<|.a Z Z<|.ns<|.yv (.fieldAddr Z Fx.field25_2) Z<|.yv (.load Z Fx.agg23 (.tail _<|.head _) Z) Z<|.m Z Z<|.yv (.cutHi2 Fx.sl23 Z Z (h := min p.comps.length 3) Z (by have := h2.len.2.1;omega)) Z<|.a Z Z<|.nt<|.cu (X := Nat × Hp × Value) [(1,_),(2,_)] ⟨rfl,rfl,trivial⟩ (fun z => [(3,.int .i64 (z.1 : Nat)),(4,z.2.2)]) (fun z => z.2.1) (fun z => [.box b1 [.int .u8 p.flags.toNat,.slice p1 p.links.length c1,.slice p2 p.comps.length c2] 25,.box b2 [.string ⟨#[]⟩,.slice none 0 0,.slice none 0 0,.slice none 0 0] 31]) (fun z => z.1 = (prtsP p).length ∧ HUp w H z.2.1 ∧ Rep z.2.1 (.seq 4 ((prtsP p).map dPrt)) [z.2.2]) ?_ fun z hC => ?_
 ·
  refine .sr<|.m Z Z<|.yv (.eql Z Z) Z<|.nt<|.cd Z (fun h31 => ?_) (fun h31 => ?_)
  ·try simp only [dt] at h31
   have h0 : p.comps.length = 0 := by omega
   refine .rg<|.yv (.build Z Fx.bld121) Z<|.bl Z (Fx.bsl23_1 _ _ _ _) Z fun b33 => ?_
   refine Sx.freezeBox fun H1 u1 m1 => ?_
   exact .a Z Z<|.a Z Z<|.nt<|.me (1,H1,_) ⟨rfl,rfl,trivial⟩ ⟨rfl,rfl,trivial⟩ (fun _ s => s.pick [1,0] [_,_] Z Z) ⟨by rw [prtsP,if_pos h0];rfl,u1,by rw [prtsP,if_pos h0];exact Rep.mk (n := 1) (c := 1) m1 (.single (prt_shut (x := ⟨0,0,[],[]⟩) (Rep.empty (by decide)) (Rep.empty (by decide))) Z) Z (Nat.le_refl _) (by decide)⟩
  try simp only [df] at h31
  have h0 : ¬ p.comps.length = 0 := by omega
  exact .sk<|.tN<|.me (min p.comps.length 3,H,_) ⟨rfl,rfl,trivial⟩ ⟨rfl,rfl,trivial⟩ (fun _ s => s.pick [1,0] [_,_] Z Z) ⟨by rw [prtsP,if_neg h0,List.length_take];exact Nat.min_comm _ _,.refl,by rw [prtsP,if_neg h0,List.map_take];have := rep_take2 h2 (hi := min p.comps.length 3) (by omega);rw [take_min3] at this;exact this⟩
 obtain ⟨N,H1,pv⟩ := z
 dsimp only at hC ⊢
 obtain ⟨hN,u1,hps⟩ := hC
 obtain ⟨pp,cp,e,_⟩ := hps.sl
 simp only [List.cons.injEq,and_true,List.length_map] at e
 subst e
 subst hN
 have hpos := prtsP_len p
 have hl1 := h1.up u1.up
 have hpcap := hps.cap
 have hf3 : p.flags.toNat % 3 ≤ 2 := by omega
 refine .sr<|.yv (.build Z (Fx.bld31_0 _)) Z<|.al Fx.zero31 Z fun b5 => .sW .head Z Z Fx.size31 (by simp [Value.oneCell',strV]) Z<|.nt<|.sq<|.sr<|.yv (.fieldAddr Z Fx.field25_0) Z<|.yv (.load Z Fx.agg5 (.tail _<|.head _) Z) Z<|.yv (.rem Z Z (by decide) (c := ((p.flags.toNat % 3 : Nat) : Int)) (by rw [Int.tmod_eq_emod_of_nonneg (by omega)];omega)) Z<|.yv (.conv Z Fx.int5 Fx.int3 (c := ((p.flags.toNat % 3 : Nat) : Int)) (w6 (by omega))) Z<|.ct (X := Value) Fx.call39 Z (fun W s => names_any H1 102 (p.flags.toNat % 3) (by omega) W s.agr) Z fun v39 H39 hn39 u39 => ?_
 obtain ⟨pn39,cn39,e39,_⟩ := hn39.sl
 simp only [List.cons.injEq,and_true,List.length_map,namesB_len] at e39
 subst e39
 refine .yv (.lenSl Fx.sl54 Z) Z<|.m Z Z<|?_
 refine Sx.row0 88 2 ?_
 refine .nt<|.bk<|.lp (X := Nat × Value × List Value) [(1,_),(2,_),(3,_),(4,_),(5,_),(39,_),(40,_)] ⟨rfl,rfl,rfl,rfl,rfl,rfl,rfl,trivial⟩ [_,_] (fun z => [(41,.int .i64 (z.1 : Nat))]) (fun z => H39) (fun z => [.row 88 2 z.2.1 z.1 z.2.2,.box b5 [strV fleetN,z.2.1,.slice none 0 0,.slice none 0 0] 31]) (fun z => z.1 ≤ (p.flags.toNat % 3) ∧ RepZ H39 2 ((flgsP p.flags z.1).map dFg) z.2.2) (fun z => (p.flags.toNat % 3) - z.1) (0,.slice none 0 0,[]) (fun _ s => s) ⟨rfl,trivial⟩ ⟨by simp,RepZ.nil⟩ fun z hC => ?_
 obtain ⟨k,r,xs⟩ := z
 dsimp only at hC ⊢
 obtain ⟨hk0,hz⟩ := hC
 refine .sr<|.yv (.lss Z Z) Z<|.nt<|.sq<|.cd Z (fun h42 => ?_) (fun h42 => ?_)
 ·try simp only [dt] at h42
  have hk : k < (p.flags.toNat % 3) := by omega
  obtain ⟨bE,oE,hpE,mE⟩ := name_at hn39 (k := k) hk
  subst hpE
  exact .sk<|.tN<|.sq<|.bk<|.sr<|.m Z Z<|.yv (.indexSl Fx.sl54 Z Z (i := k) Z (by omega) (q := oE + k * 1) Z) Z<|.yv (.loadM Z Fx.agg9 mE (k := 0) Z Z) Z<|.a Z Z<|.a Z Z<|.nt<|.fl (trip := [(_,_,_),(_,_,_),(_,_,_),(_,_,_),(_,_,_),(_,_,_),(_,_,_),(_,_,_),(_,_,_),(_,_,_),(_,_,_),(_,_,_)]) 12 [(0,0),(1,0),(2,0),(3,0),(4,0),(5,0),(6,0),(7,0),(8,0),(9,0),(10,0),(11,1)] (by kernel_rfl) (by kernel_rfl) Z<|.yv (.fieldAddr Z Fx.field31_1) Z<|.yv (.load Z Fx.agg27 (.tail _<|.head _) Z) Z<|.m Z Z<|.yv (.fieldAddr Z Fx.field25_0) Z<|.yv (.load Z Fx.agg5 (.tail _<|.tail _<|.head _) Z) Z<|.m Z Z<|.yv (.add Z Z (c := ((4 + k : Nat) : Int)) ((w6 (by omega)).trans (by omega))) Z<|.yv (.shr Z Z (m := 4 + k) Z (by show 4 + k ≤ 8;omega) (c := ((p.flags.toNat / 2 ^ (4 + k) : Nat) : Int)) (fd2 _ _)) Z<|.yv (.rem Z Z (by decide) (c := ((p.flags.toNat / 2 ^ (4 + k) % 2 : Nat) : Int)) (tm2 _ 2)) Z<|.yv (.eql Z Z) Z<|.yv (.build Z (Fx.bld88_0_1 _ _)) Z<|.bl Z (Fx.bsl27_1 _ _) Z fun b57 => .fn (tl := [_,_,_]) Z<|.ap (news := [strV (nmB 102 k),.bool (flgP p.flags k).init]) Fx.row27 Z (fun _ => (.tail<|.head)) Z (.box (.head _) z0) Z (by simp [Value.oneCell',strV,abcS]) (by simp [maxLen];omega) (by omega) Z fun r58 _ => .ra (.tail _<|.head _) fun p58 c58 e58 => .yv (.fieldAddr Z Fx.field31_1) Z<|.st (.tail<|.tail<|.head) Z Z Fx.size27 (by rw [e58];rfl) (nb Z) Z<|.nl<|.bN<|.tN<|.rg<|.yv (.add Z Z (w6 (by omega))) Z<|.m Z Z<|.nt<|.ag (x := (k,r,xs)) (k + 1,r58,xs ++ [strV (nmB 102 k),.bool (flgP p.flags k).init]) ⟨rfl,trivial⟩ ⟨rfl,rfl,rfl,rfl,rfl,rfl,rfl,trivial⟩ (fun _ s => (s.pick [1,2,3,4] _ Z Z)) ⟨by dsimp only;omega,by dsimp only;rw [flgsP_succ,List.map_append];exact hz.snoc (fg_shut (x := flgP p.flags k) (by simp [flgP,nmB])) Z⟩ (by dsimp only;omega)
 try simp only [df] at h42
 obtain rfl : k = (p.flags.toNat % 3) := by omega
 refine Sx.freezeSeq (ds := (flgsP p.flags (p.flags.toNat % 3)).map dFg) (by simp [flgsP_len]) hz fun H4 p4 c4 u4 e4 hfl => ?_
 subst e4
 refine .ex<|.tE<|.tE<|.bE<|.tN<|.sr<|.bl Z (Fx.bsl54_3 _ _ _) Z fun b61 => ?_
 refine Sx.freezeBox fun H5 u5 m5 => ?_
 refine .a Z Z<|.nt<|.sq<|.sr<|.a Z Z<|?_
 refine Sx.row0 91 3 ?_
 have hl5 := h1.up (u1.trans (u39.trans (u4.trans u5))).up
 obtain ⟨NN,hNN⟩ : ∃ NN,NN = (prtsP p).length * (prtsP p).length := ⟨_,rfl⟩
 have hN9 : NN ≤ 9 := by rw [hNN];exact Nat.mul_le_mul hpos.2 hpos.2
 refine .nt<|.bk<|.lp (X := Nat × Nat × Value × List Value) [(1,_),(2,_),(3,_),(4,_),(5,_),(8,_)] ⟨rfl,rfl,rfl,rfl,rfl,rfl,trivial⟩ [_,_] (fun z => [(9,.int .i64 (z.1 : Nat))]) (fun z => H5) (fun z => [.row 91 3 z.2.2.1 z.2.1 z.2.2.2,.box b5 [strV fleetN,.slice p4 (p.flags.toNat % 3) c4,z.2.2.1,.slice none 0 0] 31]) (fun z => z.1 ≤ p.links.length ∧ z.1 ≤ NN ∧ z.2.1 = (lnksP (prtsP p).length p.links z.1).length ∧ RepZ H5 3 ((lnksP (prtsP p).length p.links z.1).map dLk) z.2.2.2) (fun z => p.links.length - z.1) (0,0,.slice none 0 0,[]) (fun _ s => s) ⟨rfl,trivial⟩ ⟨by simp,by simp,rfl,RepZ.nil⟩ fun z hC => ?_
 obtain ⟨k,m,r,xs⟩ := z
 dsimp only at hC ⊢
 obtain ⟨hk0,hk1,hm,hz⟩ := hC
 have hmk := lnksP_len (prtsP p).length p.links k
 refine .sq<|.cu (X := Bool) [(1,_),(2,_),(3,_),(4,_),(5,_),(8,_),(9,_)] ⟨rfl,rfl,rfl,rfl,rfl,rfl,rfl,trivial⟩ (fun z => [(73,.bool z)]) (fun z => H5) (fun z => [.row 91 3 r m xs,.box b5 [strV fleetN,.slice p4 (p.flags.toNat % 3) c4,r,.slice none 0 0] 31,.box b2 [.string ⟨#[]⟩,.slice none 0 0,.slice none 0 0,.slice none 0 0] 31,.box b1 [.int .u8 p.flags.toNat,.slice p1 p.links.length c1,.slice p2 p.comps.length c2] 25]) (fun z => z = decide (k < p.links.length ∧ k < NN)) ?_ fun z hC => ?_
 ·
  refine .rg<|.m Z Z<|.yv (.fieldAddr Z Fx.field25_1) Z<|.yv (.load Z Fx.agg22 (.tail _<|.tail _<|.head _) Z) Z<|.yv (.lenSl Fx.sl22 Z) Z<|.yv (.lss Z Z) Z<|.m Z Z<|.b2 (fun h67 => ?_) (fun h67 => ?_)
  ·try simp only [dt] at h67
   exact .gd Z Z<|.yv (.move Z) Z<|.gd Z Z<|.yv (.move Z) Z<|.gd Z Z<|.yv (.move Z) Z<|.gd Z Z<|.yv (.mul Z Z (c := ((NN : Nat) : Int)) (by rw [hNN];exact mulN hpos.2)) Z<|.gd Z Z<|.yv (.lss Z Z) Z<|.yv (.pickT Z Z) Z<|.nt<|.me _ ⟨rfl,trivial⟩ ⟨rfl,rfl,rfl,rfl,rfl,rfl,rfl,trivial⟩ (fun _ s => s.pick [0,1,3,2] [_,_,_,_] Z Z) (by rw [Bool.eq_iff_iff,decide_eq_true_eq];first | (rw [decide_eq_true_eq];omega) | exact ⟨fun _ => by omega,fun _ => rfl⟩ | exact ⟨fun h => (by cases h),fun h => by omega⟩)
  try simp only [df] at h67
  exact .gF Z Z Z Z<|.gF Z Z Z Z<|.gF Z Z Z Z<|.gF Z Z Z Z<|.gF Z Z Z Z<|.yv (.pickF Z Z) Z<|.nt<|.me _ ⟨rfl,trivial⟩ ⟨rfl,rfl,rfl,rfl,rfl,rfl,rfl,trivial⟩ (fun _ s => s.pick [0,1,3,2] [_,_,_,_] Z Z) (by rw [Bool.eq_iff_iff,decide_eq_true_eq];first | (rw [decide_eq_true_eq];omega) | exact ⟨fun _ => by omega,fun _ => rfl⟩ | exact ⟨fun h => (by cases h),fun h => by omega⟩)
 have e73 := hC
 refine .cd Z (fun h73 => ?_) (fun h73 => ?_)
 ·have q73 : k < p.links.length ∧ k < NN := by rw [h73] at e73;exact of_decide_eq_true e73.symm
  obtain ⟨hkl,hkn⟩ := q73
  obtain ⟨bE,oE,cE,hpE,rE,lE,mE⟩ := hl5.elem (map_at (f := dU8) hkl)
  cases hpE
  obtain rfl := u8_open rE
  have hdv : k / (prtsP p).length < 3 := by rw [Nat.div_lt_iff_lt_mul hpos.1];calc k < NN := hkn
   _ = (prtsP p).length * (prtsP p).length := hNN
   _ ≤ 3 * (prtsP p).length := Nat.mul_le_mul_right _ hpos.2
  have hmd : k % (prtsP p).length < 3 := Nat.lt_of_lt_of_le (Nat.mod_lt _ hpos.1) hpos.2
  refine .sk<|.tN<|.sq<|.bk<|.sr<|.yv (.fieldAddr Z Fx.field25_1) Z<|.yv (.load Z Fx.agg22 (.tail _<|.tail _<|.tail _<|.head _) Z) Z<|.m Z Z<|.yv (.indexSl Fx.sl22 Z Z (i := k) Z (by omega) (q := oE + k * 1) Z) Z<|.yv (.loadM Z Fx.agg5 mE (k := 0) Z Z) Z<|.yv (.rem Z Z (by decide) (c := ((p.links[k].toNat % 4 : Nat) : Int)) (by rw [Int.tmod_eq_emod_of_nonneg (by omega)];omega)) Z<|.yv (.gtr Z Z) Z<|.nt<|.cd Z (fun h82 => ?_) (fun h82 => ?_)
  ·try simp only [dt] at h82
   have hq : 0 < p.links[k].toNat % 4 := by omega
   exact .fl (trip := [(_,_,_),(_,_,_),(_,_,_),(_,_,_),(_,_,_),(_,_,_),(_,_,_),(_,_,_),(_,_,_),(_,_,_),(_,_,_),(_,_,_),(_,_,_),(_,_,_),(_,_,_),(_,_,_),(_,_,_),(_,_,_),(_,_,_),(_,_,_),(_,_,_),(_,_,_),(_,_,_)]) 23 [(0,0),(1,0),(2,0),(3,0),(4,0),(5,0),(6,0),(7,0),(8,0),(9,0),(10,0),(11,0),(12,0),(13,0),(14,0),(15,0),(16,0),(17,0),(18,0),(19,0),(20,0),(21,0),(22,1)] (by kernel_rfl) (by kernel_rfl) Z<|.yv (.fieldAddr Z Fx.field31_2) Z<|.yv (.load Z Fx.agg28 (.tail _<|.head _) Z) Z<|.m Z Z<|.m Z Z<|.m Z Z<|.yv (.quo Z Z (by omega) (c := ((k / (prtsP p).length : Nat) : Int)) (quoN hdv)) Z<|.yv (.indexSl Fx.sl54 Z Z (i := k / (prtsP p).length) Z hdv (q := k / (prtsP p).length) (by omega)) Z<|.yv (.loadM Z Fx.agg9 m5 (k := k / (prtsP p).length) (by omega) (abc_at hdv)) Z<|.m Z Z<|.m Z Z<|.m Z Z<|.yv (.rem Z Z (by omega) (c := ((k % (prtsP p).length : Nat) : Int)) (tm2 _ _)) Z<|.yv (.indexSl Fx.sl54 Z Z (i := k % (prtsP p).length) Z hmd (q := k % (prtsP p).length) (by omega)) Z<|.yv (.loadM Z Fx.agg9 m5 (k := k % (prtsP p).length) (by omega) (abc_at hmd)) Z<|.yv (.fieldAddr Z Fx.field25_1) Z<|.yv (.load Z Fx.agg22 (.tail _<|.tail _<|.tail _<|.head _) Z) Z<|.m Z Z<|.yv (.indexSl Fx.sl22 Z Z (i := k) Z (by omega) (q := oE + k * 1) Z) Z<|.yv (.loadM Z Fx.agg5 mE (k := 0) Z Z) Z<|.yv (.rem Z Z (by decide) (c := ((p.links[k].toNat % 4 : Nat) : Int)) (by rw [Int.tmod_eq_emod_of_nonneg (by omega)];omega)) Z<|.yv (.conv Z Fx.int5 Fx.int3 (c := ((p.links[k].toNat % 4 : Nat) : Int)) (w6 (by omega))) Z<|.yv (.build Z (Fx.bld91_0_1_2 _ _ _)) Z<|.bl Z (Fx.bsl28_1 _ _ _) Z fun b105 => .fn (tl := [_,_,_]) Z<|.ap (news := [strV (abcS (k / (prtsP p).length)),strV (abcS (k % (prtsP p).length)),.int .i64 (p.links[k].toNat % 4 : Nat)]) Fx.row28 Z (fun _ => (.tail<|.head)) Z (.box (.head _) z0) Z (by simp [Value.oneCell',strV,abcS]) (by simp [maxLen];omega) (by omega) Z fun r106 _ => .ra (.tail _<|.head _) fun p106 c106 e106 => .yv (.fieldAddr Z Fx.field31_2) Z<|.st (.tail<|.tail<|.head) Z Z Fx.size28 (by rw [e106];rfl) (nb Z) Z<|.nl<|.bN<|.tN<|.rg<|.m Z Z<|.yv (.add Z Z (w6 (by omega))) Z<|.a Z Z<|.nt<|.ag (x := (k,m,r,xs)) (k + 1,m + 1,r106,xs ++ [strV (abcS (k / (prtsP p).length)),strV (abcS (k % (prtsP p).length)),.int .i64 (p.links[k].toNat % 4 : Nat)]) ⟨rfl,trivial⟩ ⟨rfl,rfl,rfl,rfl,rfl,rfl,trivial⟩ (fun _ s => (s.pick [1,2,4,3] _ Z Z)) (by have hL := lnkP_yes (n := (prtsP p).length) hkl hq;exact ⟨by dsimp only;omega,by dsimp only;omega,by dsimp only;rw [lnksP_succ,hL];simp [hm],by dsimp only;rw [lnksP_succ,hL,List.map_append];exact hz.snoc (lk_shut4 _ _ (by omega)) Z⟩) (by dsimp only;omega)
  try simp only [df] at h82
  have hq : ¬ 0 < p.links[k].toNat % 4 := by omega
  exact .sk<|.bN<|.tN<|.rg<|.m Z Z<|.yv (.add Z Z (w6 (by omega))) Z<|.a Z Z<|.nt<|.ag (x := (k,m,r,xs)) (k + 1,m,r,xs) ⟨rfl,trivial⟩ ⟨rfl,rfl,rfl,rfl,rfl,rfl,trivial⟩ (fun _ s => (s.pick [0,1,3,2] _ Z Z)) (by have hL := lnkP_no (n := (prtsP p).length) hkl hq;exact ⟨by dsimp only;omega,by dsimp only;omega,by dsimp only;rw [lnksP_succ,hL,List.append_nil];exact hm,by dsimp only;rw [lnksP_succ,hL,List.append_nil];exact hz⟩) (by dsimp only;omega)
 have q73 : ¬ (k < p.links.length ∧ k < NN) := by rw [h73] at e73;exact of_decide_eq_false e73.symm
 have hkm : k = min p.links.length ((prtsP p).length * (prtsP p).length) := by rw [← hNN];omega
 subst hkm
 subst hm
 refine Sx.freezeSeq (ds := (lnksP (prtsP p).length p.links (min p.links.length ((prtsP p).length * (prtsP p).length))).map dLk) (by simp) hz fun H6 p6 c6 u6 e6 hlk => ?_
 subst e6
 have hfl6 := hfl.up (u5.trans u6).up
 have hps6 := hps.up (u39.trans (u4.trans (u5.trans u6))).up
 have m56 := m5.up u6.up
 refine .ex<|.tE<|.tE<|.bE<|.tN<|.sr<|.a Z Z<|?_
 refine Sx.row0 124 1 ?_
 refine .nt<|.sq<|.sr<|.m Z Z<|.yv (.lenSl Fx.sl23 Z) Z<|.m Z Z<|.nt<|.bk<|.lp (X := Nat × Hp × Value × List Value) [(2,_),(4,_),(5,_),(8,_),(108,_),(109,_)] ⟨rfl,rfl,rfl,rfl,rfl,rfl,trivial⟩ [_,_,_] (fun z => [(10,z.2.2.1),(110,.int .i64 (z.1 : Nat))]) (fun z => z.2.1) (fun z => [.row 124 1 z.2.2.1 z.1 z.2.2.2]) (fun z => z.1 ≤ (prtsP p).length ∧ HUp w H6 z.2.1 ∧ RepZ z.2.1 1 ((((prtsP p).take z.1).map arP).map dAr) z.2.2.2) (fun z => (prtsP p).length - z.1) (0,H6,.slice none 0 0,[]) (fun _ s => s) ⟨rfl,rfl,trivial⟩ ⟨by simp,.refl,RepZ.nil⟩ fun z hC => ?_
 obtain ⟨k,H2,r,xs⟩ := z
 dsimp only at hC ⊢
 obtain ⟨hk0,u2,hz⟩ := hC
 refine .sr<|.yv (.lss Z Z) Z<|.nt<|.sq<|.cd Z (fun h111 => ?_) (fun h111 => ?_)
 ·try simp only [dt] at h111
  have hk : k < (prtsP p).length := by omega
  obtain ⟨bE,oE,cE,hpE,rE,lE,mE⟩ := (hps6.up u2.up).elem (map_at (f := dPrt) hk)
  cases hpE
  refine .sk<|.tN<|.sq<|.bk<|.sr<|.yv (.indexSl Fx.sl23 Z Z Z (by omega) (q := oE + k * 4) Z) Z<|.yv (.loadMW Z Fx.agg121 mE lE) Z<|.al Fx.zero121 Z fun b12 => .sV .head Z Z Fx.size121 lE rE.one Z<|.nt<|.rg<|.m Z Z<|.yv (.loadW Z Fx.agg121 (.head _) lE) Z<|.ct (X := Value) Fx.call40 Z (fun W s => arity_prt H2 _ cE W rE s.agr) Z fun v116 H116 hn116 u116 => ?_
  obtain ⟨pn116,cn116,e116,_⟩ := hn116.sl
  simp only [List.cons.injEq,and_true,List.length_map] at e116
  subst e116
  exact .bl Z (Fx.bsl123_1 _ _ _) Z fun b117 => .ap (news := [.slice pn116 (arP (prtsP p)[k]).length cn116]) Fx.row123 Z (fun _ => (.tail<|.tail<|.head)) Z (.box (.head _) z0) Z (by simp [Value.oneCell']) (by simp [maxLen];omega) (by omega) Z fun r118 _ => .a Z Z<|.nl<|.bN<|.tN<|.rg<|.yv (.add Z Z (w6 (by omega))) Z<|.m Z Z<|.nt<|.ag (x := (k,H2,r,xs)) (k + 1,H116,r118,xs ++ [.slice pn116 (arP (prtsP p)[k]).length cn116]) ⟨rfl,rfl,trivial⟩ ⟨rfl,rfl,rfl,rfl,rfl,rfl,trivial⟩ (fun _ s => (s.pick [2,3,4,5] _ Z Z)) ⟨by dsimp only;omega,u2.trans u116,by dsimp only;rw [take_snoc hk,List.map_append,List.map_append];exact (hz.up u116.up).snoc hn116 Z⟩ (by dsimp only;omega)
 try simp only [df] at h111
 obtain rfl : k = (prtsP p).length := by omega
 rw [List.take_length] at hz
 refine Sx.freezeSeq (ds := ((prtsP p).map arP).map dAr) (by simp) hz fun H7 p7 c7 u7 e7 har => ?_
 subst e7
 have u67 := u2.trans u7
 have hfl7 := hfl6.up u67.up
 have hlk7 := hlk.up u67.up
 have hps7 := hps6.up u67.up
 have m57 := m56.up u67.up
 refine .ex<|.tE<|.tE<|.bE<|.tN<|.sq<|.sr<|.m Z Z<|.yv (.lenSl Fx.sl23 Z) Z<|.m Z Z<|?_
 refine Sx.row0 78 3 ?_
 refine .nt<|.bk<|.lp (X := Nat × Hp × Value × List Value) [(2,_),(5,_),(8,_),(10,_),(120,_),(121,_)] ⟨rfl,rfl,rfl,rfl,rfl,rfl,trivial⟩ [_,_] (fun z => [(122,.int .i64 (z.1 : Nat))]) (fun z => z.2.1) (fun z => [.row 78 3 z.2.2.1 z.1 z.2.2.2,.box b5 [strV fleetN,.slice p4 (p.flags.toNat % 3) c4,.slice p6 (lnksP (prtsP p).length p.links (min p.links.length ((prtsP p).length * (prtsP p).length))).length c6,z.2.2.1] 31]) (fun z => z.1 ≤ (prtsP p).length ∧ HUp w H7 z.2.1 ∧ RepZ z.2.1 3 ((cmpsP (arsP p) (p.flags.toNat % 3) ((prtsP p).take z.1)).map (dCp .i64)) z.2.2.2) (fun z => (prtsP p).length - z.1) (0,H7,.slice none 0 0,[]) (fun _ s => s) ⟨rfl,trivial⟩ ⟨by simp,.refl,RepZ.nil⟩ fun z hC => ?_
 obtain ⟨k,H2,rc,xs⟩ := z
 dsimp only at hC ⊢
 obtain ⟨hk0,u2,hz⟩ := hC
 refine .sr<|.yv (.lss Z Z) Z<|.nt<|.sq<|.cd Z (fun h123 => ?_) (fun h123 => ?_)
 ·try simp only [dt] at h123
  have hk : k < (prtsP p).length := by omega
  obtain ⟨bE,oE,cE,hpE,rE,lE,mE⟩ := (hps7.up u2.up).elem (map_at (f := dPrt) hk)
  cases hpE
  have hpa : (arsP p).getD k [] = arP (prtsP p)[k] := by unfold arsP;simp [hk]
  generalize hx : (prtsP p)[k] = x at rE hpa
  obtain ⟨q1,d1,q2,d2,rfl,g1,g2⟩ := prt_open rE
  have hcap1 := g1.cap
  have hcap2 := g2.cap
  have hints : 0 < intsP x ∧ intsP x ≤ 3 := by unfold intsP;omega
  have htabs : tabsP x ≤ 1 := by unfold tabsP;omega
  have m52 := m57.up u2.up
  have k3 : k < 3 := by omega
  refine .sk<|.tN<|.sq<|.bk<|.sr<|.m Z Z<|.yv (.indexSl Fx.sl23 Z Z Z (by omega) (q := oE + k * 4) Z) Z<|.yv (.loadMW Z Fx.agg121 mE Z) Z<|.al Fx.zero121 Z fun b14 => .a Z Z<|.sW .head Z Z Fx.size121 (by simp [Value.oneCell',strV]) Z<|.ns<|.m Z Z<|.m Z Z<|.yv (.indexSl Fx.sl54 Z Z (i := k) Z k3 (q := k) (by omega)) Z<|.yv (.loadM Z Fx.agg9 m52 (k := k) (by omega) (abc_at k3)) Z<|.yv (.build Z (Fx.bld78_0 _)) Z<|.al Fx.zero78 Z fun b15 => .sW .head Z Z Fx.size78 (by simp [Value.oneCell',strV]) Z<|.nt<|.sq<|.sr<|.yv (.fieldAddr Z Fx.field121_0) Z<|.yv (.load Z Fx.agg5 (.tail _<|.head _) Z) Z<|.yv (.rem Z Z (by decide) (c := ((x.ints.toNat % 3 : Nat) : Int)) (by rw [Int.tmod_eq_emod_of_nonneg (by omega)];omega)) Z<|.yv (.conv Z Fx.int5 Fx.int3 (c := ((x.ints.toNat % 3 : Nat) : Int)) (w6 (by omega))) Z<|.yv (.add Z Z (c := ((intsP x : Nat) : Int)) ((w6 (by omega)).trans (by unfold intsP;omega))) Z<|.ct (X := Value) Fx.call39 Z (fun W s => names_any H2 120 (intsP x) (by omega) W s.agr) Z fun v137 H137 hn137 u137 => ?_
  obtain ⟨pn137,cn137,e137,_⟩ := hn137.sl
  simp only [List.cons.injEq,and_true,List.length_map,namesB_len] at e137
  subst e137
  refine .yv (.lenSl Fx.sl54 Z) Z<|.m Z Z<|?_
  refine Sx.row0 98 3 ?_
  refine .nt<|.bk<|.lp (X := Nat × Value × List Value) [(2,_),(5,_),(8,_),(10,_),(13,_),(14,_),(15,_),(120,_),(121,_),(122,_),(137,_),(138,_)] ⟨rfl,rfl,rfl,rfl,rfl,rfl,rfl,rfl,rfl,rfl,rfl,rfl,trivial⟩ [_,_,_,_,_] (fun z => [(139,.int .i64 (z.1 : Nat))]) (fun z => H137) (fun z => [.row 98 3 z.2.1 z.1 z.2.2,.box b15 [strV (abcS k),z.2.1,.slice none 0 0] 78]) (fun z => z.1 ≤ intsP x ∧ RepZ H137 3 ((vrsI z.1).map (dVr .i64)) z.2.2) (fun z => intsP x - z.1) (0,.slice none 0 0,[]) (fun _ s => s) ⟨rfl,trivial⟩ ⟨by simp,RepZ.nil⟩ fun z hC => ?_
  obtain ⟨j,rv,ys⟩ := z
  dsimp only at hC ⊢
  obtain ⟨hj0,hzv⟩ := hC
  refine .sr<|.yv (.lss Z Z) Z<|.nt<|.sq<|.cd Z (fun h140 => ?_) (fun h140 => ?_)
  ·try simp only [dt] at h140
   have hj : j < intsP x := by omega
   obtain ⟨bN,oN,hpN,mN⟩ := name_at hn137 (k := j) hj
   subst hpN
   exact .sk<|.tN<|.sq<|.bk<|.sr<|.m Z Z<|.yv (.indexSl Fx.sl54 Z Z (i := j) Z (by omega) (q := oN + j * 1) Z) Z<|.yv (.loadM Z Fx.agg9 mN (k := 0) Z Z) Z<|.a Z Z<|.a Z Z<|.nt<|.rg<|.yv (.fieldAddr Z Fx.field78_1) Z<|.yv (.load Z Fx.agg75 (.tail _<|.head _) Z) Z<|.m Z Z<|.m Z Z<|.yv (.build Z (Fx.bld98_0_1_2 _ _ _)) Z<|.bl Z (Fx.bsl75_1 _ _ _) Z fun b149 => .ap (news := [strV (nmB 120 j),.int .i64 1,.int .i64 (j : Nat)]) Fx.row75 Z (fun _ => (.tail<|.head)) Z (.box (.head _) z0) Z (by simp [Value.oneCell',strV,abcS]) (by simp [maxLen];omega) (by omega) Z fun r150 _ => .ra (.tail _<|.head _) fun p150 c150 e150 => .yv (.fieldAddr Z Fx.field78_1) Z<|.st (.tail<|.tail<|.head) Z Z Fx.size75 (by rw [e150];rfl) (nb Z) Z<|.nl<|.bN<|.tN<|.rg<|.yv (.add Z Z (w6 (by omega))) Z<|.m Z Z<|.nt<|.ag (x := (j,rv,ys)) (j + 1,r150,ys ++ [strV (nmB 120 j),.int .i64 1,.int .i64 (j : Nat)]) ⟨rfl,trivial⟩ ⟨rfl,rfl,rfl,rfl,rfl,rfl,rfl,rfl,rfl,rfl,rfl,rfl,trivial⟩ (fun _ s => (s.pick [1,2,3,4,5,6,7] _ Z Z)) ⟨by dsimp only;omega,by dsimp only;rw [vrsI_succ,List.map_append];exact hzv.snoc (vrI_shut (by omega)) Z⟩ (by dsimp only;omega)
  try simp only [df] at h140
  obtain rfl : j = intsP x := by omega
  refine .ex<|.tE<|.tE<|.bE<|.tN<|.sr<|.yv (.fieldAddr Z Fx.field78_1) Z<|.yv (.load Z Fx.agg75 (.tail _<|.head _) Z) Z<|.yv (.build Z (Fx.bld98_0_1_2 _ _ _)) Z<|.bl Z (Fx.bsl75_1 _ _ _) Z fun b156 => .ap (news := [strV [98,48],.int .i64 2,.int .i64 0]) Fx.row75 Z (fun _ => (.tail<|.head)) Z (.box (.head _) z0) Z (by simp [Value.oneCell',strV,abcS]) (by simp [maxLen];omega) (by omega) Z fun r157 _ => .ra (.tail _<|.head _) fun p157 c157 e157 => .yv (.fieldAddr Z Fx.field78_1) Z<|.st (.tail<|.tail<|.head) Z Z Fx.size75 (by rw [e157];rfl) (nb Z) Z<|.nt<|.sq<|.sr<|.yv (.fieldAddr Z Fx.field121_1) Z<|.yv (.load Z Fx.agg5 (.tail _<|.tail _<|.tail _<|.head _) Z) Z<|.yv (.rem Z Z (by decide) (c := ((x.tables.toNat % 2 : Nat) : Int)) (by rw [Int.tmod_eq_emod_of_nonneg (by omega)];omega)) Z<|.yv (.conv Z Fx.int5 Fx.int3 (c := ((tabsP x : Nat) : Int)) ((w6 (by omega)).trans (by unfold tabsP;omega))) Z<|.ct (X := Value) Fx.call39 Z (fun W s => names_any H137 116 (tabsP x) (by omega) W s.agr) Z fun v163 H163 hn163 u163 => ?_
  obtain ⟨pn163,cn163,e163,_⟩ := hn163.sl
  simp only [List.cons.injEq,and_true,List.length_map,namesB_len] at e163
  subst e163
  refine .yv (.lenSl Fx.sl54 Z) Z<|.m Z Z<|.nt<|.bk<|.pm [1,2,0,3,4,5,6,7] [_,_,_,_,_,_,_,_] Z Z<|.lp (X := Nat × Value × List Value) [(2,_),(5,_),(8,_),(10,_),(13,_),(14,_),(15,_),(120,_),(121,_),(122,_),(163,_),(164,_)] ⟨rfl,rfl,rfl,rfl,rfl,rfl,rfl,rfl,rfl,rfl,rfl,rfl,trivial⟩ [_,_,_,_,_,_] (fun z => [(165,.int .i64 (z.1 : Nat))]) (fun z => H163) (fun z => [.row 98 3 z.2.1 (intsP x + 1 + z.1) z.2.2,.box b15 [strV (abcS k),z.2.1,.slice none 0 0] 78]) (fun z => z.1 ≤ tabsP x ∧ RepZ H163 3 ((vrsI (intsP x) ++ [vrB] ++ vrsT z.1).map (dVr .i64)) z.2.2) (fun z => tabsP x - z.1) (0,r157,ys ++ [strV [98,48],.int .i64 2,.int .i64 0]) (fun _ s => s) ⟨rfl,trivial⟩ ⟨by simp,by dsimp only;rw [show vrsT 0 = [] from Z,List.append_nil,List.map_append];exact (hzv.up u163.up).snoc (vr_shut (x := vrB) (by decide)) Z⟩ fun z hC => ?_
  obtain ⟨i,rv2,zs⟩ := z
  dsimp only at hC ⊢
  obtain ⟨hi0,hzt⟩ := hC
  refine .sr<|.yv (.lss Z Z) Z<|.nt<|.sq<|.cd Z (fun h166 => ?_) (fun h166 => ?_)
  ·try simp only [dt] at h166
   have hi : i < tabsP x := by omega
   obtain ⟨bN,oN,hpN,mN⟩ := name_at hn163 (k := i) hi
   subst hpN
   exact .sk<|.tN<|.sq<|.bk<|.sr<|.yv (.indexSl Fx.sl54 Z Z (i := i) Z (by omega) (q := oN + i * 1) Z) Z<|.yv (.loadM Z Fx.agg9 mN (k := 0) Z Z) Z<|.a Z Z<|.nt<|.rg<|.yv (.fieldAddr Z Fx.field78_1) Z<|.yv (.load Z Fx.agg75 (.tail _<|.head _) Z) Z<|.m Z Z<|.yv (.build Z (Fx.bld98_0_1_2 _ _ _)) Z<|.bl Z (Fx.bsl75_1 _ _ _) Z fun b173 => .ap (news := [strV (nmB 116 i),.int .i64 3,.int .i64 0]) Fx.row75 Z (fun _ => (.tail<|.head)) Z (.box (.head _) z0) Z (by simp [Value.oneCell',strV,abcS]) (by simp [maxLen];omega) (by omega) Z fun r174 _ => .ra (.tail _<|.head _) fun p174 c174 e174 => .yv (.fieldAddr Z Fx.field78_1) Z<|.st (.tail<|.tail<|.head) Z Z Fx.size75 (by rw [e174];rfl) (nb Z) Z<|.nl<|.bN<|.tN<|.rg<|.yv (.add Z Z (w6 (by omega))) Z<|.m Z Z<|.nt<|.ag (x := (i,rv2,zs)) (i + 1,r174,zs ++ [strV (nmB 116 i),.int .i64 3,.int .i64 0]) ⟨rfl,trivial⟩ ⟨rfl,rfl,rfl,rfl,rfl,rfl,rfl,rfl,rfl,rfl,rfl,rfl,trivial⟩ (fun _ s => (s.pick [1,2,3,4,5,6,7,8] _ Z Z)) ⟨by dsimp only;omega,by dsimp only;rw [vrsT_succ,← List.append_assoc,List.map_append];exact hzt.snoc (vr_shut (x := vrT0 i) (by simp [vrT0,nmB])) Z⟩ (by dsimp only;omega)
  try simp only [df] at h166
  obtain rfl : i = tabsP x := by omega
  refine Sx.freezeSeq (ds := (varsP x).map (dVr .i64)) (by simp [varsP,vrsI_len,vrsT_len];omega) hzt fun H8 pV cV u8 e8 hV => ?_
  subst e8
  have uB := u137.trans (u163.trans u8)
  have g1b := g1.up uB.up
  have g2b := g2.up uB.up
  have harb := har.up (u2.trans uB).up
  refine .ex<|.tE<|.tE<|.bE<|.tN<|.sr<|.yv (.fieldAddr Z Fx.field121_0) Z<|.yv (.load Z Fx.agg5 (.tail _<|.tail _<|.head _) Z) Z<|.yv (.rem Z Z (by decide) (c := ((x.ints.toNat % 3 : Nat) : Int)) (by rw [Int.tmod_eq_emod_of_nonneg (by omega)];omega)) Z<|.yv (.conv Z Fx.int5 Fx.int3 (c := ((x.ints.toNat % 3 : Nat) : Int)) (w6 (by omega))) Z<|.yv (.add Z Z (c := ((intsP x : Nat) : Int)) ((w6 (by omega)).trans (by unfold intsP;omega))) Z<|.yv (.fieldAddr Z Fx.field121_1) Z<|.yv (.load Z Fx.agg5 (.tail _<|.tail _<|.head _) Z) Z<|.yv (.rem Z Z (by decide) (c := ((x.tables.toNat % 2 : Nat) : Int)) (by rw [Int.tmod_eq_emod_of_nonneg (by omega)];omega)) Z<|.yv (.conv Z Fx.int5 Fx.int3 (c := ((tabsP x : Nat) : Int)) ((w6 (by omega)).trans (by unfold tabsP;omega))) Z<|.yv (.fieldAddr Z Fx.field31_1) Z<|.yv (.load Z Fx.agg27 (.tail _<|.tail _<|.tail _<|.tail _<|.head _) Z) Z<|.yv (.lenSl Fx.sl27 Z) Z<|.m Z Z<|.m Z Z<|.yv (.build Z (Fx.bld127_0_1_2_3_4 _ _ _ _ _ _ _)) Z<|.al Fx.zero127 Z fun b20 => .sW .head Z Z Fx.size127 (by simp [Value.oneCell',strV]) Z<|.nt<|.sq<|.fl (trip := [(_,_,_),(_,_,_),(_,_,_),(_,_,_),(_,_,_),(_,_,_),(_,_,_)]) 7 [(0,0),(1,0),(2,0),(3,0),(4,0),(5,0),(6,0)] (by kernel_rfl) (by kernel_rfl) Z<|.yv (.fieldAddr Z Fx.field121_2) Z<|.yv (.load Z Fx.agg119 (.tail _<|.tail _<|.tail _<|.head _) Z) Z<|.yv (.fieldAddr Z Fx.field121_2) Z<|.yv (.load Z Fx.agg119 (.tail _<|.tail _<|.tail _<|.head _) Z) Z<|.yv (.lenSl Fx.sl119 Z) Z<|.yv (.call Fx.call38 Z (fun W s => least_any H8 x.hs.length 3 W s.agr)) Z<|.yv (.cutHi2 Fx.sl119 Z Z (h := min x.hs.length 3) Z (by have := g1b.len.2.1;omega)) Z<|.fn (tl := [_]) Z<|.a Z Z<|.nt<|.cu (X := Hp × Value) [(2,_),(5,_),(8,_),(10,_),(14,_),(15,_),(20,_),(120,_),(121,_),(122,_)] ⟨rfl,rfl,rfl,rfl,rfl,rfl,rfl,rfl,rfl,rfl,trivial⟩ (fun z => [(21,z.2)]) (fun z => z.1) (fun z => [.box b20 (mkC (mkP (arsP p) (p.flags.toNat % 3) k x) (.slice p7 (prtsP p).length c7) (.slice none 0 0) 0) 127,.box b15 [strV (abcS k),.slice pV (intsP x + 1 + tabsP x) cV,.slice none 0 0] 78,.box b14 [.int .u8 x.ints.toNat,.int .u8 x.tables.toNat,.slice q1 x.hs.length d1,.slice q2 x.sec.length d2] 121,.row 78 3 rc k xs,.box b5 [strV fleetN,.slice p4 (p.flags.toNat % 3) c4,.slice p6 (lnksP (prtsP p).length p.links (min p.links.length ((prtsP p).length * (prtsP p).length))).length c6,rc] 31,.box b2 [.string ⟨#[]⟩,.slice none 0 0,.slice none 0 0,.slice none 0 0] 31,.box b1 [.int .u8 p.flags.toNat,.slice p1 p.links.length c1,.slice p2 p.comps.length c2] 25]) (fun z => HUp w H8 z.1 ∧ Rep z.1 (.seq 2 ((fstP x).map dCd)) [z.2]) ?_ fun z hC => ?_
  ·
   refine .sr<|.m Z Z<|.yv (.lenSl Fx.sl119 Z) Z<|.yv (.eql Z Z) Z<|.nt<|.cd Z (fun h201 => ?_) (fun h201 => ?_)
   ·try simp only [dt] at h201
    have h0 : x.hs.length = 0 := by omega
    refine .rg<|.yv (.build Z (Fx.bld129_0 _)) Z<|.bl Z (Fx.bsl119_1 _ _) Z fun b203 => ?_
    refine Sx.freezeBox fun H9 u9 m9 => ?_
    exact .a Z Z<|.nt<|.me (H9,_) ⟨rfl,trivial⟩ ⟨rfl,rfl,rfl,rfl,rfl,rfl,rfl,rfl,rfl,rfl,trivial⟩ (fun _ s => s.pick [0,1,3,4,5,6,7] [_,_,_,_,_,_,_] Z Z) ⟨u9,by rw [fstP,if_pos h0];exact Rep.mk (n := 1) (c := 1) m9 (.single (cd_shut (x := ⟨1,[]⟩) (Rep.empty (by decide))) Z) Z (Nat.le_refl _) (by decide)⟩
   try simp only [df] at h201
   have h0 : ¬ x.hs.length = 0 := by omega
   exact .sk<|.tN<|.me (H8,_) ⟨rfl,trivial⟩ ⟨rfl,rfl,rfl,rfl,rfl,rfl,rfl,rfl,rfl,rfl,trivial⟩ (fun _ s => s.pick [0,1,3,4,5,6,7] [_,_,_,_,_,_,_] Z Z) ⟨.refl,by rw [fstP,if_neg h0,List.map_take];have := rep_take2 g1b (hi := min x.hs.length 3) (by omega);rwa [take_min3] at this⟩
  obtain ⟨H9,fv⟩ := z
  dsimp only at hC ⊢
  obtain ⟨u9,hfs⟩ := hC
  have hoB : okB (mkP (arsP p) (p.flags.toNat % 3) k x) := okB_mk hk hf3 hpos hints
  have hfl3 := fst_len (nf := p.flags.toNat % 3) hk hpa
  have hsl3 := sec_len (nf := p.flags.toNat % 3) hk hpa
  have g2c := g2b.up u9.up
  refine Sx.row0 79 1 ?_
  refine .sq<|.fl (trip := [(_,_,_),(_,_,_),(_,_,_),(_,_,_),(_,_,_)]) 5 [(0,0),(1,0),(2,0),(3,3),(4,1)] (by kernel_rfl) (by kernel_rfl) Z<|.yv (.fieldAddr Z Fx.field78_2) Z<|.yv (.load Z Fx.agg76 (.tail _<|.tail _<|.head _) Z) Z<|.m Z Z<|.c3 (X := Value × Nat × Hp × Value × Int) Fx.call41 Z (fun W s => handlers_st (mkP (arsP p) (p.flags.toNat % 3) k x) hoB (fstP x) hfl3 H9 w W _ b20 _ _ _ _  hfs (by simpa [mkP,arsP] using harb.up u9.up) (s.pick [1,0,2,3,4,5,6,7] [_,_,_,_,_,_,_,_] Z Z)) Z (fun z207 hz207 => (.done (by kernel_rfl)<|.yv (.load Z Fx.agg76 (.tail _<|.tail _<|.head _) Z)<|.yv (.fieldAddr Z Fx.field78_2)<|.nl)) fun z207 hz207 => ?_
  obtain ⟨v207,pv207,H207,bv207,lf207⟩ := z207
  obtain ⟨u207,rr207⟩ := hz207
  dsimp only at u207 rr207 ⊢
  obtain ⟨pn207,cn207,e207,_⟩ := rr207.sl
  simp only [List.cons.injEq,and_true,List.length_map,hdsP_len] at e207
  subst e207
  refine .bl Z (Fx.bsl76_1 _ _ _) Z fun b208 => .fn (tl := [_,_,_]) Z<|.ap (news := [.slice pn207 (fstP x).length cn207]) Fx.row76 Z (fun _ => (.tail<|.tail<|.head)) Z (.box (.head _) z0) Z (by simp [Value.oneCell']) (by simp [maxLen]) (by omega) Z fun r209 _ => .ra (.tail _<|.tail _<|.head _) fun p209 c209 e209 => .yv (.fieldAddr Z Fx.field78_2) Z<|.st (.tail<|.tail<|.tail<|.head) Z Z Fx.size76 (by rw [e209];rfl) (nb Z) Z<|.nt<|.cu (X := Hp × Value × List Value) [(2,_),(5,_),(8,_),(10,_),(15,_),(120,_),(121,_),(122,_)] ⟨rfl,rfl,rfl,rfl,rfl,rfl,rfl,rfl,trivial⟩ (fun z => []) (fun z => z.1) (fun z => [.row 79 1 z.2.1 (vssP (mkP (arsP p) (p.flags.toNat % 3) k x) x).length z.2.2,.box b15 [strV (abcS k),.slice pV (intsP x + 1 + tabsP x) cV,z.2.1] 78,.row 78 3 rc k xs,.box b5 [strV fleetN,.slice p4 (p.flags.toNat % 3) c4,.slice p6 (lnksP (prtsP p).length p.links (min p.links.length ((prtsP p).length * (prtsP p).length))).length c6,rc] 31,.box b2 [.string ⟨#[]⟩,.slice none 0 0,.slice none 0 0,.slice none 0 0] 31,.box b1 [.int .u8 p.flags.toNat,.slice p1 p.links.length c1,.slice p2 p.comps.length c2] 25]) (fun z => HUp w H9 z.1 ∧ RepZ z.1 1 ((vssP (mkP (arsP p) (p.flags.toNat % 3) k x) x).map (dVs .i64)) z.2.2) ?_ fun z hC => ?_
  ·
   refine .sr<|.yv (.fieldAddr Z Fx.field121_3) Z<|.yv (.load Z Fx.agg119 (.tail _<|.tail _<|.tail _<|.tail _<|.head _) Z) Z<|.yv (.lenSl Fx.sl119 Z) Z<|.yv (.gtr Z Z) Z<|.nt<|.cd Z (fun h214 => ?_) (fun h214 => ?_)
   ·try simp only [dt] at h214
    have hsc : 0 < x.sec.length := by omega
    refine .fl (trip := [(_,_,_),(_,_,_),(_,_,_),(_,_,_),(_,_,_),(_,_,_),(_,_,_),(_,_,_),(_,_,_),(_,_,_),(_,_,_)]) 11 [(0,0),(1,0),(2,0),(3,0),(4,0),(5,0),(6,0),(7,0),(8,0),(9,3),(10,1)] (by kernel_rfl) (by kernel_rfl) Z<|.yv (.fieldAddr Z Fx.field78_2) Z<|.yv (.load Z Fx.agg76 (.tail _<|.tail _<|.tail _<|.head _) Z) Z<|.yv (.fieldAddr Z Fx.field121_3) Z<|.yv (.load Z Fx.agg119 (.tail _<|.tail _<|.tail _<|.tail _<|.head _) Z) Z<|.yv (.fieldAddr Z Fx.field121_3) Z<|.yv (.load Z Fx.agg119 (.tail _<|.tail _<|.tail _<|.tail _<|.head _) Z) Z<|.yv (.lenSl Fx.sl119 Z) Z<|.yv (.call Fx.call38 Z (fun W s => least_any H207 x.sec.length 3 W s.agr)) Z<|.yv (.cutHi2 Fx.sl119 Z Z (h := min x.sec.length 3) Z (by have := g2c.len.2.1;omega)) Z<|.c3 (X := Value × Nat × Hp × Value × Int) Fx.call41 Z (fun W s => handlers_st { (mkP (arsP p) (p.flags.toNat % 3) k x) with params := pv207 } hoB (x.sec.take 3) hsl3 H207 w W _ b20 _ _ _ _  (by have := rep_take2 (g2c.up u207.up) (hi := min x.sec.length 3) (by omega);rw [take_min3,← List.map_take] at this;exact this) (by simpa [mkP,arsP] using harb.up (u9.trans u207).up) (s.pick [1,0,2,3,4,5,6,7,8] [_,_,_,_,_,_,_,_,_] Z Z)) Z (fun z224 hz224 => (.done (by kernel_rfl)<|.done (by kernel_rfl)<|.done (by kernel_rfl)<|.done (by kernel_rfl)<|.done (by kernel_rfl)<|.done (by kernel_rfl)<|.done (by kernel_rfl)<|.yv (.load Z Fx.agg76 (.tail _<|.tail _<|.tail _<|.head _) Z)<|.yv (.fieldAddr Z Fx.field78_2)<|.nl)) fun z224 hz224 => ?_
    obtain ⟨v224,pv224,H224,bv224,lf224⟩ := z224
    obtain ⟨u224,rr224⟩ := hz224
    dsimp only at u224 rr224 ⊢
    obtain ⟨pn224,cn224,e224,_⟩ := rr224.sl
    simp only [List.cons.injEq,and_true,List.length_map,hdsP_len] at e224
    subst e224
    exact .bl Z (Fx.bsl76_1 _ _ _) Z fun b225 => .fn (tl := [_,_,_]) Z<|.ap (news := [.slice pn224 (x.sec.take 3).length cn224]) Fx.row76 Z (fun _ => (.tail<|.tail<|.tail<|.head)) Z (.box (.head _) z0) Z (by simp [Value.oneCell']) (by simp [maxLen]) (by omega) Z fun r226 _ => .ra (.tail _<|.tail _<|.tail _<|.head _) fun p226 c226 e226 => .yv (.fieldAddr Z Fx.field78_2) Z<|.st (.tail<|.tail<|.tail<|.tail<|.head) Z Z Fx.size76 (by rw [e226];rfl) (nb Z) Z<|.nt<|.me (H224,r226,_) trivial ⟨rfl,rfl,rfl,rfl,rfl,rfl,rfl,rfl,trivial⟩ (fun _ s => by rw [show (vssP (mkP (arsP p) (p.flags.toNat % 3) k x) x).length = 0 + 1 + 1 by rw [vssP,if_pos hsc];rfl];exact (s.pick [3,4,6,7,8,9] _ Z Z)) ⟨u207.trans u224,by rw [vssP,if_pos hsc];exact RepZ.app (.single (rr207.up u224.up) Z) (.single (hdsP_par rr224) Z)⟩
   try simp only [df] at h214
   have hsc : ¬ 0 < x.sec.length := by omega
   exact .sk<|.tN<|.me (H207,r209,_) trivial ⟨rfl,rfl,rfl,rfl,rfl,rfl,rfl,rfl,trivial⟩ (fun _ s => by rw [show (vssP (mkP (arsP p) (p.flags.toNat % 3) k x) x).length = 0 + 1 by rw [vssP,if_neg hsc];rfl];exact (s.pick [2,3,5,6,7,8] _ Z Z)) ⟨u207,by rw [vssP,if_neg hsc];exact .single rr207 Z⟩
  obtain ⟨H10,rs,ws⟩ := z
  dsimp only at hC ⊢
  obtain ⟨u10,hzs⟩ := hC
  refine Sx.freezeSeq (ds := (vssP (mkP (arsP p) (p.flags.toNat % 3) k x) x).map (dVs .i64)) (by simp) hzs fun HE pS cS u11 e11 hSE => ?_
  subst e11
  have uE := uB.trans (u9.trans (u10.trans u11))
  have hVE := hV.up (u9.trans (u10.trans u11)).up
  exact .rg<|.yv (.fieldAddr Z Fx.field31_3) Z<|.yv (.load Z Fx.agg29 (.tail _<|.tail _<|.head _) Z) Z<|.yv (.loadW Z Fx.agg78 (.head _) Z) Z<|.bl Z (Fx.bsl29_1 _ _ _) Z fun b231 => .ap (news := [strV (abcS k),.slice pV (intsP x + 1 + tabsP x) cV,.slice pS (vssP (mkP (arsP p) (p.flags.toNat % 3) k x) x).length cS]) Fx.row29 Z (fun _ => (.tail<|.tail<|.head)) Z (.box (.head _) z0) Z (by simp [Value.oneCell',strV,abcS]) (by simp [maxLen];omega) (by omega) Z fun r232 _ => .ra (.tail _<|.tail _<|.head _) fun p232 c232 e232 => .yv (.fieldAddr Z Fx.field31_3) Z<|.st (.tail<|.tail<|.tail<|.head) Z Z Fx.size29 (by rw [e232];rfl) (nb Z) Z<|.nl<|.bN<|.tN<|.rg<|.yv (.add Z Z (w6 (by omega))) Z<|.m Z Z<|.nt<|.ag (x := (k,H2,rc,xs)) (k + 1,HE,r232,xs ++ [strV (abcS k),.slice pV (intsP x + 1 + tabsP x) cV,.slice pS (vssP (mkP (arsP p) (p.flags.toNat % 3) k x) x).length cS]) ⟨rfl,trivial⟩ ⟨rfl,rfl,rfl,rfl,rfl,rfl,trivial⟩ (fun _ s => (s.pick [2,3,4,5] _ Z Z)) ⟨by dsimp only;omega,u2.trans uE,by dsimp only;rw [cmpsP_succ hk,hx,List.map_append];exact (hz.up uE.up).snoc (cp_shut (x := cmpP (arsP p) (p.flags.toNat % 3) k x) (by simp [cmpP,abcS]) hVE hSE) Z⟩ (by dsimp only;omega)
 try simp only [df] at h123
 obtain rfl : k = (prtsP p).length := by omega
 rw [List.take_length] at hz
 refine Sx.freezeSeq (ds := (cmpsP (arsP p) (p.flags.toNat % 3) (prtsP p)).map (dCp .i64)) (by simp [cmpsP_len]) hz fun HF pc cc uF eF hcs => ?_
 subst eF
 have uZ := u2.trans uF
 refine .ex<|.tE<|.tE<|.bE<|.tN<|.sr<|.yv (.loadW Z Fx.agg31 (.head _) Z) Z<|.sW (.tail<|.head) Z Z Fx.size31 (by simp [Value.oneCell',strV]) Z<|.nt<|.rt<|?_
 exact Sx.ret1 (.inl rfl) rfl (.cell rfl Fx.agg31 (.tail _<|.head _) rfl) fun W t => ⟨_,HF,ft_shut (x := buildF p) (show fleetN.length ≤ 1000000 by decide) (hfl7.up uZ.up) (hlk7.up uZ.up) hcs,rfl,((((u1.trans (u39.trans (u4.trans (u5.trans u6)))).trans u67).trans uZ).grow t)⟩
theorem Fx.call8 : callN Tryz.prog 8 = Bool.true := by kernel_rfl
theorem Fx.call9 : callN Tryz.prog 9 = Bool.true := by kernel_rfl
theorem Fx.eqt41 : eqT Tryz.prog 41 = Option.some [(0,Go.Sx.EK.s),(1,Go.Sx.EK.s),(2,Go.Sx.EK.i)] := by kernel_rfl
theorem Fx.bld31_0_3 (x0 : ByteArray) (x3p : Option Addr) (x3n x3c : Nat) : buildN Tryz.prog 31 [(0,.string x0),(3,.slice x3p x3n x3c)] = some [.string x0,.slice none 0 0,.slice none 0 0,.slice x3p x3n x3c] := by kernel_rfl
theorem Fx.bld41_0_2 (x0 : ByteArray) (x2 : Int) : buildN Tryz.prog 41 [(0,.string x0),(2,.int .i64 x2)] = some [.string x0,.string ⟨#[]⟩,.int .i64 x2] := by kernel_rfl
theorem Fx.bld78_0_1_2 (x0 : ByteArray) (x1p : Option Addr) (x1n x1c : Nat) (x2p : Option Addr) (x2n x2c : Nat) : buildN Tryz.prog 78 [(0,.string x0),(1,.slice x1p x1n x1c),(2,.slice x2p x2n x2c)] = some [.string x0,.slice x1p x1n x1c,.slice x2p x2n x2c] := by kernel_rfl
theorem Fx.bld98_0_1 (x0 : ByteArray) (x1 : Int) : buildN Tryz.prog 98 [(0,.string x0),(1,.int .i64 x1)] = some [.string x0,.int .i64 x1,.int .i64 0] := by kernel_rfl
theorem Fx.bsl54_15 (x0 : ByteArray) (x1 : ByteArray) (x2 : ByteArray) (x3 : ByteArray) (x4 : ByteArray) (x5 : ByteArray) (x6 : ByteArray) (x7 : ByteArray) (x8 : ByteArray) (x9 : ByteArray) (x10 : ByteArray) (x11 : ByteArray) (x12 : ByteArray) (x13 : ByteArray) (x14 : ByteArray) : bslN Tryz.prog 54 15 [(0,.string x0),(1,.string x1),(2,.string x2),(3,.string x3),(4,.string x4),(5,.string x5),(6,.string x6),(7,.string x7),(8,.string x8),(9,.string x9),(10,.string x10),(11,.string x11),(12,.string x12),(13,.string x13),(14,.string x14)] = some (9,[.string x0,.string x1,.string x2,.string x3,.string x4,.string x5,.string x6,.string x7,.string x8,.string x9,.string x10,.string x11,.string x12,.string x13,.string x14]) := by kernel_rfl
theorem Fx.bsl80_2 (x00 x01 x02 x03 x04 x05 : Value) (x10 x11 x12 x13 x14 x15 : Value) : bslN Tryz.prog 80 2 [(0,.agg [x00,x01,x02,x03,x04,x05].toArray),(1,.agg [x10,x11,x12,x13,x14,x15].toArray)] = some (85,[x00,x01,x02,x03,x04,x05,x10,x11,x12,x13,x14,x15]) := by kernel_rfl
theorem pbEq (P : Pb) (Q : Pb) (h : P = Q) {ks : List (Nat × EK)} (hk : ks = [(0,.s),(1,.s),(2,.i)]) : eqVs ks (pbV P) (pbV Q) = some true := by
 subst h
 subst hk
 simp [eqVs,pbV,eqV1,strV]
theorem okS1_of {N : Nat} : ∀ s,okS2 N s = true → okS1 s = true
 | .mk _ _ _ ex _ _,h => by
  simp only [okS2,Bool.and_eq_true,List.all_eq_true] at h
  simp only [okS1,List.all_eq_true,decide_eq_true_eq]
  intro e he
  have := h.2 e he
  simp only [okE,Bool.and_eq_true,decide_eq_true_eq] at this
  omega
theorem evH_ok {N : Nat} (hN : N ≤ 1000000) {f : Ft} (h : okFt N f) : evH okH f = true := by
 simp only [evH,List.all_eq_true]
 intro c hc v hv x hx
 have k := ((h.all c hc).all v hv).all x hx
 have k1 := k.body.cnt
 have k2 := k.body.dep
 simp only [okH,Bool.and_eq_true,decide_eq_true_eq]
 exact ⟨⟨by omega,by omega⟩,salls_imp okS1_of _ k.body.all⟩
theorem repS1 {H : Hp} : ∀ l : List Str,(∀ s ∈ l,s.length ≤ 1000000) → RepZ H 1 (l.map dStr) (l.map strV)
 | [],_ => RepZ.nil
 | s :: r,h => by
  have := RepZ.app (RepZ.single (H := H) (str_shut (h s (List.mem_cons_self ..))) (rfl : [strV s].length = 1)) (repS1 r fun x hx => h x (List.mem_cons_of_mem _ hx))
  exact this
set_option maxRecDepth 100000 in
theorem name8_any (H : Hp) (n : UInt8) (w : World) (hA : Agr H w) : Calls Tryz.prog 43 #[.int .u8 n.toNat] w fun r w' => r = .returned (strV (nmAt n.toNat)) ∧ Ext w w' := by
 refine Sx.enter (H := H) Tryz.func43 rfl Tryz.ntmps43 rfl hA ?_
 refine .sr<|.a Z Z<|.ns<|.bl Z (Fx.bsl54_15 _ _ _ _ _ _ _ _ _ _ _ _ _ _ _) Z fun b4 => ?_
 refine Sx.freezeBox fun H1 u1 m1 => ?_
 have rN : Rep H1 (.seq 1 (nmsL.map dStr)) [.slice (some ⟨b4,0,none⟩) 15 15] := Rep.mk (n := 15) (c := 15) m1 (repS1 nmsL (by decide)) rfl (Nat.le_refl _) (by decide)
 obtain ⟨bN,oN,cN,hpN,rS,lN,mN⟩ := rN.elem (map_at (f := dStr) (l := nmsL) (k := n.toNat % 15) (show n.toNat % 15 < 15 by omega))
 cases hpN
 obtain ⟨rfl,_⟩ := str_open rS
 refine .a Z Z<|.ns<|.m Z Z<|.m Z Z<|.yv (.conv Z Fx.int5 Fx.int3 (c := (n.toNat : Nat)) (by have := n.toNat_lt;simp only [IntKind.wrap,IntKind.signed,IntKind.bits];simp;omega)) Z<|.m Z Z<|.yv (.lenSl Fx.sl54 Z) Z<|.yv (.rem Z Z (by decide) (c := ((n.toNat % 15 : Nat) : Int)) (tm2 _ 15)) Z<|.yv (.indexSl Fx.sl54 Z Z (i := n.toNat % 15) Z (by omega) (q := 0 + (n.toNat % 15) * 1) Z) Z<|.yv (.loadM Z Fx.agg9 mN (k := 0) Z Z) Z<|.a Z Z<|.nt<|.rt<|?_
 refine Sx.ret1 (.inl rfl) rfl (.tmp rfl) fun W s => ⟨?_,(u1.grow s).ext⟩
 rw [nmAt,List.getD_eq_getElem?_getD,List.getElem?_eq_getElem (show n.toNat % 15 < nmsL.length from by show _ < 15;omega),Option.getD_some];rfl
def aw8b : List Sm := [.mk 1 [120] [] [.mk 5 [121] 0 []] [] [],.mk 1 [120] [] [.mk 2 [] 0 []] [] []]
def aw8c : Cp := ⟨[99],[⟨[120],1,0⟩],[[⟨[104],[[121]],aw8b⟩]]⟩
def aw8 : Ft := ⟨[102],[],[],[aw8c]⟩
def aw8p : Pb := ⟨[115,116,97,116,101,109,101,110,116,32,99,46,104,32,49,32,49],[],10⟩
theorem aw8_ok : okFt 100 aw8 := by
 refine ⟨by decide,by decide,by decide,by decide,fun c hc => ?_⟩
 obtain rfl := List.mem_singleton.1 hc
 refine ⟨by decide,by decide,fun v hv => ?_⟩
 obtain rfl := List.mem_singleton.1 hv
 refine ⟨by decide,fun h hh => ?_⟩
 obtain rfl := List.mem_singleton.1 hh
 exact ⟨by decide,by decide +kernel,by decide +kernel,by decide +kernel⟩
theorem aw8_sm : ∀ c ∈ aw8.comps,CpSm c := by
 intro c hc
 obtain rfl := List.mem_singleton.1 hc
 refine ⟨by decide,by decide,fun v hv h hh => ?_⟩
 obtain rfl := List.mem_singleton.1 hv
 obtain rfl := List.mem_singleton.1 hh
 decide +kernel
theorem aw8_check : checkF aw8 = 0 := by decide +kernel
theorem itoaN_1 : itoaN 1 = [49] := by rw [itoaN,Lib.itoa,if_neg (by decide)];exact Lib.decDigits_one (by decide)
theorem aw8_pb : frsP noP (probs aw8 (checkF aw8)) = aw8p := by
 rw [aw8_check,frsP,if_pos (show noP.er = 0 from rfl)]
 have h : (probs aw8 0).headD noP = ⟨[115,116,97,116,101,109,101,110,116,32] ++ [99] ++ [46] ++ [104] ++ ([32] ++ itoaN 1) ++ [32] ++ itoaN 1,[],10⟩ := by kernel_rfl
 rw [h,itoaN_1];rfl
set_option maxRecDepth 100000 in
theorem awake8_any (H : Hp) (G : Gl H) (w : World) (hA : Agr H w) : Calls Tryz.prog 11 #[] w fun r w' => r = .returned (.bool true) ∧ Ext w w' := by
 refine Sx.enter (H := H) Tryz.func11 rfl Tryz.ntmps11 rfl hA ?_
 refine .sr<|.a Z Z<|.ns<|.yv (.build Z (Fx.bld98_0_1 _ _)) Z<|.bl Z (Fx.bsl75_1 _ _ _) Z fun b5 => .bl Z (Fx.bsl54_1 _) Z fun b6 => .yv (.build Z (Fx.bld58_0_1 _ _)) Z<|.bl Z (Fx.bsl56_1 _ _ _ _) Z fun b8 => .yv (.build Z (Fx.bld85_0_1_3 _ _ _ _ _)) Z<|.yv (.build Z (Fx.bld58_0 _)) Z<|.bl Z (Fx.bsl56_1 _ _ _ _) Z fun b11 => .yv (.build Z (Fx.bld85_0_1_3 _ _ _ _ _)) Z<|.bl Z (Fx.bsl80_2 _ _ _ _ _ _ _ _ _ _ _ _) Z fun b13 => .yv (.build Z (Fx.bld82_0_1_2 _ _ _ _ _ _ _)) Z<|.bl Z (Fx.bsl79_1 _ _ _) Z fun b15 => .bl Z (Fx.bsl76_1 _ _ _) Z fun b16 => .yv (.build Z (Fx.bld78_0_1_2 _ _ _ _ _ _ _)) Z<|.bl Z (Fx.bsl29_1 _ _ _) Z fun b18 => .yv (.build Z (Fx.bld31_0_3 _ _ _ _)) Z<|.al Fx.zero31 Z fun b1 => .sW .head Z Z Fx.size31 (by simp [Value.oneCell',strV]) Z<|?_
 refine At.pm [8,7,6,5,4,3,2,1,0] [_,_,_,_,_,_,_,_,_] rfl rfl ?_
 refine Sx.freezeBox fun H1 u1 m5 => ?_
 refine Sx.freezeBox fun H2 u2 m6 => ?_
 refine Sx.freezeBox fun H3 u3 m8 => ?_
 refine Sx.freezeBox fun H4 u4 m11 => ?_
 refine Sx.freezeBox fun H5 u5 m13 => ?_
 refine Sx.freezeBox fun H6 u6 m15 => ?_
 refine Sx.freezeBox fun H7 u7 m16 => ?_
 refine Sx.freezeBox fun H8 u8 m18 => ?_
 have v8 : Up H8 H8 := Up.refl _
 have v7 : Up H7 H8 := u8.up.trans v8
 have v6 : Up H6 H8 := u7.up.trans v7
 have v5 : Up H5 H8 := u6.up.trans v6
 have v4 : Up H4 H8 := u5.up.trans v5
 have v3 : Up H3 H8 := u4.up.trans v4
 have v2 : Up H2 H8 := u3.up.trans v3
 have v1 : Up H1 H8 := u2.up.trans v2
 have v0 : Up H H8 := u1.up.trans v1
 have rF := ft_shut (k := .i64) (x := aw8) (by decide) (Rep.empty (p := none) (c := 0) (by decide)) (Rep.empty (p := none) (c := 0) (by decide)) (Rep.mk (n := 1) (c := 1) (m18.up v8) (.single (cp_shut (k := .i64) (x := aw8c) (by decide) (Rep.mk (n := 1) (c := 1) (m5.up v1) (.single (vr_shut (k := .i64) (x := ⟨[120],1,0⟩) (by decide)) rfl) rfl (Nat.le_refl _) (by decide)) (Rep.mk (n := 1) (c := 1) (m16.up v7) (.single (Rep.mk (n := 1) (c := 1) (m15.up v6) (.single (hd_shut (k := .i64) (x := ⟨[104],[[121]],aw8b⟩) (by decide) (Rep.mk (n := 1) (c := 1) (m6.up v2) (.single (str_shut (by decide)) rfl) rfl (Nat.le_refl _) (by decide)) (Rep.mk (n := 2) (c := 2) (m13.up v5) (RepZ.app (RepZ.single (sm_shut (k := .i64) (kd := 1) (nm := [120]) (hd := []) (ex := [.mk 5 [121] 0 []]) (th := []) (el := []) (by decide) (by decide) (Rep.mk (n := 1) (c := 1) (m8.up v3) (.single (ex_shut (k := .i64) (op := 5) (nm := [121]) (n := 0) (args := []) (by decide) (Rep.empty (p := none) (c := 0) (by decide))) rfl) rfl (Nat.le_refl _) (by decide)) (Rep.empty (p := none) (c := 0) (by decide)) (Rep.empty (p := none) (c := 0) (by decide))) rfl) (RepZ.single (sm_shut (k := .i64) (kd := 1) (nm := [120]) (hd := []) (ex := [.mk 2 [] 0 []]) (th := []) (el := []) (by decide) (by decide) (Rep.mk (n := 1) (c := 1) (m11.up v4) (.single (ex_shut (k := .i64) (op := 2) (nm := []) (n := 0) (args := []) (by decide) (Rep.empty (p := none) (c := 0) (by decide))) rfl) rfl (Nat.le_refl _) (by decide)) (Rep.empty (p := none) (c := 0) (by decide)) (Rep.empty (p := none) (c := 0) (by decide))) rfl)) rfl (Nat.le_refl _) (by decide))) rfl) rfl (Nat.le_refl _) (by decide)) rfl) rfl (Nat.le_refl _) (by decide))) rfl) rfl (Nat.le_refl _) (by decide))
 refine .ns<|.yv (.loadW Z Fx.agg31 (.head _) Z) Z<|.ct (X := List Value) Fx.call8 Z (fun W t => syntax_any 100 (by decide) H8 aw8 aw8_ok _ W rF t.agr) Z fun x2 H9 hx2 u9 => .yv (.cast (v' := .tuple #[.agg (pbV aw8p).toArray,.int .i64 10]) (.call Fx.call9 Z (fun W t => typesCheck_any H9 (G.up (v0.trans u9.up)) aw8 x2 hx2 (evH_ok (by decide) aw8_ok) aw8_sm W t.agr)) (by rw [aw8_pb];rfl)) Z<|.m Z Z<|.yv (.extract Z Z) Z<|.yv (.extract Z Z) Z<|.al Fx.zero41 Z fun b2 => .sW .head Z Z Fx.size41 (by simp [pbV,Value.oneCell',strV]) Z<|.a Z Z<|.ns<|.m Z Z<|.yv (.cast (v' := .bool true) (.eql Z Z) Z) Z<|.m Z Z<|.gd Z Z<|.yv (.loadW Z Fx.agg41 (.head _) Z) Z<|.gd Z Z<|.yv (.build Z (Fx.bld41_0_2 _ _)) Z<|.gd Z Z<|.yv (.eqA Fx.eqt41 Z Z (pbEq aw8p aw8p Z Z)) Z<|.yv (.pickT Z Z) Z<|.a Z Z<|.nt<|.rt<|?_
 exact Sx.ret1 (.inl rfl) rfl (.tmp rfl) fun W t => ⟨rfl,((u1.trans<|u2.trans<|u3.trans<|u4.trans<|u5.trans<|u6.trans<|u7.trans<|u8.trans u9) |>.grow t).ext⟩
theorem Fx.agg72 : aggN Tryz.prog 72 = Option.some (Option.some 3) := by kernel_rfl
theorem Fx.call33 : callN Tryz.prog 33 = Bool.true := by kernel_rfl
theorem Fx.call35 : callN Tryz.prog 35 = Bool.true := by kernel_rfl
theorem Fx.call73 : callN Tryz.prog 73 = Bool.true := by kernel_rfl
theorem Fx.field143_0 : fieldN Tryz.prog 143 0 = Option.some 0 := by kernel_rfl
theorem Fx.field143_1 : fieldN Tryz.prog 143 1 = Option.some 4 := by kernel_rfl
theorem Fx.field143_2 : fieldN Tryz.prog 143 2 = Option.some 7 := by kernel_rfl
theorem Fx.size72 : sizeN Tryz.prog 72 = Option.some 3 := by kernel_rfl
theorem Fx.zero72 : zeroN Tryz.prog 72 = Option.some
 [Go.Value.int Go.IntKind.i64 (Int.ofNat 0),Go.Value.int Go.IntKind.i64 (Int.ofNat 0),
  Go.Value.string { data := { toList := [] } }] := by kernel_rfl
theorem Fx.bld72  : buildN Tryz.prog 72 [] = some [.int .i64 0,.int .i64 0,.string ⟨#[]⟩] := by kernel_rfl
theorem Fx.bld72_0 (x0 : Int) : buildN Tryz.prog 72 [(0,.int .i64 x0)] = some [.int .i64 x0,.int .i64 0,.string ⟨#[]⟩] := by kernel_rfl
theorem Fx.bld72_0_1_2 (x0 : Int) (x1 : Int) (x2 : ByteArray) : buildN Tryz.prog 72 [(0,.int .i64 x0),(1,.int .i64 x1),(2,.string x2)] = some [.int .i64 x0,.int .i64 x1,.string x2] := by kernel_rfl
abbrev rV (r : Tr) : List Value := [.int .i64 r.ty.toNat,.int .i64 (r.er : Nat),strV r.nm]
structure RsR (H : Hp) (f : Ft) (c : Cp) (ps : List Str) (cs : List Value) : Prop where
 ex : ∃ p1 c1 p2 c2 p3 c3 q1 d1 q2 d2 p5 c5,cs = [strV f.nm,.slice p1 f.flags.length c1,.slice p2 f.links.length c2,.slice p3 f.comps.length c3,strV c.nm,.slice q1 c.vars.length d1,.slice q2 c.vers.length d2,.slice p5 ps.length c5] ∧
  Rep H (.seq 2 (f.flags.map dFg)) [.slice p1 f.flags.length c1] ∧ Rep H (.seq 3 (c.vars.map (dVr .i64))) [.slice q1 c.vars.length d1] ∧ Rep H (.seq 1 (ps.map dStrL)) [.slice p5 ps.length c5]
theorem RsR.up {H H' : Hp} {f : Ft} {c : Cp} {ps : List Str} {cs : List Value} (h : RsR H f c ps cs) (u : Up H H') : RsR H' f c ps cs := by
 obtain ⟨p1,c1,p2,c2,p3,c3,q1,d1,q2,d2,p5,c5,e,h1,h2,h3⟩ := h.ex
 exact ⟨p1,c1,p2,c2,p3,c3,q1,d1,q2,d2,p5,c5,e,h1.up u,h2.up u,h3.up u⟩
set_option maxRecDepth 100000 in
theorem has_any (H : Hp) (l : List Str) (n : Str) (v : Value) (hs : Rep H (.seq 1 (l.map dStrL)) [v]) (w : World) (hA : Agr H w) :
 Calls Tryz.prog 73 #[v,strV n] w fun r w' => r = .returned (.bool (hasB l n)) ∧ Ext w w' := by
 obtain ⟨p,c,e,_⟩ := hs.sl
 simp only [List.cons.injEq,and_true,List.length_map] at e
 subst e
 have hcap := hs.cap
 refine Sx.enter (H := H) Tryz.func73 rfl Tryz.ntmps73 rfl hA ?_
 refine .sr<|.a Z Z<|.nt<|.sq<|.sr<|.m Z Z<|.yv (.lenSl Fx.sl54 Z) Z<|.m Z Z<|.nt<|.bk<|.lp (X := Nat) [(1,_),(7,_),(8,_)] ⟨rfl,rfl,rfl,trivial⟩ [] (fun k => [(9,.int .i64 (k : Nat))]) (fun k => H) (fun k => []) (fun k => k ≤ l.length ∧ hasB (l.take k) n = false) (fun k => l.length - k) 0 (fun _ s => s) ⟨rfl,trivial⟩ ⟨by omega,rfl⟩ fun k hC => ?_
 obtain ⟨hk0,hal⟩ := hC
 refine .sr<|.yv (.lss Z Z) Z<|.nt<|.sq<|.cd Z (fun h10 => ?_) (fun h10 => ?_)
 ·try simp only [dt] at h10
  have hk : k < l.length := by omega
  obtain ⟨bE,oE,cE,hpE,rE,lE,mE⟩ := hs.elem (map_at (f := dStrL) hk)
  cases hpE
  generalize hxE : l[k] = xE at rE
  obtain rfl := strL_open rE
  refine .sk<|.tN<|.sq<|.bk<|.sr<|.yv (.indexSl Fx.sl54 Z Z Z (by omega) (q := oE + k * 1) Z) Z<|.yv (.loadM Z Fx.agg9 mE (k := 0) Z Z) Z<|.a Z Z<|.ns<|.m Z Z<|.m Z Z<|.yv (.eqS Z Z) Z<|.nt<|.cd Z (fun h15 => ?_) (fun h15 => ?_)
  ·try simp only [dt] at h15
   refine .sr<|.a Z Z<|.nt<|.rt<|.bR<|.tR<|.tR<|.bR<|.tR<|?_
   refine Sx.ret1 (.inl rfl) rfl (.tmp rfl) fun W s => ⟨?_,s.ext⟩
   first
    | (rw [hal])
    | (rw [show hasB l n = true from List.any_eq_true.2 ⟨l[k],List.getElem_mem hk,by rw [hxE];exact decide_eq_true h15⟩])
  try simp only [df] at h15
  exact .sk<|.bN<|.tN<|.rg<|.yv (.add Z Z (w6 (by omega))) Z<|.m Z Z<|.nt<|.ag (k + 1) ⟨rfl,trivial⟩ ⟨rfl,rfl,rfl,trivial⟩ (fun _ s => s) ⟨by omega,by rw [hasB,any_succ hk];rw [hasB] at hal;rw [hal,hxE,decide_eq_false h15];rfl⟩ (by omega)
 try simp only [df] at h10
 obtain rfl : k = l.length := by omega
 rw [List.take_length] at hal
 refine .ex<|.tE<|.tE<|.bE<|.tN<|.sr<|.a Z Z<|.nt<|.rt<|?_
 refine Sx.ret1 (.inl rfl) rfl (.tmp rfl) fun W s => ⟨?_,s.ext⟩
 first
  | (rw [hal])
  | (rw [show hasB l n = true from List.any_eq_true.2 ⟨l[k],List.getElem_mem hk,by rw [hxE];exact decide_eq_true h15⟩])
set_option maxRecDepth 100000 in
theorem flagR_any (H : Hp) (x0 x2 x3 : Value) (f : List Fg) (n : Str) (m : Nat) (hm : m ≤ f.length) (p1 : Option Addr) (c1 : Nat) (h1 : Rep H (.seq 2 (f.map dFg)) [.slice p1 f.length c1]) (w : World) (hA : Agr H w) :
 Calls Tryz.prog 33 #[.agg [x0,.slice p1 f.length c1,x2,x3].toArray,.int .i64 (m : Nat),strV n] w fun r w' => r = .returned (.bool (flagB (f.take m) n)) ∧ Ext w w' := by
 have hcap := h1.cap
 refine Sx.enter (H := H) Tryz.func33 rfl Tryz.ntmps33 rfl hA ?_
 refine .sr<|.bx Z Z Z fun b3 => .a Z Z<|.nt<|.sq<|.sr<|.a Z Z<|.nt<|.bk<|.lp (X := Nat) [(1,_),(2,_),(3,_)] ⟨rfl,rfl,rfl,trivial⟩ [_] (fun k => [(7,.int .i64 (k : Nat))]) (fun k => H) (fun k => []) (fun k => k ≤ m ∧ flagB (f.take k) n = false) (fun k => m - k) 0 (fun _ s => s) ⟨rfl,trivial⟩ ⟨by omega,rfl⟩ fun k hC => ?_
 obtain ⟨hk0,hal⟩ := hC
 refine .sq<|.sr<|.m Z Z<|.m Z Z<|.yv (.lss Z Z) Z<|.nt<|.cd Z (fun h10 => ?_) (fun h10 => ?_)
 ·try simp only [dt] at h10
  have hk : k < f.length := by omega
  obtain ⟨bE,oE,cE,hpE,rE,lE,mE⟩ := h1.elem (map_at (f := dFg) hk)
  cases hpE
  generalize hxE : f[k] = xE at rE
  obtain ⟨rfl,_⟩ := fg_open rE
  refine .sk<|.tN<|.sq<|.bk<|.sr<|.yv (.fieldAddr Z Fx.field31_1) Z<|.yv (.load Z Fx.agg27 (.head _) Z) Z<|.m Z Z<|.yv (.indexSl Fx.sl27 Z Z Z (by omega) (q := oE + k * 2) Z) Z<|.yv (.fieldAddr Z Fx.field88_0) Z<|.yv (.loadM Z Fx.agg9 mE (k := 0) Z Z) Z<|.m Z Z<|.yv (.eqS Z Z) Z<|.nt<|.cd Z (fun h20 => ?_) (fun h20 => ?_)
  ·try simp only [dt] at h20
   refine .sr<|.a Z Z<|.nt<|.rt<|.bR<|.tR<|.tR<|.bR<|.tR<|?_
   refine Sx.ret1 (.inl rfl) rfl (.tmp rfl) fun W s => ⟨?_,s.ext⟩
   first
    | (rw [hal])
    | (rw [show flagB (f.take m) n = true from List.any_eq_true.2 ⟨f[k],List.mem_take_iff_getElem.2 ⟨k,by omega,rfl⟩,by rw [hxE];exact decide_eq_true h20⟩])
  try simp only [df] at h20
  exact .sk<|.bN<|.tN<|.rg<|.m Z Z<|.yv (.add Z Z (w6 (by omega))) Z<|.a Z Z<|.nt<|.ag (k + 1) ⟨rfl,trivial⟩ ⟨rfl,rfl,rfl,trivial⟩ (fun _ s => s) ⟨by omega,by rw [flagB,any_succ hk];rw [flagB] at hal;rw [hal,hxE,decide_eq_false h20];rfl⟩ (by omega)
 try simp only [df] at h10
 obtain rfl : k = m := by omega
 refine .ex<|.tE<|.tE<|.bE<|.tN<|.sr<|.a Z Z<|.nt<|.rt<|?_
 refine Sx.ret1 (.inl rfl) rfl (.tmp rfl) fun W s => ⟨?_,s.ext⟩
 first
  | (rw [hal])
  | (rw [show flagB (f.take m) n = true from List.any_eq_true.2 ⟨f[k],List.mem_take_iff_getElem.2 ⟨k,by omega,rfl⟩,by rw [hxE];exact decide_eq_true h20⟩])
set_option maxRecDepth 100000 in
theorem variableR_any (H : Hp) (x0 x2 : Value) (f : List Vr) (n : Str) (m : Nat) (hm : m ≤ f.length) (p1 : Option Addr) (c1 : Nat) (h1 : Rep H (.seq 3 (f.map (dVr .i64))) [.slice p1 f.length c1]) (w : World) (hA : Agr H w) :
 Calls Tryz.prog 35 #[.agg [x0,.slice p1 f.length c1,x2].toArray,.int .i64 (m : Nat),strV n] w fun r w' => r = .returned (.int .i64 (ixI (fun x => decide (x.nm = n)) (f.take m))) ∧ Ext w w' := by
 have hcap := h1.cap
 refine Sx.enter (H := H) Tryz.func35 rfl Tryz.ntmps35 rfl hA ?_
 refine .sr<|.bx Z Z Z fun b3 => .a Z Z<|.nt<|.sq<|.sr<|.a Z Z<|.nt<|.bk<|.lp (X := Nat) [(1,_),(2,_),(3,_)] ⟨rfl,rfl,rfl,trivial⟩ [_] (fun k => [(7,.int .i64 (k : Nat))]) (fun k => H) (fun k => []) (fun k => k ≤ m ∧ (f.take k).any (fun x => decide (x.nm = n)) = false) (fun k => m - k) 0 (fun _ s => s) ⟨rfl,trivial⟩ ⟨by omega,rfl⟩ fun k hC => ?_
 obtain ⟨hk0,hal⟩ := hC
 refine .sq<|.sr<|.m Z Z<|.m Z Z<|.yv (.lss Z Z) Z<|.nt<|.cd Z (fun h10 => ?_) (fun h10 => ?_)
 ·try simp only [dt] at h10
  have hk : k < f.length := by omega
  obtain ⟨bE,oE,cE,hpE,rE,lE,mE⟩ := h1.elem (map_at (f := (dVr .i64)) hk)
  cases hpE
  generalize hxE : f[k] = xE at rE
  obtain ⟨rfl,_⟩ := vr_open rE
  refine .sk<|.tN<|.sq<|.bk<|.sr<|.yv (.fieldAddr Z Fx.field78_1) Z<|.yv (.load Z Fx.agg75 (.head _) Z) Z<|.m Z Z<|.yv (.indexSl Fx.sl75 Z Z Z (by omega) (q := oE + k * 3) Z) Z<|.yv (.fieldAddr Z Fx.field98_0) Z<|.yv (.loadM Z Fx.agg9 mE (k := 0) Z Z) Z<|.m Z Z<|.yv (.eqS Z Z) Z<|.nt<|.cd Z (fun h20 => ?_) (fun h20 => ?_)
  ·try simp only [dt] at h20
   refine .sr<|.m Z Z<|.a Z Z<|.nt<|.rt<|.bR<|.tR<|.tR<|.bR<|.tR<|?_
   refine Sx.ret1 (.inl rfl) rfl (.tmp rfl) fun W s => ⟨?_,s.ext⟩
   first
    | (rw [ixI_none hal])
    | (rw [ixI_at (l := f.take m) (k := k) (by rw [List.length_take];omega) (by rw [List.take_take,Nat.min_eq_left (by omega)];exact hal) (by rw [List.getElem_take,hxE];exact decide_eq_true h20)])
  try simp only [df] at h20
  exact .sk<|.bN<|.tN<|.rg<|.m Z Z<|.yv (.add Z Z (w6 (by omega))) Z<|.a Z Z<|.nt<|.ag (k + 1) ⟨rfl,trivial⟩ ⟨rfl,rfl,rfl,trivial⟩ (fun _ s => s) ⟨by omega,by rw [any_succ hk,hal,hxE,decide_eq_false h20];rfl⟩ (by omega)
 try simp only [df] at h10
 obtain rfl : k = m := by omega
 refine .ex<|.tE<|.tE<|.bE<|.tN<|.sr<|.a Z Z<|.nt<|.rt<|?_
 refine Sx.ret1 (.inl rfl) rfl (.tmp rfl) fun W s => ⟨?_,s.ext⟩
 first
  | (rw [ixI_none hal])
  | (rw [ixI_at (l := f.take m) (k := k) (by rw [List.length_take];omega) (by rw [List.take_take,Nat.min_eq_left (by omega)];exact hal) (by rw [List.getElem_take,hxE];exact decide_eq_true h20)])
set_option maxRecDepth 100000 in
theorem namedR_any (H : Hp) (f : Ft) (c : Cp) (ps : List Str) (n : Str) (cs : List Value) (hs : RsR H f c ps cs) (w : World) (hA : Agr H w) :
 Calls Tryz.prog 82 #[.agg cs.toArray,strV n] w fun r w' => r = .returned (.agg (rV (wrongT (nameT ⟨f.flags,c.vars,ps⟩ n).1 n (nameT ⟨f.flags,c.vars,ps⟩ n).2)).toArray) ∧ Ext w w' := by
 obtain ⟨p1,c1,p2,c2,p3,c3,q1,d1,q2,d2,p5,c5,rfl,k1,k2,k3⟩ := hs.ex
 have hcap1 := k1.cap
 have hcap2 := k2.cap
 have hcap3 := k3.cap
 cases hv : varF c.vars n with
 | none =>
  have hix : ixI (fun x : Vr => decide (x.nm = n)) c.vars = -1 := ixI_none (by rw [List.any_eq_false];exact List.find?_eq_none.1 hv)
  refine Sx.enter (H := H) Tryz.func82 rfl Tryz.ntmps82 rfl hA ?_
  refine .sr<|.bx Z Z Z fun b2 => .al Fx.zero72 Z fun b4 => .nt<|.sq<|.sr<|.yv (.fieldAddr Z Fx.field143_2) Z<|.yv (.load Z Fx.agg54 (.tail _<|.head _) Z) Z<|.m Z Z<|.yv (.call Fx.call73 Z (fun W s => has_any H ps n _ k3 W s.agr)) Z<|.nt<|.cd Z (fun h9 => ?_) (fun h9 => ?_)
  ·skip
   refine .sr<|.yv (.build Z (Fx.bld72_0 _)) Z<|.sW .head Z Z Fx.size72 (by simp [Value.oneCell',strV]) Z<|.nt<|.rt<|.tR<|?_
   refine Sx.ret1 (.inl rfl) rfl (.cell rfl Fx.agg72 (.head _) rfl) fun W s => ⟨?_,s.ext⟩
   first
    | (rw [nameT,if_pos h9];rfl)
    | (rw [nameT,if_neg hp,hv];simp only;rw [if_pos h50];rfl)
    | (rw [nameT,if_neg hp,hv];simp only;rw [if_neg hf];rfl)
  have hp : ¬ hasB ps n = true := by rw [h9];decide
  refine .sk<|.tN<|.sr<|.yv (.fieldAddr Z Fx.field143_1) Z<|.yv (.loadS (vs := [_,_,_]) Z Fx.agg78 (.tail _<|.head _) Z (subL Z)) Z<|.yv (.fieldAddr Z Fx.field143_1) Z<|.yv (.fieldAddr Z Fx.field78_1) Z<|.yv (.load Z Fx.agg75 (.tail _<|.head _) Z) Z<|.yv (.lenSl Fx.sl75 Z) Z<|.m Z Z<|.yv (.cast (v' := .int .i64 (-1)) (.call Fx.call35 Z (fun W s => variableR_any H _ _ c.vars n c.vars.length (Nat.le_refl _) _ _ k2 W s.agr)) (by rw [List.take_length,hix])) Z<|.a Z Z<|.nt<|.sq<|.sr<|.m Z Z<|.yv (.cast (v' := .bool false) (.geq Z Z) (by rfl)) Z<|.m Z Z<|.gF Z Z Z Z<|.gF Z Z Z Z<|.gF Z Z Z Z<|.gF Z Z Z Z<|.gF Z Z Z Z<|.gF Z Z Z Z<|.gF Z Z Z Z<|.gF Z Z Z Z<|.yv (.pickF Z Z) Z<|.nt<|.cF Z<|.sk<|.tN<|.sq<|.sr<|.m Z Z<|.yv (.cast (v' := .bool false) (.geq Z Z) (by rfl)) Z<|.nt<|.cF Z<|.sk<|.tN<|.sq<|.sr<|.yv (.fieldAddr Z Fx.field143_0) Z<|.yv (.loadS (vs := [_,_,_,_]) Z Fx.agg31 (.tail _<|.head _) Z (subL Z)) Z<|.yv (.fieldAddr Z Fx.field143_0) Z<|.yv (.fieldAddr Z Fx.field31_1) Z<|.yv (.load Z Fx.agg27 (.tail _<|.head _) Z) Z<|.yv (.lenSl Fx.sl27 Z) Z<|.m Z Z<|.yv (.call Fx.call33 Z (fun W s => flagR_any H _ _ _ f.flags n f.flags.length (Nat.le_refl _) _ _ k1 W s.agr)) Z<|.nt<|.cd Z (fun h50 => ?_) (fun h50 => ?_)
  ·rw [List.take_length] at h50
   refine .sr<|.yv (.build Z (Fx.bld72_0 _)) Z<|.sW .head Z Z Fx.size72 (by simp [Value.oneCell',strV]) Z<|.nt<|.rt<|.tR<|?_
   refine Sx.ret1 (.inl rfl) rfl (.cell rfl Fx.agg72 (.head _) rfl) fun W s => ⟨?_,s.ext⟩
   first
    | (rw [nameT,if_pos h9];rfl)
    | (rw [nameT,if_neg hp,hv];simp only;rw [if_pos h50];rfl)
    | (rw [nameT,if_neg hp,hv];simp only;rw [if_neg hf];rfl)
  rw [List.take_length] at h50
  have hf : ¬ flagB f.flags n = true := by rw [h50];decide
  refine .sk<|.tN<|.sr<|.m Z Z<|.yv (.build Z (Fx.bld72_0_1_2 _ _ _)) Z<|.sW .head Z Z Fx.size72 (by simp [Value.oneCell',strV]) Z<|.nt<|.rt<|?_
  refine Sx.ret1 (.inl rfl) rfl (.cell rfl Fx.agg72 (.head _) rfl) fun W s => ⟨?_,s.ext⟩
  first
   | (rw [nameT,if_pos h9];rfl)
   | (rw [nameT,if_neg hp,hv];simp only;rw [if_pos h50];rfl)
   | (rw [nameT,if_neg hp,hv];simp only;rw [if_neg hf];rfl)
 | some v =>
  obtain ⟨k,hk,hix,hve,_⟩ := find_ix hv
  subst hve
  obtain ⟨bE,oE,cE,hpE,rE,lE,mE⟩ := k2.elem (map_at (f := dVr .i64) hk)
  cases hpE
  obtain ⟨rfl,_⟩ := vr_open rE
  refine Sx.enter (H := H) Tryz.func82 rfl Tryz.ntmps82 rfl hA ?_
  refine .sr<|.bx Z Z Z fun b2 => .al Fx.zero72 Z fun b4 => .nt<|.sq<|.sr<|.yv (.fieldAddr Z Fx.field143_2) Z<|.yv (.load Z Fx.agg54 (.tail _<|.head _) Z) Z<|.m Z Z<|.yv (.call Fx.call73 Z (fun W s => has_any H ps n _ k3 W s.agr)) Z<|.nt<|.cd Z (fun h9 => ?_) (fun h9 => ?_)
  ·skip
   refine .sr<|.yv (.build Z (Fx.bld72_0 _)) Z<|.sW .head Z Z Fx.size72 (by simp [Value.oneCell',strV]) Z<|.nt<|.rt<|.tR<|?_
   refine Sx.ret1 (.inl rfl) rfl (.cell rfl Fx.agg72 (.head _) rfl) fun W s => ⟨?_,s.ext⟩
   first
    | (rw [nameT,if_pos h9];rfl)
    | (rw [nameT,if_neg hp,hv];simp only;rw [if_pos hty];rfl)
    | (rw [nameT,if_neg hp,hv];simp only;rw [if_neg hty];rfl)
  have hp : ¬ hasB ps n = true := by rw [h9];decide
  refine .sk<|.tN<|.sr<|.yv (.fieldAddr Z Fx.field143_1) Z<|.yv (.loadS (vs := [_,_,_]) Z Fx.agg78 (.tail _<|.head _) Z (subL Z)) Z<|.yv (.fieldAddr Z Fx.field143_1) Z<|.yv (.fieldAddr Z Fx.field78_1) Z<|.yv (.load Z Fx.agg75 (.tail _<|.head _) Z) Z<|.yv (.lenSl Fx.sl75 Z) Z<|.m Z Z<|.yv (.cast (v' := .int .i64 (k : Nat)) (.call Fx.call35 Z (fun W s => variableR_any H _ _ c.vars n c.vars.length (Nat.le_refl _) _ _ k2 W s.agr)) (by rw [List.take_length,hix])) Z<|.a Z Z<|.nt<|.sq<|.sr<|.m Z Z<|.yv (.cast (v' := .bool true) (.geq Z Z) (by simp)) Z<|.m Z Z<|.gd Z Z<|.yv (.fieldAddr Z Fx.field143_1) Z<|.gd Z Z<|.yv (.fieldAddr Z Fx.field78_1) Z<|.gd Z Z<|.yv (.load Z Fx.agg75 (.tail _<|.head _) Z) Z<|.gd Z Z<|.yv (.move Z) Z<|.gd Z Z<|.yv (.indexSl Fx.sl75 Z Z Z (by omega) (q := oE + k * 3) Z) Z<|.gd Z Z<|.yv (.fieldAddr Z Fx.field98_1) Z<|.gd Z Z<|.yv (.loadM Z Fx.agg3 mE (k := 1) Z Z) Z<|.gd Z Z<|.yv (.eql Z Z) Z<|.yv (.pickT Z Z) Z<|.nt<|.cd Z (fun h30 => ?_) (fun h30 => ?_)
  ·have hty : c.vars[k].ty = 3 := (u8n (k := 3) (by decide)).1 (of_decide_eq_true h30)
   refine .sr<|.m Z Z<|.yv (.build Z (Fx.bld72_0_1_2 _ _ _)) Z<|.sW .head Z Z Fx.size72 (by simp [Value.oneCell',strV]) Z<|.nt<|.rt<|.tR<|?_
   refine Sx.ret1 (.inl rfl) rfl (.cell rfl Fx.agg72 (.head _) rfl) fun W s => ⟨?_,s.ext⟩
   first
    | (rw [nameT,if_pos h9];rfl)
    | (rw [nameT,if_neg hp,hv];simp only;rw [if_pos hty];rfl)
    | (rw [nameT,if_neg hp,hv];simp only;rw [if_neg hty];rfl)
  have hty : ¬ c.vars[k].ty = 3 := fun e => of_decide_eq_false h30 ((u8n (k := 3) (by decide)).2 e)
  refine .sk<|.tN<|.sq<|.sr<|.m Z Z<|.yv (.cast (v' := .bool true) (.geq Z Z) (by simp)) Z<|.nt<|.cT Z<|.sr<|.yv (.fieldAddr Z Fx.field143_1) Z<|.yv (.fieldAddr Z Fx.field78_1) Z<|.yv (.load Z Fx.agg75 (.tail _<|.head _) Z) Z<|.m Z Z<|.yv (.indexSl Fx.sl75 Z Z Z (by omega) (q := oE + k * 3) Z) Z<|.yv (.fieldAddr Z Fx.field98_1) Z<|.yv (.loadM Z Fx.agg3 mE (k := 1) Z Z) Z<|.yv (.build Z (Fx.bld72_0 _)) Z<|.sW .head Z Z Fx.size72 (by simp [Value.oneCell',strV]) Z<|.nt<|.rt<|.tR<|?_
  refine Sx.ret1 (.inl rfl) rfl (.cell rfl Fx.agg72 (.head _) rfl) fun W s => ⟨?_,s.ext⟩
  first
   | (rw [nameT,if_pos h9];rfl)
   | (rw [nameT,if_neg hp,hv];simp only;rw [if_pos hty];rfl)
   | (rw [nameT,if_neg hp,hv];simp only;rw [if_neg hty];rfl)
set_option maxRecDepth 100000 in
theorem tabledR_any (H : Hp) (f : Ft) (c : Cp) (ps : List Str) (n : Str) (cs : List Value) (hs : RsR H f c ps cs) (w : World) (hA : Agr H w) :
 Calls Tryz.prog 83 #[.agg cs.toArray,strV n] w fun r w' => r = .returned (.agg (rV (wrongT 0 n (tableT ⟨f.flags,c.vars,ps⟩ n))).toArray) ∧ Ext w w' := by
 obtain ⟨p1,c1,p2,c2,p3,c3,q1,d1,q2,d2,p5,c5,rfl,k1,k2,k3⟩ := hs.ex
 have hcap1 := k1.cap
 have hcap2 := k2.cap
 have hcap3 := k3.cap
 cases hv : varF c.vars n with
 | none =>
  have hix : ixI (fun x : Vr => decide (x.nm = n)) c.vars = -1 := ixI_none (by rw [List.any_eq_false];exact List.find?_eq_none.1 hv)
  refine Sx.enter (H := H) Tryz.func83 rfl Tryz.ntmps83 rfl hA ?_
  refine .sr<|.bx Z Z Z fun b2 => .al Fx.zero72 Z fun b4 => .ns<|.yv (.fieldAddr Z Fx.field143_1) Z<|.yv (.loadS (vs := [_,_,_]) Z Fx.agg78 (.tail _<|.head _) Z (subL Z)) Z<|.yv (.fieldAddr Z Fx.field143_1) Z<|.yv (.fieldAddr Z Fx.field78_1) Z<|.yv (.load Z Fx.agg75 (.tail _<|.head _) Z) Z<|.yv (.lenSl Fx.sl75 Z) Z<|.m Z Z<|.yv (.cast (v' := .int .i64 (-1)) (.call Fx.call35 Z (fun W s => variableR_any H _ _ c.vars n c.vars.length (Nat.le_refl _) _ _ k2 W s.agr)) (by rw [List.take_length,hix])) Z<|.a Z Z<|.nt<|.sq<|.sr<|.yv (.fieldAddr Z Fx.field143_2) Z<|.yv (.load Z Fx.agg54 (.tail _<|.head _) Z) Z<|.m Z Z<|.yv (.call Fx.call73 Z (fun W s => has_any H ps n _ k3 W s.agr)) Z<|.m Z Z<|.b2 (fun h18 => ?_) (fun h18 => ?_)
  ·have hp := h18
   refine .gF Z Z Z Z<|.gF Z Z Z Z<|.yv (.pickT Z Z) Z<|.nt<|.cT Z<|.sr<|.m Z Z<|.yv (.build Z (Fx.bld72_0_1_2 _ _ _)) Z<|.sW .head Z Z Fx.size72 (by simp [Value.oneCell',strV]) Z<|.nt<|.rt<|.tR<|?_
   refine Sx.ret1 (.inl rfl) rfl (.cell rfl Fx.agg72 (.head _) rfl) fun W s => ⟨?_,s.ext⟩
   first
    | (rw [tableT,varS,if_pos hp];rfl)
    | (rw [tableT,varS,if_neg hp,hv];rfl)
  have hp : ¬ hasB ps n = true := by rw [h18];decide
  refine .gd Z Z<|.yv (.move Z) Z<|.gd Z Z<|.yv (.cast (v' := .bool true) (.lss Z Z) (by rfl)) Z<|.yv (.pickF Z Z) Z<|.nt<|.cT Z<|.sr<|.m Z Z<|.yv (.build Z (Fx.bld72_0_1_2 _ _ _)) Z<|.sW .head Z Z Fx.size72 (by simp [Value.oneCell',strV]) Z<|.nt<|.rt<|.tR<|?_
  refine Sx.ret1 (.inl rfl) rfl (.cell rfl Fx.agg72 (.head _) rfl) fun W s => ⟨?_,s.ext⟩
  first
   | (rw [tableT,varS,if_pos hp];rfl)
   | (rw [tableT,varS,if_neg hp,hv];rfl)
 | some v =>
  obtain ⟨k,hk,hix,hve,_⟩ := find_ix hv
  subst hve
  obtain ⟨bE,oE,cE,hpE,rE,lE,mE⟩ := k2.elem (map_at (f := dVr .i64) hk)
  cases hpE
  obtain ⟨rfl,_⟩ := vr_open rE
  refine Sx.enter (H := H) Tryz.func83 rfl Tryz.ntmps83 rfl hA ?_
  refine .sr<|.bx Z Z Z fun b2 => .al Fx.zero72 Z fun b4 => .ns<|.yv (.fieldAddr Z Fx.field143_1) Z<|.yv (.loadS (vs := [_,_,_]) Z Fx.agg78 (.tail _<|.head _) Z (subL Z)) Z<|.yv (.fieldAddr Z Fx.field143_1) Z<|.yv (.fieldAddr Z Fx.field78_1) Z<|.yv (.load Z Fx.agg75 (.tail _<|.head _) Z) Z<|.yv (.lenSl Fx.sl75 Z) Z<|.m Z Z<|.yv (.cast (v' := .int .i64 (k : Nat)) (.call Fx.call35 Z (fun W s => variableR_any H _ _ c.vars n c.vars.length (Nat.le_refl _) _ _ k2 W s.agr)) (by rw [List.take_length,hix])) Z<|.a Z Z<|.nt<|.sq<|.sr<|.yv (.fieldAddr Z Fx.field143_2) Z<|.yv (.load Z Fx.agg54 (.tail _<|.head _) Z) Z<|.m Z Z<|.yv (.call Fx.call73 Z (fun W s => has_any H ps n _ k3 W s.agr)) Z<|.m Z Z<|.b2 (fun h18 => ?_) (fun h18 => ?_)
  ·have hp := h18
   refine .gF Z Z Z Z<|.gF Z Z Z Z<|.yv (.pickT Z Z) Z<|.nt<|.cT Z<|.sr<|.m Z Z<|.yv (.build Z (Fx.bld72_0_1_2 _ _ _)) Z<|.sW .head Z Z Fx.size72 (by simp [Value.oneCell',strV]) Z<|.nt<|.rt<|.tR<|?_
   refine Sx.ret1 (.inl rfl) rfl (.cell rfl Fx.agg72 (.head _) rfl) fun W s => ⟨?_,s.ext⟩
   first
    | (rw [tableT,varS,if_pos hp];rfl)
    | (rw [tableT,varS,if_neg hp,hv];simp only;rw [if_neg hty];rfl)
    | (rw [tableT,varS,if_neg hp,hv];simp only;rw [if_pos hty];rfl)
  have hp : ¬ hasB ps n = true := by rw [h18];decide
  refine .gd Z Z<|.yv (.move Z) Z<|.gd Z Z<|.yv (.cast (v' := .bool false) (.lss Z Z) (by simp)) Z<|.yv (.pickF Z Z) Z<|.nt<|.cF Z<|.sk<|.tN<|.sq<|.sr<|.yv (.fieldAddr Z Fx.field143_1) Z<|.yv (.fieldAddr Z Fx.field78_1) Z<|.yv (.load Z Fx.agg75 (.tail _<|.head _) Z) Z<|.m Z Z<|.yv (.indexSl Fx.sl75 Z Z Z (by omega) (q := oE + k * 3) Z) Z<|.yv (.fieldAddr Z Fx.field98_1) Z<|.yv (.loadM Z Fx.agg3 mE (k := 1) Z Z) Z<|.yv (.neq Z Z) Z<|.nt<|.cd Z (fun h31 => ?_) (fun h31 => ?_)
  ·have hty : ¬ c.vars[k].ty = 3 := fun e => of_decide_eq_true h31 ((u8n (k := 3) (by decide)).2 e)
   refine .sr<|.m Z Z<|.yv (.build Z (Fx.bld72_0_1_2 _ _ _)) Z<|.sW .head Z Z Fx.size72 (by simp [Value.oneCell',strV]) Z<|.nt<|.rt<|.tR<|?_
   refine Sx.ret1 (.inl rfl) rfl (.cell rfl Fx.agg72 (.head _) rfl) fun W s => ⟨?_,s.ext⟩
   first
    | (rw [tableT,varS,if_pos hp];rfl)
    | (rw [tableT,varS,if_neg hp,hv];simp only;rw [if_neg hty];rfl)
    | (rw [tableT,varS,if_neg hp,hv];simp only;rw [if_pos hty];rfl)
  have hty : c.vars[k].ty = 3 := (u8n (k := 3) (by decide)).1 (Decidable.not_not.1 (of_decide_eq_false h31))
  refine .sk<|.tN<|.sr<|.yv (.build Z Fx.bld72) Z<|.sW .head Z Z Fx.size72 (by simp [Value.oneCell',strV]) Z<|.nt<|.rt<|?_
  refine Sx.ret1 (.inl rfl) rfl (.cell rfl Fx.agg72 (.head _) rfl) fun W s => ⟨?_,s.ext⟩
  first
   | (rw [tableT,varS,if_pos hp];rfl)
   | (rw [tableT,varS,if_neg hp,hv];simp only;rw [if_neg hty];rfl)
   | (rw [tableT,varS,if_neg hp,hv];simp only;rw [if_pos hty];rfl)
theorem Fx.agg143 : aggN Tryz.prog 143 = Option.some (Option.some 8) := by kernel_rfl
theorem Fx.call49 : callN Tryz.prog 49 = Bool.true := by kernel_rfl
theorem Fx.call82 : callN Tryz.prog 82 = Bool.true := by kernel_rfl
theorem Fx.call83 : callN Tryz.prog 83 = Bool.true := by kernel_rfl
theorem Fx.field72_0 : fieldN Tryz.prog 72 0 = Option.some 0 := by kernel_rfl
theorem Fx.field72_1 : fieldN Tryz.prog 72 1 = Option.some 1 := by kernel_rfl
theorem Fx.row183 : rowN Tryz.prog 183 = Option.some (72,3,32) := by kernel_rfl
theorem Fx.sl183 : slN Tryz.prog 183 = Option.some 3 := by kernel_rfl
theorem Fx.bld72_1 (x1 : Int) : buildN Tryz.prog 72 [(1,.int .i64 x1)] = some [.int .i64 0,.int .i64 x1,.string ⟨#[]⟩] := by kernel_rfl
theorem Fx.bsl183_1 (x00 x01 x02 : Value) : bslN Tryz.prog 183 1 [(0,.agg [x00,x01,x02].toArray)] = some (72,[x00,x01,x02]) := by kernel_rfl
def dR (r : Tr) : D := .str [.val (.int .i64 r.ty.toNat),.val (.int .i64 (r.er : Nat)),.val (strV r.nm)]
theorem dR_open {H : Hp} {r : Tr} {cs : List Value} (h : Rep H (dR r) cs) : cs = rV r := by
 rw [dR,repS] at h
 obtain ⟨_,rfl,_,_,h⟩ := repL_val.1 h
 obtain ⟨_,rfl,_,_,h⟩ := repL_val.1 h
 obtain ⟨_,rfl,_,_,h⟩ := repL_val.1 h
 rw [repL_nil] at h
 subst h;rfl
theorem dR_shut {H : Hp} {r : Tr} (h : r.nm = []) : Rep H (dR r) (rV r) := by
 rw [dR,repS]
 exact repL_val.2 ⟨_,rfl,rfl,trivial,repL_val.2 ⟨_,rfl,rfl,trivial,repL_val.2 ⟨_,rfl,rfl,okS.2 (by rw [h];decide),repL_nil.2 rfl⟩⟩⟩
theorem wrongT_nm {t : UInt8} {n : Str} {e : Nat} (h : (wrongT t n e).er = 0) : (wrongT t n e).nm = [] := by
 unfold wrongT at h ⊢
 split
 ·rfl
 ·rename_i k;rw [if_neg k] at h;exact absurd h k
theorem tyRop_nm {s : Sc} {op : UInt8} {nm : Str} {l : List Tr} (h : (tyRop s op nm l).er = 0) : (tyRop s op nm l).nm = [] := by
 unfold tyRop at h ⊢
 cases hf : fstE l with
 | some r =>
  rw [hf] at h
  have := List.find?_some hf
  exact absurd h (of_decide_eq_true this)
 | none =>
  rw [hf] at h
  simp only at h ⊢
  split
  ·rfl
  rename_i h1;rw [if_neg h1] at h
  split
  ·rfl
  rename_i h2;rw [if_neg h2] at h
  split
  ·rename_i h3;rw [if_pos h3] at h;exact wrongT_nm h
  rename_i h3;rw [if_neg h3] at h
  split
  ·rfl
  rename_i h4;rw [if_neg h4] at h
  split
  ·rename_i h5;rw [if_pos h5] at h;exact absurd h h5.2
  ·rfl
theorem tyR_nm {s : Sc} {e : Ex} (h : (tyR s e).er = 0) : (tyR s e).nm = [] := by
 obtain ⟨op,nm,n,args⟩ := e
 rw [tyR_mk] at h ⊢
 exact tyRop_nm h
theorem tyRop_bad {s : Sc} {op : UInt8} {nm : Str} {l : List Tr} {r : Tr} (h : fstE l = some r) : tyRop s op nm l = r := by unfold tyRop;rw [h]
def tyRCut (s : Sc) (op : UInt8) (nm : Str) (l : List Tr) (z : UInt8 × UInt8) : Prop := tyRop s op nm l = if ¬ (l.all fun r => decide (r.ty = z.1)) = true then ⟨0,[],10⟩ else if (op = 6 ∨ op = 7 ∨ op = 8) ∧ ¬ tableT s nm = 0 then ⟨0,nm,tableT s nm⟩ else ⟨z.2,[],0⟩
theorem tyRCut_of {s : Sc} {op : UInt8} {nm : Str} {l : List Tr} {z : UInt8 × UInt8} (he : fstE l = none) (h1 : ¬ (op = 1 ∨ op = 4)) (h2 : ¬ (op = 2 ∨ op = 3)) (h5 : ¬ op = 5) (hn : needT_ op (fstT l) = z.1) (hr : resT op = z.2) : tyRCut s op nm l z := by
 unfold tyRCut tyRop
 rw [he]
 simp only
 rw [if_neg h1,if_neg h2,if_neg h5,hn,hr]
theorem tyRop_1 {s : Sc} {op : UInt8} {nm : Str} {l : List Tr} (he : fstE l = none) (h : op = 1 ∨ op = 4) : tyRop s op nm l = ⟨1,[],0⟩ := by
 unfold tyRop
 rw [he];simp only
 rw [if_pos h]
theorem tyRop_2 {s : Sc} {op : UInt8} {nm : Str} {l : List Tr} (he : fstE l = none) (h1 : ¬ (op = 1 ∨ op = 4)) (h : op = 2 ∨ op = 3) : tyRop s op nm l = ⟨2,[],0⟩ := by
 unfold tyRop
 rw [he];simp only
 rw [if_neg h1,if_pos h]
theorem tyRop_5 {s : Sc} {nm : Str} {l : List Tr} (he : fstE l = none) : tyRop s 5 nm l = wrongT (nameT s nm).1 nm (nameT s nm).2 := by
 unfold tyRop
 rw [he];rfl
theorem all_snoc {q : Tr → Bool} {f : Ex → Tr} {l : List Ex} {k : Nat} {x : Ex} (hk : k < l.length) (hx : l[k] = x) : ((l.take (k + 1)).map f).all q = (((l.take k).map f).all q && q (f x)) := by
 rw [take_snoc hk,List.map_append,List.all_append,hx];simp
theorem all_bad {q : Tr → Bool} {f : Ex → Tr} {l : List Ex} {k : Nat} {x : Ex} (hk : k < l.length) (hx : l[k] = x) (h : q (f x) = false) : (l.map f).all q = false := by
 rw [List.all_eq_false]
 exact ⟨f x,List.mem_map.2 ⟨l[k],List.getElem_mem hk,by rw [hx]⟩,by rw [h];decide⟩
abbrev RtFn (H : Hp) (cs0 : List Value) (f : Ex → Tr) (e : Ex) : Prop := ∀ (cs : List Value) (w : World),Rep H (dEx .i64 e) cs → Agr H w → Calls Tryz.prog 49 #[.agg cs0.toArray,.agg cs.toArray] w fun r w' => r = .returned (.agg (rV (f e)).toArray) ∧ Ext w w'
set_option maxRecDepth 100000 in
theorem typed_of (H : Hp) (fl : Ft) (cp : Cp) (ps : List Str) (y1 y2 y3 y4 y5 y6 y7 y8 : Value) (cs0 : List Value) (hcs0 : cs0 = [y1,y2,y3,y4,y5,y6,y7,y8]) (hs : RsR H fl cp ps cs0) (sc : Sc) (hscd : sc = ⟨fl.flags,cp.vars,ps⟩) (f : Ex → Tr) (hnmf : ∀ e,(f e).er = 0 → (f e).nm = []) (op : UInt8) (nm : Str) (nn : Int64) (args : List Ex) (hn : op = 16 ∨ op = 17 → 0 < args.length) (hlen : args.length ≤ 1000000) (hf : ∀ e ∈ args,RtFn H cs0 f e) (p : Option Addr) (c : Nat) (hsa : Rep H (.seq 4 (args.map (dEx .i64))) [.slice p args.length c]) (w : World) (hA : Agr H w) :
 Calls Tryz.prog 49 #[.agg cs0.toArray,.agg [.int .i64 op.toNat,strV nm,.int .i64 nn.toInt,.slice p args.length c].toArray] w fun r w' => r = .returned (.agg (rV (tyRop sc op nm (args.map f))).toArray) ∧ Ext w w' := by
 have hcap := hsa.cap
 refine Sx.enter (H := H) Tryz.func49 rfl Tryz.ntmps49 rfl hA ?_
 refine .sr<|.bx Z Z Z fun b2 => .bx Z Z Z fun b3 => .al Fx.zero72 Z fun b4 => .ns<|.a Z Z<|?_
 refine Sx.row0 72 3 ?_
 refine .nt<|.sq<|.sr<|.yv (.fieldAddr Z Fx.field58_3) Z<|.yv (.load Z Fx.agg56 (.tail _<|.tail _<|.head _) Z) Z<|.yv (.lenSl Fx.sl56 Z) Z<|.m Z Z<|.nt<|.bk<|.lp (X := Nat × Value × List Value) [(2,_),(3,_),(4,_),(15,_),(16,_)] ⟨rfl,rfl,rfl,rfl,rfl,trivial⟩ [_,_,_] (fun z => [(17,.int .i64 (z.1 : Nat)),(5,z.2.1)]) (fun z => H) (fun z => [.row 72 3 z.2.1 z.1 z.2.2]) (fun z => z.1 ≤ args.length ∧ (∀ r ∈ (args.take z.1).map f,r.er = 0) ∧ RepZ H 3 (((args.take z.1).map f).map dR) z.2.2) (fun z => args.length - z.1) (0,.slice none 0 0,[]) (fun _ s => s) ⟨rfl,rfl,trivial⟩ ⟨Nat.zero_le _,fun _ h => (by cases h),RepZ.nil⟩ fun z hC => ?_
 obtain ⟨k,r,xs⟩ := z
 obtain ⟨hk0,hal,hz⟩ := hC
 dsimp only at hk0 hal hz ⊢
 refine .sr<|.yv (.lss Z Z) Z<|.nt<|.sq<|.cd Z (fun h18 => ?_) (fun h18 => ?_)
 ·try simp only [dt] at h18
  have hk : k < args.length := by omega
  obtain ⟨bE,oE,cE,hpE,rE,lE,mE⟩ := hsa.elem (map_at (f := dEx .i64) hk)
  cases hpE
  generalize hxE : args[k] = xE at rE
  refine .sk<|.tN<|.sq<|.bk<|.sr<|.yv (.indexSl Fx.sl56 Z Z Z (by omega) (q := oE + k * 4) Z) Z<|.yv (.loadMW Z Fx.agg58 mE lE) Z<|.al Fx.zero58 Z fun b7 => .sV .head Z Z Fx.size58 lE rE.one Z<|.ns<|.yv (.loadW Z Fx.agg143 (.tail _<|.tail _<|.tail _<|.tail _<|.head _) (by rw [hcs0];rfl)) Z<|.yv (.loadW Z Fx.agg58 (.head _) lE) Z<|.yv (.call Fx.call49 Z (fun W s => hf xE (hxE ▸ List.getElem_mem hk) cE W rE s.agr)) Z<|.al Fx.zero72 Z fun b8 => .sW .head Z Z Fx.size72 (by simp [rV,Value.oneCell',strV]) Z<|.nt<|.sq<|.sr<|.yv (.fieldAddr Z Fx.field72_1) Z<|.yv (.load Z Fx.agg3 (.head _) Z) Z<|.yv (.neq Z Z) Z<|.nt<|.cd Z (fun h26 => ?_) (fun h26 => ?_)
  ·have he : ¬ (f xE).er = 0 := by have := of_decide_eq_true h26;omega
   refine .sr<|.yv (.loadW Z Fx.agg72 (.head _) Z) Z<|.sW (.tail<|.tail<|.tail<|.head) Z Z Fx.size72 (by simp [rV,Value.oneCell',strV]) Z<|.nt<|.rt<|.tR<|.bR<|.tR<|.tR<|.bR<|.tR<|?_
   refine Sx.ret1 (.inl rfl) rfl (.cell rfl Fx.agg72 (.tail _<|.tail _<|.tail _<|.head _) rfl) fun W s => ⟨?_,s.ext⟩
   first
    | (rw [tyRop_bad (fstE_at hk hxE hal he)])
  have he : (f xE).er = 0 := by have := of_decide_eq_false h26;omega
  exact .sk<|.tN<|.rg<|.m Z Z<|.yv (.loadW Z Fx.agg72 (.head _) Z) Z<|.bl Z (Fx.bsl183_1 _ _ _) Z fun b30 => .ap (news := rV (f xE)) Fx.row183 Z (fun _ => (.tail<|.tail<|.tail<|.head)) Z (.box (.head _) z0) Z (by simp [rV,Value.oneCell',strV]) (by simp [maxLen];omega) (by omega) Z fun r31 _ => .a Z Z<|.nl<|.bN<|.tN<|.rg<|.yv (.add Z Z (w6 (by omega))) Z<|.m Z Z<|.nt<|.ag (x := (k,r,xs)) (k + 1,r31,xs ++ rV (f xE)) ⟨rfl,rfl,trivial⟩ ⟨rfl,rfl,rfl,rfl,rfl,trivial⟩ (fun _ s => s.pick [3,4,5,6] [_,_,_,_] Z Z) ⟨by dsimp only;omega,er_snoc hk hxE hal he,by dsimp only;rw [take_snoc hk,hxE,List.map_append,List.map_append];exact hz.snoc (dR_shut (hnmf xE he)) Z⟩ (by dsimp only;omega)
 try simp only [df] at h18
 obtain rfl : k = args.length := by omega
 rw [List.take_length] at hal hz
 refine Sx.freezeSeq (ds := (args.map f).map dR) (by simp) hz fun H1 p5 c5 u1 e5 hr => ?_
 subst e5
 have hcap5 := hr.cap
 have hnone : fstE (args.map f) = none := fstE_none hal
 refine .ex<|.tE<|.tE<|.bE<|.tN<|.sr<|.a Z Z<|.a Z Z<|.nt<|.cu (X := UInt8 × UInt8) [(2,_),(3,_),(4,_),(5,_)] ⟨rfl,rfl,rfl,rfl,trivial⟩ (fun z => [(9,.int .i64 z.1.toNat),(10,.int .i64 z.2.toNat)]) (fun z => H1) (fun z => [.box b4 [.int .i64 0,.int .i64 0,.string ⟨#[]⟩] 72,.box b3 [.int .i64 op.toNat,strV nm,.int .i64 nn.toInt,.slice p args.length c] 58,.box b2 cs0 143]) (fun z => tyRCut sc op nm (args.map f) z) ?_ fun z hC => ?_
 ·
  refine .sr<|.yv (.fieldAddr Z Fx.field58_0) Z<|.yv (.load Z Fx.agg3 (.tail _<|.head _) Z) Z<|.nt<|.bk<|.sq<|.sr<|.yv (.eql Z Z) Z<|.a Z Z<|.nt<|.cr Z (fun h35 => ?_) (fun h35 => ?_)
  ·have e36 : op = 1 := (u8n (k := 1) (by decide)).1 (of_decide_eq_true h35)
   refine .sk<|.tN<|.cT Z<|.sr<|.yv (.build Z (Fx.bld72_0 _)) Z<|.sW .head Z Z Fx.size72 (by simp [rV,Value.oneCell',strV]) Z<|.nt<|.rt<|.bR<|.tR<|?_
   refine Sx.ret1 (.inl rfl) rfl (.cell rfl Fx.agg72 (.head _) rfl) fun W s => ⟨?_,(u1.grow s).ext⟩
   first
    | (rw [tyRop_1 hnone (by exact .inl e36)];rfl)
  have e36 : ¬ op = 1 := fun e => of_decide_eq_false h35 ((u8n (k := 1) (by decide)).2 e)
  refine .rg<|.yv (.eql Z Z) Z<|.a Z Z<|.nt<|.cr Z (fun h35 => ?_) (fun h35 => ?_)
  ·have e37 : op = 4 := (u8n (k := 4) (by decide)).1 (of_decide_eq_true h35)
   refine .sr<|.yv (.build Z (Fx.bld72_0 _)) Z<|.sW .head Z Z Fx.size72 (by simp [rV,Value.oneCell',strV]) Z<|.nt<|.rt<|.bR<|.tR<|?_
   refine Sx.ret1 (.inl rfl) rfl (.cell rfl Fx.agg72 (.head _) rfl) fun W s => ⟨?_,(u1.grow s).ext⟩
   first
    | (rw [tyRop_1 hnone (by exact .inr e37)];rfl)
  have e37 : ¬ op = 4 := fun e => of_decide_eq_false h35 ((u8n (k := 4) (by decide)).2 e)
  refine .sq<|.sr<|.yv (.eql Z Z) Z<|.a Z Z<|.nt<|.cr Z (fun h39 => ?_) (fun h39 => ?_)
  ·have e40 : op = 2 := (u8n (k := 2) (by decide)).1 (of_decide_eq_true h39)
   refine .sk<|.tN<|.cT Z<|.sr<|.yv (.build Z (Fx.bld72_0 _)) Z<|.sW .head Z Z Fx.size72 (by simp [rV,Value.oneCell',strV]) Z<|.nt<|.rt<|.bR<|.tR<|?_
   refine Sx.ret1 (.inl rfl) rfl (.cell rfl Fx.agg72 (.head _) rfl) fun W s => ⟨?_,(u1.grow s).ext⟩
   first
    | (rw [tyRop_2 hnone (by rintro (h | h) <;> contradiction) (by exact .inl e40)];rfl)
  have e40 : ¬ op = 2 := fun e => of_decide_eq_false h39 ((u8n (k := 2) (by decide)).2 e)
  refine .rg<|.yv (.eql Z Z) Z<|.a Z Z<|.nt<|.cr Z (fun h39 => ?_) (fun h39 => ?_)
  ·have e41 : op = 3 := (u8n (k := 3) (by decide)).1 (of_decide_eq_true h39)
   refine .sr<|.yv (.build Z (Fx.bld72_0 _)) Z<|.sW .head Z Z Fx.size72 (by simp [rV,Value.oneCell',strV]) Z<|.nt<|.rt<|.bR<|.tR<|?_
   refine Sx.ret1 (.inl rfl) rfl (.cell rfl Fx.agg72 (.head _) rfl) fun W s => ⟨?_,(u1.grow s).ext⟩
   first
    | (rw [tyRop_2 hnone (by rintro (h | h) <;> contradiction) (by exact .inr e41)];rfl)
  have e41 : ¬ op = 3 := fun e => of_decide_eq_false h39 ((u8n (k := 3) (by decide)).2 e)
  refine .sr<|.yv (.eql Z Z) Z<|.a Z Z<|.nt<|.cr Z (fun h43 => ?_) (fun h43 => ?_)
  ·have e44 : op = 5 := (u8n (k := 5) (by decide)).1 (of_decide_eq_true h43)
   refine .sr<|.yv (.loadW Z Fx.agg143 (.tail _<|.tail _<|.head _) (by rw [hcs0];rfl)) Z<|.yv (.fieldAddr Z Fx.field58_1) Z<|.yv (.load Z Fx.agg9 (.tail _<|.head _) Z) Z<|.yv (.call Fx.call82 Z (fun W s => namedR_any H1 fl cp ps nm _ (hs.up u1.up) W s.agr)) Z<|.sW .head Z Z Fx.size72 (by simp [rV,Value.oneCell',strV]) Z<|.nt<|.rt<|.bR<|.tR<|?_
   refine Sx.ret1 (.inl rfl) rfl (.cell rfl Fx.agg72 (.head _) rfl) fun W s => ⟨?_,(u1.grow s).ext⟩
   first
    | (subst e44;rw [tyRop_5 hnone,hscd])
  have e44 : ¬ op = 5 := fun e => of_decide_eq_false h43 ((u8n (k := 5) (by decide)).2 e)
  refine .sq<|.sr<|.yv (.eql Z Z) Z<|.a Z Z<|.nt<|.cr Z (fun h49 => ?_) (fun h49 => ?_)
  ·have e50 : op = 7 := (u8n (k := 7) (by decide)).1 (of_decide_eq_true h49)
   exact .sk<|.tN<|.cT Z<|.rg<|.a Z Z<|.nl<|.bN<|.tN<|.me (1,2) ⟨rfl,rfl,trivial⟩ ⟨rfl,rfl,rfl,rfl,trivial⟩ (fun _ s => s) (by subst e50;exact tyRCut_of hnone (by decide) (by decide) (by decide) Z Z)
  have e50 : ¬ op = 7 := fun e => of_decide_eq_false h49 ((u8n (k := 7) (by decide)).2 e)
  refine .sr<|.yv (.eql Z Z) Z<|.a Z Z<|.nt<|.cr Z (fun h49 => ?_) (fun h49 => ?_)
  ·have e51 : op = 18 := (u8n (k := 18) (by decide)).1 (of_decide_eq_true h49)
   exact .sk<|.tN<|.cT Z<|.rg<|.a Z Z<|.nl<|.bN<|.tN<|.me (1,2) ⟨rfl,rfl,trivial⟩ ⟨rfl,rfl,rfl,rfl,trivial⟩ (fun _ s => s) (by subst e51;exact tyRCut_of hnone (by decide) (by decide) (by decide) Z Z)
  have e51 : ¬ op = 18 := fun e => of_decide_eq_false h49 ((u8n (k := 18) (by decide)).2 e)
  refine .sr<|.yv (.eql Z Z) Z<|.a Z Z<|.nt<|.cr Z (fun h49 => ?_) (fun h49 => ?_)
  ·have e52 : op = 19 := (u8n (k := 19) (by decide)).1 (of_decide_eq_true h49)
   exact .sk<|.tN<|.cT Z<|.rg<|.a Z Z<|.nl<|.bN<|.tN<|.me (1,2) ⟨rfl,rfl,trivial⟩ ⟨rfl,rfl,rfl,rfl,trivial⟩ (fun _ s => s) (by subst e52;exact tyRCut_of hnone (by decide) (by decide) (by decide) Z Z)
  have e52 : ¬ op = 19 := fun e => of_decide_eq_false h49 ((u8n (k := 19) (by decide)).2 e)
  refine .sr<|.yv (.eql Z Z) Z<|.a Z Z<|.nt<|.cr Z (fun h49 => ?_) (fun h49 => ?_)
  ·have e53 : op = 20 := (u8n (k := 20) (by decide)).1 (of_decide_eq_true h49)
   exact .sk<|.tN<|.cT Z<|.rg<|.a Z Z<|.nl<|.bN<|.tN<|.me (1,2) ⟨rfl,rfl,trivial⟩ ⟨rfl,rfl,rfl,rfl,trivial⟩ (fun _ s => s) (by subst e53;exact tyRCut_of hnone (by decide) (by decide) (by decide) Z Z)
  have e53 : ¬ op = 20 := fun e => of_decide_eq_false h49 ((u8n (k := 20) (by decide)).2 e)
  refine .rg<|.yv (.eql Z Z) Z<|.a Z Z<|.nt<|.cr Z (fun h49 => ?_) (fun h49 => ?_)
  ·have e54 : op = 21 := (u8n (k := 21) (by decide)).1 (of_decide_eq_true h49)
   exact .rg<|.a Z Z<|.nl<|.bN<|.tN<|.me (1,2) ⟨rfl,rfl,trivial⟩ ⟨rfl,rfl,rfl,rfl,trivial⟩ (fun _ s => s) (by subst e54;exact tyRCut_of hnone (by decide) (by decide) (by decide) Z Z)
  have e54 : ¬ op = 21 := fun e => of_decide_eq_false h49 ((u8n (k := 21) (by decide)).2 e)
  refine .sq<|.sr<|.yv (.eql Z Z) Z<|.a Z Z<|.nt<|.cr Z (fun h55 => ?_) (fun h55 => ?_)
  ·have e56 : op = 16 := (u8n (k := 16) (by decide)).1 (of_decide_eq_true h55)
   refine .sk<|.tN<|.cT Z<|?_
   have h0a : 0 < args.length := hn (by first | assumption | (left;assumption) | (right;assumption))
   obtain ⟨b0,o0,c0,hp0,r0,l0,m0⟩ := hr.elem (i := 0) (d := dR ((args.map f)[0]'(by simpa using h0a))) (by rw [List.getElem?_map,List.getElem?_eq_getElem (by simpa using h0a)];rfl)
   cases hp0
   obtain rfl := dR_open r0
   have e0 : ((args.map f)[0]'(by simpa using h0a)).ty = fstT (args.map f) := by cases args with | nil => exact absurd h0a (by decide) | cons a l => rfl
   exact .rg<|.m Z Z<|.yv (.indexSl Fx.sl183 Z Z (i := 0) Z h0a (q := o0 + 0 * 3) Z) Z<|.yv (.fieldAddr Z Fx.field72_0) Z<|.yv (.cast (v' := .int .i64 (fstT (args.map f)).toNat) (.loadM Z Fx.agg3 m0 (k := 0) Z Z) (by rw [e0])) Z<|.a Z Z<|.a Z Z<|.nl<|.bN<|.tN<|.me ((fstT (args.map f)),2) ⟨rfl,rfl,trivial⟩ ⟨rfl,rfl,rfl,rfl,trivial⟩ (fun _ s => s) (by subst e56;exact tyRCut_of hnone (by decide) (by decide) (by decide) Z Z)
  have e56 : ¬ op = 16 := fun e => of_decide_eq_false h55 ((u8n (k := 16) (by decide)).2 e)
  refine .rg<|.yv (.eql Z Z) Z<|.a Z Z<|.nt<|.cr Z (fun h55 => ?_) (fun h55 => ?_)
  ·have e57 : op = 17 := (u8n (k := 17) (by decide)).1 (of_decide_eq_true h55)
   have h0a : 0 < args.length := hn (by first | assumption | (left;assumption) | (right;assumption))
   obtain ⟨b0,o0,c0,hp0,r0,l0,m0⟩ := hr.elem (i := 0) (d := dR ((args.map f)[0]'(by simpa using h0a))) (by rw [List.getElem?_map,List.getElem?_eq_getElem (by simpa using h0a)];rfl)
   cases hp0
   obtain rfl := dR_open r0
   have e0 : ((args.map f)[0]'(by simpa using h0a)).ty = fstT (args.map f) := by cases args with | nil => exact absurd h0a (by decide) | cons a l => rfl
   exact .rg<|.m Z Z<|.yv (.indexSl Fx.sl183 Z Z (i := 0) Z h0a (q := o0 + 0 * 3) Z) Z<|.yv (.fieldAddr Z Fx.field72_0) Z<|.yv (.cast (v' := .int .i64 (fstT (args.map f)).toNat) (.loadM Z Fx.agg3 m0 (k := 0) Z Z) (by rw [e0])) Z<|.a Z Z<|.a Z Z<|.nl<|.bN<|.tN<|.me ((fstT (args.map f)),2) ⟨rfl,rfl,trivial⟩ ⟨rfl,rfl,rfl,rfl,trivial⟩ (fun _ s => s) (by subst e57;exact tyRCut_of hnone (by decide) (by decide) (by decide) Z Z)
  have e57 : ¬ op = 17 := fun e => of_decide_eq_false h55 ((u8n (k := 17) (by decide)).2 e)
  refine .sq<|.sr<|.yv (.eql Z Z) Z<|.a Z Z<|.nt<|.cr Z (fun h62 => ?_) (fun h62 => ?_)
  ·have e63 : op = 10 := (u8n (k := 10) (by decide)).1 (of_decide_eq_true h62)
   exact .sk<|.tN<|.cT Z<|.rg<|.a Z Z<|.a Z Z<|.nl<|.bN<|.tN<|.me (2,2) ⟨rfl,rfl,trivial⟩ ⟨rfl,rfl,rfl,rfl,trivial⟩ (fun _ s => s) (by subst e63;exact tyRCut_of hnone (by decide) (by decide) (by decide) Z Z)
  have e63 : ¬ op = 10 := fun e => of_decide_eq_false h62 ((u8n (k := 10) (by decide)).2 e)
  refine .sr<|.yv (.eql Z Z) Z<|.a Z Z<|.nt<|.cr Z (fun h62 => ?_) (fun h62 => ?_)
  ·have e64 : op = 22 := (u8n (k := 22) (by decide)).1 (of_decide_eq_true h62)
   exact .sk<|.tN<|.cT Z<|.rg<|.a Z Z<|.a Z Z<|.nl<|.bN<|.tN<|.me (2,2) ⟨rfl,rfl,trivial⟩ ⟨rfl,rfl,rfl,rfl,trivial⟩ (fun _ s => s) (by subst e64;exact tyRCut_of hnone (by decide) (by decide) (by decide) Z Z)
  have e64 : ¬ op = 22 := fun e => of_decide_eq_false h62 ((u8n (k := 22) (by decide)).2 e)
  refine .rg<|.yv (.eql Z Z) Z<|.a Z Z<|.nt<|.cr Z (fun h62 => ?_) (fun h62 => ?_)
  ·have e65 : op = 23 := (u8n (k := 23) (by decide)).1 (of_decide_eq_true h62)
   exact .rg<|.a Z Z<|.a Z Z<|.nl<|.bN<|.tN<|.me (2,2) ⟨rfl,rfl,trivial⟩ ⟨rfl,rfl,rfl,rfl,trivial⟩ (fun _ s => s) (by subst e65;exact tyRCut_of hnone (by decide) (by decide) (by decide) Z Z)
  have e65 : ¬ op = 23 := fun e => of_decide_eq_false h62 ((u8n (k := 23) (by decide)).2 e)
  exact .sk<|.bN<|.tN<|.me (1,1) ⟨rfl,rfl,trivial⟩ ⟨rfl,rfl,rfl,rfl,trivial⟩ (fun _ s => s) (tyRCut_of hnone (by rintro (h | h) <;> contradiction) (by rintro (h | h) <;> contradiction) (by assumption) (by unfold needT_;rw [if_neg (by rintro (h | h) <;> contradiction),if_neg (by rintro (h | h | h) <;> contradiction)]) (by unfold resT;rw [if_neg (by rintro (h | h | h | h | h | h | h | h | h | h) <;> contradiction)]))
 have hT : tyRop sc op nm (args.map f) = _ := hC
 refine .sq<|.sr<|.m Z Z<|.yv (.lenSl Fx.sl183 Z) Z<|.m Z Z<|.nt<|.bk<|.lp (X := Nat) [(2,_),(3,_),(4,_),(9,_),(10,_),(66,_),(67,_)] ⟨rfl,rfl,rfl,rfl,rfl,rfl,rfl,trivial⟩ [_,_,_] (fun k => [(68,.int .i64 (k : Nat))]) (fun k => H1) (fun k => []) (fun k => k ≤ args.length ∧ ((args.take k).map f).all (fun r => decide (r.ty = z.1)) = true) (fun k => args.length - k) 0 (fun _ s => s) ⟨rfl,trivial⟩ ⟨by omega,rfl⟩ fun k hC => ?_
 obtain ⟨hk0,hall⟩ := hC
 refine .sr<|.yv (.lss Z Z) Z<|.nt<|.sq<|.cd Z (fun h69 => ?_) (fun h69 => ?_)
 ·try simp only [dt] at h69
  have hk : k < args.length := by omega
  obtain ⟨bF,oF,cF,hpF,rF,lF,mF⟩ := hr.elem (i := k) (d := dR (f args[k])) (by rw [List.getElem?_map,List.getElem?_map,List.getElem?_eq_getElem hk];rfl)
  cases hpF
  obtain rfl := dR_open rF
  generalize hxE : args[k] = xE at *
  refine .sk<|.tN<|.sq<|.bk<|.sr<|.yv (.indexSl Fx.sl183 Z Z Z (by omega) (q := oF + k * 3) Z) Z<|.yv (.loadMW Z Fx.agg72 mF Z) Z<|.al Fx.zero72 Z fun b12 => .sW .head Z Z Fx.size72 (by simp [rV,Value.oneCell',strV]) Z<|.ns<|.yv (.fieldAddr Z Fx.field72_0) Z<|.yv (.load Z Fx.agg3 (.head _) Z) Z<|.m Z Z<|.yv (.neq Z Z) Z<|.nt<|.cd Z (fun h75 => ?_) (fun h75 => ?_)
  ·have hty : ¬ (f xE).ty = z.1 := fun e => of_decide_eq_true h75 (u8e.2 e)
   refine .sr<|.yv (.build Z (Fx.bld72_1 _)) Z<|.sW (.tail<|.head) Z Z Fx.size72 (by simp [rV,Value.oneCell',strV]) Z<|.nt<|.rt<|.bR<|.tR<|.tR<|.bR<|.tR<|?_
   refine Sx.ret1 (.inl rfl) rfl (.cell rfl Fx.agg72 (.tail _<|.head _) rfl) fun W s => ⟨?_,(u1.grow s).ext⟩
   first
    | (rw [hT,if_pos (by rw [all_bad (q := fun r : Tr => decide (r.ty = z.1)) hk hxE (decide_eq_false hty)];decide)];rfl)
  have hty : (f xE).ty = z.1 := u8e.1 (Decidable.not_not.1 (of_decide_eq_false h75))
  exact .sk<|.bN<|.tN<|.rg<|.yv (.add Z Z (w6 (by omega))) Z<|.m Z Z<|.nt<|.ag (k + 1) ⟨rfl,trivial⟩ ⟨rfl,rfl,rfl,rfl,rfl,rfl,rfl,trivial⟩ (fun _ s => s.pick [1,2,3] [_,_,_] Z Z) ⟨by omega,by rw [all_snoc hk hxE,hall,decide_eq_true hty];rfl⟩ (by omega)
 try simp only [df] at h69
 obtain rfl : k = args.length := by omega
 rw [List.take_length] at hall
 refine .ex<|.tE<|.tE<|.bE<|.tN<|.sq<|.sr<|.yv (.fieldAddr Z Fx.field58_0) Z<|.yv (.load Z Fx.agg3 (.tail _<|.head _) Z) Z<|.yv (.geq Z Z) Z<|.m Z Z<|.b2 (fun h81 => ?_) (fun h81 => ?_)
 ·have a81 := of_decide_eq_true h81
  refine .gd Z Z<|.yv (.fieldAddr Z Fx.field58_0) Z<|.gd Z Z<|.yv (.load Z Fx.agg3 (.tail _<|.head _) Z) Z<|.gd Z Z<|.yv (.leq Z Z) Z<|.yv (.pickT Z Z) Z<|.nt<|.cd Z (fun h85 => ?_) (fun h85 => ?_)
  ·have a85 := of_decide_eq_true h85
   have g6 : op = 6 ∨ op = 7 ∨ op = 8 := by
    have : op.toNat = 6 ∨ op.toNat = 7 ∨ op.toNat = 8 := by omega
    rcases this with h | h | h
    ·exact .inl (by rw [← UInt8.toNat_inj];exact h)
    ·exact .inr (.inl (by rw [← UInt8.toNat_inj];exact h))
    ·exact .inr (.inr (by rw [← UInt8.toNat_inj];exact h))
   refine .sr<|.yv (.loadW Z Fx.agg143 (.tail _<|.tail _<|.head _) (by rw [hcs0];rfl)) Z<|.yv (.fieldAddr Z Fx.field58_1) Z<|.yv (.load Z Fx.agg9 (.tail _<|.head _) Z) Z<|.yv (.call Fx.call83 Z (fun W s => tabledR_any H1 fl cp ps nm _ (hs.up u1.up) W s.agr)) Z<|.al Fx.zero72 Z fun b13 => .sW .head Z Z Fx.size72 (by simp [rV,Value.oneCell',strV]) Z<|.ns<|.yv (.fieldAddr Z Fx.field72_1) Z<|.yv (.load Z Fx.agg3 (.head _) Z) Z<|.yv (.neq Z Z) Z<|.nt<|.cd Z (fun h92 => ?_) (fun h92 => ?_)
   ·have ht : ¬ tableT sc nm = 0 := fun e => by have := of_decide_eq_true h92;rw [hscd] at e;rw [wrongT,if_pos e] at this;exact this rfl
    refine .sr<|.yv (.loadW Z Fx.agg72 (.head _) Z) Z<|.sW (.tail<|.head) Z Z Fx.size72 (by simp [rV,Value.oneCell',strV]) Z<|.nt<|.rt<|.tR<|?_
    refine Sx.ret1 (.inl rfl) rfl (.cell rfl Fx.agg72 (.tail _<|.head _) rfl) fun W s => ⟨?_,(u1.grow s).ext⟩
    first
     | (rw [hT,if_neg (Decidable.not_not.2 hall),if_pos ⟨g6,ht⟩,← hscd,wrongT,if_neg ht])
   have ht : tableT sc nm = 0 := by
    have := Decidable.not_not.1 (of_decide_eq_false h92)
    by_cases e : tableT sc nm = 0
    ·exact e
    ·rw [← hscd,wrongT,if_neg e] at this;exact (e (by simpa using this)).elim
   refine .sk<|.tN<|.sr<|.m Z Z<|.yv (.build Z (Fx.bld72_0 _)) Z<|.sW (.tail<|.head) Z Z Fx.size72 (by simp [rV,Value.oneCell',strV]) Z<|.nt<|.rt<|?_
   refine Sx.ret1 (.inl rfl) rfl (.cell rfl Fx.agg72 (.tail _<|.head _) rfl) fun W s => ⟨?_,(u1.grow s).ext⟩
   first
    | (rw [hT,if_neg (Decidable.not_not.2 hall),if_neg (fun k => k.2 ht)];rfl)
  have g6 : ¬ (op = 6 ∨ op = 7 ∨ op = 8) := by have := of_decide_eq_false h85;rintro (rfl | rfl | rfl) <;> exact this (by decide)
  refine .sk<|.tN<|.sr<|.m Z Z<|.yv (.build Z (Fx.bld72_0 _)) Z<|.sW .head Z Z Fx.size72 (by simp [rV,Value.oneCell',strV]) Z<|.nt<|.rt<|?_
  refine Sx.ret1 (.inl rfl) rfl (.cell rfl Fx.agg72 (.head _) rfl) fun W s => ⟨?_,(u1.grow s).ext⟩
  first
   | (rw [hT,if_neg (Decidable.not_not.2 hall),if_neg (fun k => g6 k.1)];rfl)
 have g6 : ¬ (op = 6 ∨ op = 7 ∨ op = 8) := by have := of_decide_eq_false h81;rintro (rfl | rfl | rfl) <;> exact this (by decide)
 refine .gF Z Z Z Z<|.gF Z Z Z Z<|.gF Z Z Z Z<|.yv (.pickF Z Z) Z<|.nt<|.cF Z<|.sk<|.tN<|.sr<|.m Z Z<|.yv (.build Z (Fx.bld72_0 _)) Z<|.sW .head Z Z Fx.size72 (by simp [rV,Value.oneCell',strV]) Z<|.nt<|.rt<|?_
 refine Sx.ret1 (.inl rfl) rfl (.cell rfl Fx.agg72 (.head _) rfl) fun W s => ⟨?_,(u1.grow s).ext⟩
 first
  | (rw [hT,if_neg (Decidable.not_not.2 hall),if_neg (fun k => g6 k.1)];rfl)
theorem Fx.call19 : callN Tryz.prog 19 = Bool.true := by kernel_rfl
theorem Fx.call43 : callN Tryz.prog 43 = Bool.true := by kernel_rfl
theorem Fx.bld143_0_1_2 (x00 x01 x02 x03 : Value) (x10 x11 x12 : Value) (x2p : Option Addr) (x2n x2c : Nat) : buildN Tryz.prog 143 [(0,.agg [x00,x01,x02,x03].toArray),(1,.agg [x10,x11,x12].toArray),(2,.slice x2p x2n x2c)] = some [x00,x01,x02,x03,x10,x11,x12,.slice x2p x2n x2c] := by kernel_rfl
theorem frm_len {op : UInt8} {nm : Str} {n : Int64} {args : List Ex} (h : frmE (.mk op nm n args) = true) : args.length ≤ 1000000 ∧ (op = 16 ∨ op = 17 → 0 < args.length) := by
 simp only [frmE,Bool.and_eq_true,decide_eq_true_eq] at h
 obtain ⟨⟨⟨hop,hn⟩,_⟩,_⟩ := h
 constructor
 ·simp only [okOp,Bool.and_eq_true,decide_eq_true_eq] at hop
  have key : ∀ i ∈ List.range 24,(shapeOf (UInt8.ofNat i)).n ≤ 1000000 := by decide +kernel
  have := key op.toNat (List.mem_range.2 (by omega))
  rw [UInt8.ofNat_toNat] at this
  omega
 ·rintro (rfl | rfl)
  ·rw [hn];decide
  ·rw [hn];decide
theorem typed_any (H : Hp) (fl : Ft) (cp : Cp) (ps : List Str) (cs0 : List Value) (hs : RsR H fl cp ps cs0) : ∀ e,Ex.all frmE e = true → RtFn H cs0 (tyR ⟨fl.flags,cp.vars,ps⟩) e := by
 obtain ⟨p1,c1,p2,c2,p3,c3,q1,d1,q2,d2,p5,c5,e0,_⟩ := hs.ex
 intro e
 induction e using Ex.ind with
 | _ op nm n args ih =>
  intro hfr cs w h hA
  rw [all_mk,Bool.and_eq_true] at hfr
  obtain ⟨p,c,rfl,hsa,hnm⟩ := ex_open h
  rw [tyR_mk]
  exact typed_of H fl cp ps _ _ _ _ _ _ _ _ cs0 e0 hs _ rfl _ (fun _ => tyR_nm) op nm n args (frm_len hfr.1).2 (frm_len hfr.1).1 (fun a ha => ih a ha (by
   obtain ⟨k,hk,rfl⟩ := List.getElem_of_mem ha
   exact lalls_at hk hfr.2)) p c hsa w hA
set_option maxRecDepth 100000 in
theorem typeOfR_any (H : Hp) (f : Ft) (cs : List Value) (h : Rep H (dFt .i64 f) cs) (k : Nat) (hk : k < f.comps.length) (c : Cp) (hxE : f.comps[k] = c) (ps : List Str) (v3 : Value) (k3' : Rep H (.seq 1 (ps.map dStrL)) [v3]) (e : Ex) (ces : List Value) (he : Rep H (dEx .i64 e) ces) (hfr : Ex.all frmE e = true) (w : World) (hA : Agr H w) :
 Calls Tryz.prog 21 #[.agg cs.toArray,.int .i64 (k : Nat),v3,.agg ces.toArray] w fun r w' => r = .returned (.agg (rV (tyR ⟨f.flags,c.vars,ps⟩ e)).toArray) ∧ Ext w w' := by
 obtain ⟨p1,c1,p2,c2,p3,c3,rfl,hn,h1,h2,h3⟩ := ft_open h
 have hcap := h3.cap
 obtain ⟨op,nm,nn,args⟩ := e
 obtain ⟨pe,ce,rfl,_,_⟩ := ex_open he
 obtain ⟨pp,cp,ep,_⟩ := k3'.sl
 simp only [List.cons.injEq,and_true,List.length_map] at ep
 subst ep
 have k3 := k3'
 obtain ⟨bE,oE,cE,hpE,rE,lE,mE⟩ := h3.elem (map_at (f := dCp .i64) hk)
 cases hpE
 rw [hxE] at rE
 obtain ⟨q1,d1,q2,d2,rfl,hnx,g1,g2⟩ := cp_open rE
 refine Sx.enter (H := H) Tryz.func21 rfl Tryz.ntmps21 rfl hA ?_
 refine .sr<|.bx Z Z Z fun b4 => .bx Z Z Z fun b7 => .al Fx.zero72 Z fun b8 => .nt<|.sq<|.fl (trip := [(_,_,_),(_,_,_),(_,_,_),(_,_,_),(_,_,_),(_,_,_),(_,_,_),(_,_,_),(_,_,_),(_,_,_)]) 10 [(0,0),(1,0),(2,0),(3,0),(4,0),(5,0),(6,0),(7,0),(8,0),(9,0)] (by kernel_rfl) (by kernel_rfl) Z<|.yv (.loadW Z Fx.agg31 (.tail _<|.tail _<|.head _) Z) Z<|.yv (.fieldAddr Z Fx.field31_3) Z<|.yv (.load Z Fx.agg29 (.tail _<|.tail _<|.head _) Z) Z<|.m Z Z<|.yv (.indexSl Fx.sl29 Z Z Z (by omega) (q := oE + k * 3) Z) Z<|.yv (.loadMW Z Fx.agg78 mE Z) Z<|.m Z Z<|.yv (.build Z (Fx.bld143_0_1_2 _ _ _ _ _ _ _ _ _ _)) Z<|.yv (.loadW Z Fx.agg58 (.tail _<|.head _) Z) Z<|.yv (.call Fx.call49 Z (fun W s => typed_any H f c ps _ ⟨_,_,_,_,_,_,_,_,_,_,_,_,rfl,h1,g1,k3⟩ (.mk op nm nn args) hfr _ W he s.agr)) Z<|.fn (tl := [_]) Z<|.sW .head Z Z Fx.size72 (by simp [rV,Value.oneCell',strV]) Z<|.nt<|.rt<|?_
 refine Sx.ret1 (.inl rfl) rfl (.cell rfl Fx.agg72 (.head _) rfl) fun W s => ⟨rfl,s.ext⟩
def InOf (e : Ex) : Prop := Ex.all narrow e = true → ∀ (H : Hp) (cs : List Value) (w : World),Rep H (dEx .i64 e) cs → Agr H w →
 Calls Tryz.prog 19 #[.agg cs.toArray] w fun r w' => ∃ x H',Rep H' (dEx .u8 e) x ∧ r = .returned (.agg x.toArray) ∧ Grow H w H' w'
set_option maxRecDepth 100000 in
theorem in_any (e : Ex) : InOf e := by
 induction e using Ex.ind with | _ op nm nn args ih
 intro hnr H cs w h hA
 rw [all_mk,Bool.and_eq_true,narrow_mk,decide_eq_true_eq] at hnr
 obtain ⟨p,c,rfl,hs,hnm⟩ := ex_open h
 have hcap := hs.cap
 have hn3 := hnr.1
 refine Sx.enter (H := H) Tryz.func19 rfl Tryz.ntmps19 rfl hA ?_
 refine .sr<|.bx Z Z Z fun b1 => .al Fx.zero68 Z fun b2 => ?_
 refine Sx.row0 68 4 ?_
 refine .ns<|.yv (.fieldAddr Z Fx.field58_0) Z<|.yv (.load Z Fx.agg3 (.tail _<|.tail _<|.head _) Z) Z<|.yv (.conv Z Fx.int3 Fx.int65 (c := (op.toNat : Nat)) (by have := op.toNat_lt;simp only [IntKind.wrap,IntKind.signed,IntKind.bits];simp;omega)) Z<|.yv (.fieldAddr Z Fx.field58_1) Z<|.yv (.load Z Fx.agg9 (.tail _<|.tail _<|.head _) Z) Z<|.yv (.fieldAddr Z Fx.field58_2) Z<|.yv (.load Z Fx.agg2 (.tail _<|.tail _<|.head _) Z) Z<|.yv (.build Z (Fx.bld68_0_1_2 _ _ _)) Z<|.al Fx.zero68 Z fun b3 => .sW .head Z Z Fx.size68 (by simp [Value.oneCell',strV]) Z<|.nt<|.sq<|.sr<|.yv (.fieldAddr Z Fx.field58_3) Z<|.yv (.load Z Fx.agg56 (.tail _<|.tail _<|.tail _<|.head _) Z) Z<|.yv (.lenSl Fx.sl56 Z) Z<|.m Z Z<|.nt<|.bk<|.lp (X := Nat × Hp × Value × List Value) [(2,_),(3,_),(15,_),(16,_)] ⟨rfl,rfl,rfl,rfl,trivial⟩ [_,_] (fun z => [(17,.int .i64 (z.1 : Nat))]) (fun z => z.2.1) (fun z => [.box b3 [.int .u8 op.toNat,strV nm,.int .i64 nn.toInt,z.2.2.1] 68,.row 68 4 z.2.2.1 z.1 z.2.2.2]) (fun z => z.1 ≤ args.length ∧ HUp w H z.2.1 ∧ RepZ z.2.1 4 ((args.take z.1).map (dEx .u8)) z.2.2.2) (fun z => args.length - z.1) (0,H,.slice none 0 0,[]) (fun _ s => s) ⟨rfl,trivial⟩ ⟨by simp,.refl,RepZ.nil⟩ fun z hC => ?_
 obtain ⟨k,H1,r,xs⟩ := z
 dsimp only at hC ⊢
 obtain ⟨hk0,u1,hz⟩ := hC
 refine .sr<|.yv (.lss Z Z) Z<|.nt<|.sq<|.cd Z (fun h18 => ?_) (fun h18 => ?_)
 ·try simp only [dt] at h18
  have hk : k < args.length := by omega
  obtain ⟨bE,oE,cE,hpE,rE,lE,mE⟩ := (hs.up u1.up).elem (map_at hk)
  cases hpE
  have hnr1 := lalls_at hk hnr.2
  refine .sk<|.tN<|.sq<|.bk<|.sr<|.yv (.indexSl Fx.sl56 Z Z Z (by omega) (q := oE + k * 4) Z) Z<|.yv (.loadMW Z Fx.agg58 mE lE) Z<|.al Fx.zero58 Z fun b5 => .sV .head Z Z Fx.size58 lE rE.one Z<|.nt<|.fl (trip := [(_,_,_),(_,_,_),(_,_,_),(_,_,_),(_,_,_)]) 5 [(0,0),(1,0),(2,0),(3,1),(4,1)] (by kernel_rfl) (by kernel_rfl) Z<|.yv (.fieldAddr Z Fx.field68_3) Z<|.yv (.load Z Fx.agg66 (.tail _<|.head _) Z) Z<|.yv (.loadW Z Fx.agg58 (.head _) lE) Z<|.ct (X := List Value) Fx.call19 Z (fun W s => ih _ (List.getElem_mem hk) hnr1 H1 cE W rE s.agr) Z fun x2 H2 hc2 u2 => ?_
  generalize hx : args[k] = x at hc2
  obtain ⟨op2,nm2,n2,args2⟩ := x
  obtain ⟨p2,c2,rfl,hs2,hnm2⟩ := ex_open hc2
  refine .bl Z (Fx.bsl66_1 _ _ _ _) Z fun b25 => .fn (tl := [_,_,_]) Z<|.ap (news := [.int .u8 op2.toNat,strV nm2,.int .i64 n2.toInt,.slice p2 args2.length c2]) Fx.row66 Z (fun _ => (.tail<|.tail<|.tail<|.head)) Z (.box (.head _) z0) Z (by simp [Value.oneCell',strV]) (by simp [maxLen];omega) (by omega) Z fun r26 _ => ?_
  refine At.ra (.tail _ (.tail _ (.tail _ (.head _)))) fun p26 c26 e26 => ?_
  exact .yv (.fieldAddr Z Fx.field68_3) Z<|.st (.tail<|.tail<|.head) Z Z Fx.size66 (by rw [e26];rfl) (nb Z) Z<|.nl<|.bN<|.tN<|.rg<|.yv (.add Z Z (w6 (by omega))) Z<|.m Z Z<|.nt<|.ag (x := (k,H1,r,xs)) (k + 1,H2,r26,xs ++ [.int .u8 op2.toNat,strV nm2,.int .i64 n2.toInt,.slice p2 args2.length c2]) ⟨rfl,trivial⟩ ⟨rfl,rfl,rfl,rfl,trivial⟩ (fun _ s => (s.pick [2,3,4,5] _ Z Z)) ⟨by dsimp only;omega,u1.trans u2,by dsimp only;rw [take_snoc hk,hx,List.map_append];exact (hz.up u2.up).snoc hc2 Z⟩ (by dsimp only;omega)
 try simp only [df] at h18
 obtain rfl : k = args.length := by omega
 rw [List.take_length] at hz
 refine At.ra (.tail _ (.head _)) fun p26 c26 e26 => ?_
 subst e26
 refine .ex<|.tE<|.tE<|.bE<|.tN<|.sr<|.yv (.loadW Z Fx.agg68 (.head _) Z) Z<|.sW (.tail<|.tail<|.head) Z Z Fx.size68 (by simp [Value.oneCell',strV]) Z<|.nt<|.rt<|?_
 refine At.pm [1,2] [_,_] rfl rfl ?_
 refine Sx.freezeSeq (ds := args.map (dEx .u8)) (by simp) hz fun H3 p3 c3 u3 hr3 hs3 => ?_
 refine Sx.ret1 (.inl rfl) rfl (.cell rfl Fx.agg68 (.head _) rfl) fun W s => ⟨_,H3,ex_shut hnm hs3,rfl,(u1.trans u3).grow s⟩
def atN (n m : Nat) : Nat := if m = 0 then 0 else n % m
theorem atN_lt {n m : Nat} (h : 0 < m) : atN n m < m := by rw [atN,if_neg (by omega)];exact Nat.mod_lt _ h
set_option maxRecDepth 100000 in
theorem at8_any (H : Hp) (n : UInt8) (m : Nat) (w : World) (hA : Agr H w) : Calls Tryz.prog 42 #[.int .u8 n.toNat,.int .i64 (m : Nat)] w fun r w' => r = .returned (.int .i64 (atN n.toNat m : Nat)) ∧ Ext w w' := by
 refine Sx.enter (H := H) Tryz.func42 rfl Tryz.ntmps42 rfl hA ?_
 refine .sr<|.a Z Z<|.nt<|.sq<|.sr<|.m Z Z<|.yv (.eql Z Z) Z<|.nt<|.cd Z (fun h6 => ?_) (fun h6 => ?_)
 ·have hz : m = 0 := by have := of_decide_eq_true h6;omega
  refine .sr<|.a Z Z<|.nt<|.rt<|.tR<|?_
  refine Sx.ret1 (.inl rfl) rfl (.tmp rfl) fun W s => ⟨?_,s.ext⟩
  first
   | (rw [hz];rfl)
   | (rw [atN,if_neg hz])
 have hz : ¬ m = 0 := by have := of_decide_eq_false h6;omega
 refine .sk<|.tN<|.sr<|.m Z Z<|.yv (.conv Z Fx.int5 Fx.int3 (c := (n.toNat : Nat)) (by have := n.toNat_lt;simp only [IntKind.wrap,IntKind.signed,IntKind.bits];simp;omega)) Z<|.m Z Z<|.yv (.rem Z Z (by omega) (c := ((n.toNat % m : Nat) : Int)) (tm2 _ _)) Z<|.a Z Z<|.nt<|.rt<|?_
 refine Sx.ret1 (.inl rfl) rfl (.tmp rfl) fun W s => ⟨?_,s.ext⟩
 first
  | (rw [hz];rfl)
  | (rw [atN,if_neg hz])
theorem qu8 (a : Nat) {b : Nat} (h : a < 256) (hb : 0 < b) : IntKind.u8.wrap (Int.tdiv (a : Int) (b : Int)) = ((a / b : Nat) : Int) := by
 rw [Int.tdiv_eq_ediv_of_nonneg (Int.natCast_nonneg _),show (a : Int) / (b : Int) = ((a / b : Nat) : Int) from rfl]
 have h3 : ∀ n : Nat,n < 256 → IntKind.u8.wrap (n : Int) = (n : Int) := fun n hn => by
  have key : ∀ i ∈ List.range 256,IntKind.u8.wrap (i : Int) = (i : Int) := by decide +kernel
  exact key n (List.mem_range.2 hn)
 exact h3 _ (Nat.lt_of_le_of_lt (Nat.div_le_self _ _) h)
theorem u8q9 {n : UInt8} : (UInt8.ofNat (n.toNat / 9)).toNat = n.toNat / 9 := by
 have := n.toNat_lt
 simp;omega
set_option maxRecDepth 100000 in
theorem xpr_any (H : Hp) (n : UInt8) (e : Ex) (ces : List Value) (he : Rep H (dEx .i64 e) ces) (w : World) (hA : Agr H w) :
 Calls Tryz.prog 17 #[.int .u8 n.toNat,.agg ces.toArray] w fun r w' => ∃ (v : List Value) (H' : Hp),Rep H' (dEx .i64 (xprT n.toNat e)) v ∧ r = .returned (.agg v.toArray) ∧ Grow H w H' w' := by
 have he0 := he
 obtain ⟨op,nm,nn,args⟩ := e
 obtain ⟨pe,ce,rfl,_,_⟩ := ex_open he
 generalize hE : Ex.mk op nm nn args = e at *
 refine Sx.enter (H := H) Tryz.func17 rfl Tryz.ntmps17 rfl hA ?_
 refine .sr<|.bx Z Z Z fun b3 => .al Fx.zero58 Z fun b4 => .nt<|.sq<|.sr<|.m Z Z<|.yv (.rem Z Z (by decide) (c := ((n.toNat % 9 : Nat) : Int)) (tm2 _ 9)) Z<|.nt<|.bk<|.sr<|.yv (.eql Z Z) Z<|.a Z Z<|.nt<|.cd Z (fun h7 => ?_) (fun h7 => ?_)
 ·have q0 : n.toNat % 9 = 0 := by have := of_decide_eq_true h7;omega
  refine .sr<|.yv (.loadW Z Fx.agg58 (.tail _<|.head _) Z) Z<|.bl Z (Fx.bsl56_1 _ _ _ _) Z fun b10 => .yv (.build Z (Fx.bld58_0_3 _ _ _ _)) Z<|.sW (.tail<|.head) Z Z Fx.size58 (by simp [Value.oneCell',strV]) Z<|.nt<|.rt<|.bR<|.tR<|?_
  refine At.pm [0,1,2] [_,_,_] rfl rfl ?_
  refine Sx.freezeBox fun H1 u1 m1 => ?_
  refine Sx.ret1 (.inl rfl) rfl (.cell rfl Fx.agg58 (.head _) rfl) fun W s => ⟨_,H1,?_,rfl,u1.grow s⟩
  rw [show xprT n.toNat e = _ from by unfold xprT;rw [if_pos q0]]
  exact ex_shut (k := .i64) (op := 10) (nm := []) (n := 0) (args := [e]) (by decide) (Rep.mk (n := 1) (c := 1) m1 (.single (he.up u1.up) rfl) rfl (Nat.le_refl _) (by decide))
 have q0 : ¬ n.toNat % 9 = 0 := by have := of_decide_eq_false h7;omega
 refine .sr<|.yv (.eql Z Z) Z<|.a Z Z<|.nt<|.cd Z (fun h12 => ?_) (fun h12 => ?_)
 ·have q1 : n.toNat % 9 = 1 := by have := of_decide_eq_true h12;omega
  refine .sr<|.yv (.loadW Z Fx.agg58 (.tail _<|.head _) Z) Z<|.bl Z (Fx.bsl56_1 _ _ _ _) Z fun b15 => .yv (.build Z (Fx.bld58_0_3 _ _ _ _)) Z<|.sW (.tail<|.head) Z Z Fx.size58 (by simp [Value.oneCell',strV]) Z<|.nt<|.rt<|.bR<|.tR<|?_
  refine At.pm [0,1,2] [_,_,_] rfl rfl ?_
  refine Sx.freezeBox fun H1 u1 m1 => ?_
  refine Sx.ret1 (.inl rfl) rfl (.cell rfl Fx.agg58 (.head _) rfl) fun W s => ⟨_,H1,?_,rfl,u1.grow s⟩
  rw [show xprT n.toNat e = _ from by unfold xprT;rw [if_neg q0,if_pos q1]]
  exact ex_shut (k := .i64) (op := 9) (nm := []) (n := 0) (args := [e]) (by decide) (Rep.mk (n := 1) (c := 1) m1 (.single (he.up u1.up) rfl) rfl (Nat.le_refl _) (by decide))
 have q1 : ¬ n.toNat % 9 = 1 := by have := of_decide_eq_false h12;omega
 refine .sr<|.yv (.eql Z Z) Z<|.a Z Z<|.nt<|.cd Z (fun h17 => ?_) (fun h17 => ?_)
 ·have q2 : n.toNat % 9 = 2 := by have := of_decide_eq_true h17;omega
  refine .sr<|.yv (.loadW Z Fx.agg58 (.tail _<|.head _) Z) Z<|.yv (.build Z (Fx.bld58_0 _)) Z<|.bl Z (Fx.bsl56_2 _ _ _ _ _ _ _ _) Z fun b21 => .yv (.build Z (Fx.bld58_0_3 _ _ _ _)) Z<|.sW (.tail<|.head) Z Z Fx.size58 (by simp [Value.oneCell',strV]) Z<|.nt<|.rt<|.bR<|.tR<|?_
  refine At.pm [0,1,2] [_,_,_] rfl rfl ?_
  refine Sx.freezeBox fun H1 u1 m1 => ?_
  refine Sx.ret1 (.inl rfl) rfl (.cell rfl Fx.agg58 (.head _) rfl) fun W s => ⟨_,H1,?_,rfl,u1.grow s⟩
  rw [show xprT n.toNat e = _ from by unfold xprT;rw [if_neg q0,if_neg q1,if_pos q2]]
  exact ex_shut (k := .i64) (op := 16) (nm := []) (n := 0) (args := [e,.mk 2 [] 0 []]) (by decide) (Rep.mk (n := 2) (c := 2) m1 (RepZ.app (RepZ.single (he.up u1.up) rfl) (RepZ.single (ex_shut (k := .i64) (op := 2) (nm := []) (n := 0) (args := []) (by decide) (Rep.empty (p := none) (c := 0) (by decide))) rfl)) rfl (Nat.le_refl _) (by decide))
 have q2 : ¬ n.toNat % 9 = 2 := by have := of_decide_eq_false h17;omega
 refine .sr<|.yv (.eql Z Z) Z<|.a Z Z<|.nt<|.cd Z (fun h23 => ?_) (fun h23 => ?_)
 ·have q3 : n.toNat % 9 = 3 := by have := of_decide_eq_true h23;omega
  refine .sr<|.yv (.build Z (Fx.bld58_0_2 _ _)) Z<|.yv (.loadW Z Fx.agg58 (.tail _<|.head _) Z) Z<|.bl Z (Fx.bsl56_2 _ _ _ _ _ _ _ _) Z fun b27 => .yv (.build Z (Fx.bld58_0_3 _ _ _ _)) Z<|.sW (.tail<|.head) Z Z Fx.size58 (by simp [Value.oneCell',strV]) Z<|.nt<|.rt<|.bR<|.tR<|?_
  refine At.pm [0,1,2] [_,_,_] rfl rfl ?_
  refine Sx.freezeBox fun H1 u1 m1 => ?_
  refine Sx.ret1 (.inl rfl) rfl (.cell rfl Fx.agg58 (.head _) rfl) fun W s => ⟨_,H1,?_,rfl,u1.grow s⟩
  rw [show xprT n.toNat e = _ from by unfold xprT;rw [if_neg q0,if_neg q1,if_neg q2,if_pos q3]]
  exact ex_shut (k := .i64) (op := 17) (nm := []) (n := 0) (args := [.mk 1 [] 1 [],e]) (by decide) (Rep.mk (n := 2) (c := 2) m1 (RepZ.app (RepZ.single (ex_shut (k := .i64) (op := 1) (nm := []) (n := 1) (args := []) (by decide) (Rep.empty (p := none) (c := 0) (by decide))) rfl) (RepZ.single (he.up u1.up) rfl)) rfl (Nat.le_refl _) (by decide))
 have q3 : ¬ n.toNat % 9 = 3 := by have := of_decide_eq_false h23;omega
 refine .sr<|.yv (.eql Z Z) Z<|.a Z Z<|.nt<|.cd Z (fun h29 => ?_) (fun h29 => ?_)
 ·have q4 : n.toNat % 9 = 4 := by have := of_decide_eq_true h29;omega
  refine .sr<|.yv (.loadW Z Fx.agg58 (.tail _<|.head _) Z) Z<|.yv (.loadW Z Fx.agg58 (.tail _<|.head _) Z) Z<|.bl Z (Fx.bsl56_2 _ _ _ _ _ _ _ _) Z fun b33 => .yv (.build Z (Fx.bld58_0_3 _ _ _ _)) Z<|.sW (.tail<|.head) Z Z Fx.size58 (by simp [Value.oneCell',strV]) Z<|.nt<|.rt<|.bR<|.tR<|?_
  refine At.pm [0,1,2] [_,_,_] rfl rfl ?_
  refine Sx.freezeBox fun H1 u1 m1 => ?_
  refine Sx.ret1 (.inl rfl) rfl (.cell rfl Fx.agg58 (.head _) rfl) fun W s => ⟨_,H1,?_,rfl,u1.grow s⟩
  rw [show xprT n.toNat e = _ from by unfold xprT;rw [if_neg q0,if_neg q1,if_neg q2,if_neg q3,if_pos q4]]
  exact ex_shut (k := .i64) (op := 22) (nm := []) (n := 0) (args := [e,e]) (by decide) (Rep.mk (n := 2) (c := 2) m1 (RepZ.app (RepZ.single (he.up u1.up) rfl) (RepZ.single (he.up u1.up) rfl)) rfl (Nat.le_refl _) (by decide))
 have q4 : ¬ n.toNat % 9 = 4 := by have := of_decide_eq_false h29;omega
 refine .sr<|.yv (.eql Z Z) Z<|.a Z Z<|.nt<|.cd Z (fun h35 => ?_) (fun h35 => ?_)
 ·have q5 : n.toNat % 9 = 5 := by have := of_decide_eq_true h35;omega
  refine .sr<|.yv (.loadW Z Fx.agg58 (.tail _<|.head _) Z) Z<|.yv (.build Z (Fx.bld58_0 _)) Z<|.bl Z (Fx.bsl56_2 _ _ _ _ _ _ _ _) Z fun b39 => .yv (.build Z (Fx.bld58_0_3 _ _ _ _)) Z<|.sW (.tail<|.head) Z Z Fx.size58 (by simp [Value.oneCell',strV]) Z<|.nt<|.rt<|.bR<|.tR<|?_
  refine At.pm [0,1,2] [_,_,_] rfl rfl ?_
  refine Sx.freezeBox fun H1 u1 m1 => ?_
  refine Sx.ret1 (.inl rfl) rfl (.cell rfl Fx.agg58 (.head _) rfl) fun W s => ⟨_,H1,?_,rfl,u1.grow s⟩
  rw [show xprT n.toNat e = _ from by unfold xprT;rw [if_neg q0,if_neg q1,if_neg q2,if_neg q3,if_neg q4,if_pos q5]]
  exact ex_shut (k := .i64) (op := 14) (nm := []) (n := 0) (args := [e,.mk 4 [] 0 []]) (by decide) (Rep.mk (n := 2) (c := 2) m1 (RepZ.app (RepZ.single (he.up u1.up) rfl) (RepZ.single (ex_shut (k := .i64) (op := 4) (nm := []) (n := 0) (args := []) (by decide) (Rep.empty (p := none) (c := 0) (by decide))) rfl)) rfl (Nat.le_refl _) (by decide))
 have q5 : ¬ n.toNat % 9 = 5 := by have := of_decide_eq_false h35;omega
 refine .sr<|.yv (.eql Z Z) Z<|.a Z Z<|.nt<|.cd Z (fun h41 => ?_) (fun h41 => ?_)
 ·have q6 : n.toNat % 9 = 6 := by have := of_decide_eq_true h41;omega
  refine .sq<|.fl (trip := [(_,_,_),(_,_,_),(_,_,_),(_,_,_),(_,_,_),(_,_,_)]) 6 [(0,0),(1,0),(2,0),(3,0),(4,1),(5,0)] (by kernel_rfl) (by kernel_rfl) Z<|.m Z Z<|.yv (.quo Z Z (by decide) (c := ((n.toNat / 9 : Nat) : Int)) (qu8 _ n.toNat_lt (by decide))) Z<|.yv (.cast (v' := strV (nmAt (n.toNat / 9))) (.call Fx.call43 Z (fun W s => by have := name8_any H (UInt8.ofNat (n.toNat / 9)) W s.agr;rw [u8q9] at this;exact this)) Z) Z<|.yv (.loadW Z Fx.agg58 (.tail _<|.head _) Z) Z<|.bl Z (Fx.bsl56_1 _ _ _ _) Z fun b47 => .yv (.build Z (Fx.bld58_0_1_3 _ _ _ _ _)) Z<|.fn (tl := [_]) Z<|.sW (.tail<|.head) Z Z Fx.size58 (by simp [Value.oneCell',strV]) Z<|.nt<|.rt<|.bR<|.tR<|?_
  refine At.pm [0,1,2] [_,_,_] rfl rfl ?_
  refine Sx.freezeBox fun H1 u1 m1 => ?_
  refine Sx.ret1 (.inl rfl) rfl (.cell rfl Fx.agg58 (.head _) rfl) fun W s => ⟨_,H1,?_,rfl,u1.grow s⟩
  rw [show xprT n.toNat e = _ from by unfold xprT;rw [if_neg q0,if_neg q1,if_neg q2,if_neg q3,if_neg q4,if_neg q5,if_pos q6]]
  exact ex_shut (k := .i64) (op := 6) (n := 0) (args := [e]) (by have := nmAt_len (n.toNat / 9);omega) (Rep.mk (n := 1) (c := 1) m1 (.single (he.up u1.up) rfl) rfl (Nat.le_refl _) (by decide))
 have q6 : ¬ n.toNat % 9 = 6 := by have := of_decide_eq_false h41;omega
 refine .sr<|.yv (.eql Z Z) Z<|.a Z Z<|.nt<|.cd Z (fun h49 => ?_) (fun h49 => ?_)
 ·have q7 : n.toNat % 9 = 7 := by have := of_decide_eq_true h49;omega
  refine .sq<|.fl (trip := [(_,_,_),(_,_,_),(_,_,_),(_,_,_),(_,_,_),(_,_,_)]) 6 [(0,0),(1,0),(2,0),(3,0),(4,1),(5,0)] (by kernel_rfl) (by kernel_rfl) Z<|.m Z Z<|.yv (.quo Z Z (by decide) (c := ((n.toNat / 9 : Nat) : Int)) (qu8 _ n.toNat_lt (by decide))) Z<|.yv (.cast (v' := strV (nmAt (n.toNat / 9))) (.call Fx.call43 Z (fun W s => by have := name8_any H (UInt8.ofNat (n.toNat / 9)) W s.agr;rw [u8q9] at this;exact this)) Z) Z<|.yv (.loadW Z Fx.agg58 (.tail _<|.head _) Z) Z<|.bl Z (Fx.bsl56_1 _ _ _ _) Z fun b55 => .yv (.build Z (Fx.bld58_0_1_3 _ _ _ _ _)) Z<|.fn (tl := [_]) Z<|.sW (.tail<|.head) Z Z Fx.size58 (by simp [Value.oneCell',strV]) Z<|.nt<|.rt<|.bR<|.tR<|?_
  refine At.pm [0,1,2] [_,_,_] rfl rfl ?_
  refine Sx.freezeBox fun H1 u1 m1 => ?_
  refine Sx.ret1 (.inl rfl) rfl (.cell rfl Fx.agg58 (.head _) rfl) fun W s => ⟨_,H1,?_,rfl,u1.grow s⟩
  rw [show xprT n.toNat e = _ from by unfold xprT;rw [if_neg q0,if_neg q1,if_neg q2,if_neg q3,if_neg q4,if_neg q5,if_neg q6,if_pos q7]]
  exact ex_shut (k := .i64) (op := 7) (n := 0) (args := [e]) (by have := nmAt_len (n.toNat / 9);omega) (Rep.mk (n := 1) (c := 1) m1 (.single (he.up u1.up) rfl) rfl (Nat.le_refl _) (by decide))
 have q7 : ¬ n.toNat % 9 = 7 := by have := of_decide_eq_false h49;omega
 refine .sk<|.bN<|.tN<|.sr<|.m Z Z<|.yv (.quo Z Z (by decide) (c := ((n.toNat / 9 : Nat) : Int)) (qu8 _ n.toNat_lt (by decide))) Z<|.yv (.cast (v' := strV (nmAt (n.toNat / 9))) (.call Fx.call43 Z (fun W s => by have := name8_any H (UInt8.ofNat (n.toNat / 9)) W s.agr;rw [u8q9] at this;exact this)) Z) Z<|.yv (.build Z (Fx.bld58_0_1 _ _)) Z<|.sW .head Z Z Fx.size58 (by simp [Value.oneCell',strV]) Z<|.nt<|.rt<|?_
 refine Sx.ret1 (.inl rfl) rfl (.cell rfl Fx.agg58 (.head _) rfl) fun W s => ⟨_,H,?_,rfl,HUp.refl.grow s⟩
 rw [show xprT n.toNat e = _ from by unfold xprT;rw [if_neg q0,if_neg q1,if_neg q2,if_neg q3,if_neg q4,if_neg q5,if_neg q6,if_neg q7]]
 exact ex_shut (k := .i64) (op := 8) (n := 0) (args := []) (by have := nmAt_len (n.toNat / 9);omega) (Rep.empty (p := none) (c := 0) (by decide))
theorem Fx.call22 : callN Tryz.prog 22 = Bool.true := by kernel_rfl
theorem Fx.call42 : callN Tryz.prog 42 = Bool.true := by kernel_rfl
theorem Fx.field53_1 : fieldN Tryz.prog 53 1 = Option.some 1 := by kernel_rfl
theorem Fx.field53_2 : fieldN Tryz.prog 53 2 = Option.some 2 := by kernel_rfl
theorem Fx.field53_3 : fieldN Tryz.prog 53 3 = Option.some 3 := by kernel_rfl
theorem Fx.field53_4 : fieldN Tryz.prog 53 4 = Option.some 4 := by kernel_rfl
theorem Fx.bld58  : buildN Tryz.prog 58 [] = some [.int .i64 0,.string ⟨#[]⟩,.int .i64 0,.slice none 0 0] := by kernel_rfl
def FlatFn (l : List Sm) : Prop := Sm.counts l ≤ 1000000 → ∀ (H : Hp) (v : Value) (w : World),Rep H (.seq 6 (l.map (dSm .i64))) [v] → Agr H w →
 Calls Tryz.prog 22 #[v] w fun e w' => ∃ (r : Value) (H' : Hp),Rep H' (.seq 6 ((Sm.flats l).map (dSm .i64))) [r] ∧ e = .returned r ∧ Grow H w H' w'
set_option maxHeartbeats 1000000 in
set_option maxRecDepth 100000 in
theorem flat_walk (l : List Sm) (hall : ∀ x ∈ l,match x with | .mk _ _ _ _ th el => FlatFn th ∧ FlatFn el) : FlatFn l := by
 intro hn H v w hs hA
 obtain ⟨p,c,e,_⟩ := hs.sl
 simp only [List.cons.injEq,and_true,List.length_map] at e
 subst e
 have hcap := hs.cap
 refine Sx.enter (H := H) Tryz.func22 rfl Tryz.ntmps22 rfl hA ?_
 refine .sr<|.a Z Z<|.ns<|.a Z Z<|?_
 refine Sx.row0 85 6 ?_
 refine .nt<|.sq<|.sr<|.m Z Z<|.yv (.lenSl Fx.sl80 Z) Z<|.m Z Z<|.nt<|.bk<|.lp (X := Nat × Hp × Value × List Value) [(6,_),(7,_)] ⟨rfl,rfl,trivial⟩ [] (fun z => [(8,.int .i64 (z.1 : Nat)),(3,z.2.2.1)]) (fun z => z.2.1) (fun z => [.row 85 6 z.2.2.1 (Sm.flats (l.take z.1)).length z.2.2.2]) (fun z => z.1 ≤ l.length ∧ HUp w H z.2.1 ∧ RepZ z.2.1 6 ((Sm.flats (l.take z.1)).map (dSm .i64)) z.2.2.2) (fun z => l.length - z.1) (0,H,.slice none 0 0,[]) (fun _ s => s) ⟨rfl,rfl,trivial⟩ ⟨by simp,.refl,RepZ.nil⟩ fun z hC => ?_
 obtain ⟨k,Ha,r,xs⟩ := z
 dsimp only at hC ⊢
 obtain ⟨hk0,ua,hz⟩ := hC
 refine .sr<|.yv (.lss Z Z) Z<|.nt<|.sq<|.cd Z (fun h9 => ?_) (fun h9 => ?_)
 ·try simp only [dt] at h9
  have hk : k < l.length := by omega
  obtain ⟨bE,oE,cE,hpE,rE,lE,mE⟩ := (hs.up ua.up).elem (map_at (f := dSm .i64) hk)
  cases hpE
  have hIH := hall l[k] (List.getElem_mem hk)
  generalize hxE : l[k] = xE at rE hIH
  obtain ⟨kd,nm,hd,ex,th,el⟩ := xE
  obtain ⟨e1,f1,e2,f2,e3,f3,rfl,r1,r2,r3,_,_⟩ := sm_open rE
  obtain ⟨ih1,ih2⟩ := hIH
  have hcn := scs_le hk hxE
  rw [scount_mk] at hcn
  have eL := sflats_len (l.take k)
  have eT := sflats_len th
  have eE := sflats_len el
  have eN : (Sm.flats (l.take (k + 1))).length = (Sm.flats (l.take k)).length + 1 + (Sm.flats th).length + (Sm.flats el).length := by rw [sflats_succ hk,hxE,sflat_mk,List.length_append,List.length_cons,List.length_append];omega
  refine .sk<|.tN<|.sq<|.bk<|.sr<|.yv (.indexSl Fx.sl80 Z Z Z (by omega) (q := oE + k * 6) Z) Z<|.yv (.loadMW Z Fx.agg85 mE Z) Z<|.al Fx.zero85 Z fun b5 => .sW .head Z Z Fx.size85 (by simp [Value.oneCell',strV]) Z<|.ns<|.m Z Z<|.yv (.loadW Z Fx.agg85 (.head _) Z) Z<|.bl Z (Fx.bsl80_1 _ _ _ _ _ _) Z fun b14 => .ap (news := [.int .i64 kd.toNat,strV nm,strV hd,.slice e1 ex.length f1,.slice e2 th.length f2,.slice e3 el.length f3]) Fx.row80 Z (fun _ => (.tail<|.tail<|.head)) Z (.box (.head _) z0) Z (by simp [Value.oneCell',strV]) (by simp [maxLen];omega) (by omega) Z fun r15 _ => .a Z Z<|.ns<|.m Z Z<|.yv (.fieldAddr Z Fx.field85_4) Z<|.yv (.load Z Fx.agg80 (.tail _<|.head _) Z) Z<|.ct (X := Value) Fx.call22 Z (fun W t => ih1 (by omega) Ha _ W r2 t.agr) Z fun xu Hu hcxu uxu => ?_
  obtain ⟨pxu,cxu,exu,_⟩ := hcxu.sl
  simp only [List.cons.injEq,and_true,List.length_map] at exu
  subst exu
  refine .apD Fx.row80 Z (fun _ _ => (.tail<|.tail<|.head)) Z hcxu (by simp [maxLen];omega) (by omega) Z fun xs20 r20 hz20 => .a Z Z<|.nt<|.rg<|.m Z Z<|.yv (.fieldAddr Z Fx.field85_5) Z<|.yv (.load Z Fx.agg80 (.tail _<|.head _) Z) Z<|.ct (X := Value) Fx.call22 Z (fun W t => ih2 (by omega) Hu _ W (r3.up uxu.up) t.agr) Z fun xv Hv hcxv uxv => ?_
  obtain ⟨pxv,cxv,exv,_⟩ := hcxv.sl
  simp only [List.cons.injEq,and_true,List.length_map] at exv
  subst exv
  exact .apD Fx.row80 Z (fun _ _ => (.tail<|.tail<|.head)) Z hcxv (by simp [maxLen];omega) (by omega) Z fun xs25 r25 hz25 => .a Z Z<|.nl<|.bN<|.tN<|.rg<|.yv (.add Z Z (w6 (by omega))) Z<|.m Z Z<|.nt<|.ag (x := (k,Ha,r,xs)) (k + 1,Hv,r25,xs ++ [.int .i64 kd.toNat,strV nm,strV hd,.slice e1 ex.length f1,.slice e2 th.length f2,.slice e3 el.length f3] ++ xs20 ++ xs25) ⟨rfl,rfl,trivial⟩ ⟨rfl,rfl,trivial⟩ (fun _ s => by have s2 := s.pick [2] [_] Z Z;rw [← eN] at s2;exact s2) ⟨by dsimp only;omega,ua.trans (uxu.trans uxv),by dsimp only;rw [sflats_succ hk,hxE,sflat_mk,List.map_append,List.map_cons,List.map_append,List.append_assoc,List.append_assoc];exact (hz.up (uxu.trans uxv).up).app (RepZ.app (ds := [_]) (RepZ.single (rE.up (uxu.trans uxv).up) Z) ((hz20.up uxv.up).app hz25))⟩ (by dsimp only;omega)
 try simp only [df] at h9
 obtain rfl : k = l.length := by omega
 rw [List.take_length] at hz ⊢

 refine .ex<|.tE<|.tE<|.bE<|.tN<|.sr<|.m Z Z<|.a Z Z<|.nt<|.rt<|?_
 refine Sx.freezeSeq (ds := (Sm.flats l).map (dSm .i64)) (by simp) hz fun HZ pz cz uz ez hZ => ?_
 refine Sx.ret1 (.inl rfl) rfl (.tmp rfl) fun W t => ⟨_,HZ,hZ,rfl,(ua.trans uz).grow t⟩
theorem flat_any (l : List Sm) : FlatFn l := by
 have key : ∀ x : Sm,match x with | .mk _ _ _ _ th el => FlatFn th ∧ FlatFn el := by
  intro x
  induction x using Sm.ind with
  | _ kd nm hd ex th el i1 i2 => exact ⟨flat_walk th fun x hx => i1 x hx,flat_walk el fun x hx => i2 x hx⟩
 exact flat_walk l fun x _ => key x
structure Chg where
 wh : UInt8
 i : UInt8
 j : UInt8
 k : UInt8
 nm : UInt8
def dChg (x : Chg) : D := .str [.val (.int .u8 x.wh.toNat),.val (.int .u8 x.i.toNat),.val (.int .u8 x.j.toNat),.val (.int .u8 x.k.toNat),.val (.int .u8 x.nm.toNat)]
def cChg (x : Chg) : List Value := [.int .u8 x.wh.toNat,.int .u8 x.i.toNat,.int .u8 x.j.toNat,.int .u8 x.k.toNat,.int .u8 x.nm.toNat]
theorem u8q4 {n : UInt8} : (UInt8.ofNat (n.toNat / 4)).toNat = n.toNat / 4 := by
 have := n.toNat_lt
 simp;omega
set_option maxHeartbeats 1000000 in
set_option maxRecDepth 100000 in
theorem pick_any (H : Hp) (f : Ft) (x : Chg) (cs : List Value) (h : Rep H (dFt .i64 f) cs) (hok : okFt 100 f) (hver : ∀ c ∈ f.comps,0 < c.vers.length) (w : World) (hA : Agr H w) :
 Calls Tryz.prog 16 #[.agg cs.toArray,.agg (cChg x).toArray] w fun r w' => ∃ (z : List Value × Nat × Value × Bool) (H' : Hp),((z.2.2.2 = true → ∃ (e : Ex) (ps : List Str),z.2.1 < f.comps.length ∧ Rep H' (dEx .i64 e) z.1 ∧ Rep H' (.seq 1 (ps.map dStr)) [z.2.2.1] ∧ okE e = true) ∧ z.1.length = 4 ∧ ∀ u ∈ z.1,u.oneCell' = true) ∧
  r = .returned (.tuple #[.agg z.1.toArray,.int .i64 (z.2.1 : Nat),z.2.2.1,.bool z.2.2.2]) ∧ Grow H w H' w' := by
 obtain ⟨p1,c1,p2,c2,p3,c3,rfl,hn,h1,h2,h3⟩ := ft_open h
 have hcap := h3.cap
 obtain ⟨i,hid⟩ : ∃ i,i = atN x.i.toNat f.comps.length := ⟨_,rfl⟩
 have hi : i < f.comps.length := by rw [hid];exact atN_lt hok.pos
 obtain ⟨bE,oE,cE,hpE,rE,lE,mE⟩ := h3.elem (map_at (f := dCp .i64) hi)
 cases hpE
 have okc := hok.all _ (List.getElem_mem hi)
 have hvp := hver _ (List.getElem_mem hi)
 generalize hxc : f.comps[i] = c at rE okc hvp
 obtain ⟨q1,d1,q2,d2,rfl,hnx,g1,g2⟩ := cp_open rE
 have hcapv := g2.cap
 obtain ⟨j,hjd⟩ : ∃ j,j = atN x.j.toNat c.vers.length := ⟨_,rfl⟩
 have hj : j < c.vers.length := by rw [hjd];exact atN_lt hvp
 obtain ⟨bG,oG,cG,hpG,rG,lG,mG⟩ := g2.elem (map_at (f := dVs .i64) hj)
 cases hpG
 have okv := okc.all _ (List.getElem_mem hj)
 generalize hxr : c.vers[j] = v at rG okv
 obtain ⟨pv,cv,rfl,gv⟩ := vs_open rG
 have hcapw := gv.cap
 refine Sx.enter (H := H) Tryz.func16 rfl Tryz.ntmps16 rfl hA ?_
 refine .sr<|.bx Z Z Z fun b2 => .bx Z Z Z fun b3 => .al Fx.zero58 Z fun b4 => .a Z Z<|.a Z Z<|.a Z Z<|.ns<|.yv (.fieldAddr Z Fx.field53_1) Z<|.yv (.load Z Fx.agg5 (.tail _<|.head _) Z) Z<|.yv (.fieldAddr Z Fx.field31_3) Z<|.yv (.load Z Fx.agg29 (.tail _<|.tail _<|.head _) Z) Z<|.yv (.lenSl Fx.sl29 Z) Z<|.yv (.cast (v' := .int .i64 (i : Nat)) (.call Fx.call42 Z (fun W s => at8_any H x.i f.comps.length W s.agr)) (by rw [hid])) Z<|.a Z Z<|.ns<|.yv (.fieldAddr Z Fx.field31_3) Z<|.yv (.load Z Fx.agg29 (.tail _<|.tail _<|.head _) Z) Z<|.m Z Z<|.yv (.indexSl Fx.sl29 Z Z Z (by omega) (q := oE + i * 3) Z) Z<|.yv (.loadMW Z Fx.agg78 mE Z) Z<|.al Fx.zero78 Z fun b9 => .sW .head Z Z Fx.size78 (by simp [Value.oneCell',strV]) Z<|.ns<|.yv (.fieldAddr Z Fx.field53_2) Z<|.yv (.load Z Fx.agg5 (.tail _<|.tail _<|.head _) Z) Z<|.yv (.fieldAddr Z Fx.field78_2) Z<|.yv (.load Z Fx.agg76 (.head _) Z) Z<|.yv (.lenSl Fx.sl76 Z) Z<|.yv (.cast (v' := .int .i64 (j : Nat)) (.call Fx.call42 Z (fun W s => at8_any H x.j c.vers.length W s.agr)) (by rw [hjd])) Z<|.a Z Z<|.nt<|.sq<|.sr<|.yv (.fieldAddr Z Fx.field78_2) Z<|.yv (.load Z Fx.agg76 (.head _) Z) Z<|.m Z Z<|.yv (.indexSl Fx.sl76 Z Z Z (by omega) (q := oG + j * 1) Z) Z<|.yv (.loadM Z Fx.agg79 mG (k := 0) Z Z) Z<|.yv (.lenSl Fx.sl79 Z) Z<|.yv (.eql Z Z) Z<|.nt<|.cd Z (fun h37 => ?_) (fun h37 => ?_)
 ·skip
  refine .sr<|.yv (.build Z Fx.bld58) Z<|.sW (.tail<|.head) Z Z Fx.size58 (by simp [Value.oneCell',strV]) Z<|.a Z Z<|.a Z Z<|.a Z Z<|.nt<|.rt<|.tR<|?_
  refine Sx.retN (.inl rfl) rfl (.cons (.cell rfl Fx.agg58 (.tail _<|.head _) rfl) (.cons (.tmp rfl) (.cons (.tmp rfl) (.cons (.tmp rfl) .nil)))) rfl fun W s => ⟨([.int .i64 0,.string ⟨#[]⟩,.int .i64 0,.slice none 0 0],0,.slice none 0 0,false),H,⟨fun e => (by cases e),rfl,by simp [Value.oneCell']⟩,rfl,HUp.refl.grow s⟩
 have hv0 : 0 < v.length := by have := of_decide_eq_false h37;omega
 obtain ⟨h,hhd⟩ : ∃ h,h = atN (x.j.toNat / 4) v.length := ⟨_,rfl⟩
 have hh : h < v.length := by rw [hhd];exact atN_lt hv0
 obtain ⟨bK,oK,cK,hpK,rK,lK,mK⟩ := gv.elem (map_at (f := dHd .i64) hh)
 cases hpK
 have okh := okv.all _ (List.getElem_mem hh)
 generalize hxh : v[h] = hx at rK okh
 obtain ⟨t1,w1,t2,w2,rfl,nh,m1,m2⟩ := hd_open rK
 refine .sk<|.tN<|.sq<|.fl (trip := [(_,_,_),(_,_,_),(_,_,_),(_,_,_),(_,_,_),(_,_,_),(_,_,_),(_,_,_),(_,_,_),(_,_,_),(_,_,_),(_,_,_),(_,_,_),(_,_,_),(_,_,_),(_,_,_),(_,_,_),(_,_,_)]) 18 [(0,0),(1,0),(2,0),(3,0),(4,0),(5,0),(6,0),(7,0),(8,0),(9,0),(10,0),(11,0),(12,0),(13,0),(14,0),(15,0),(16,0),(17,1)] (by kernel_rfl) (by kernel_rfl) Z<|.yv (.fieldAddr Z Fx.field78_2) Z<|.yv (.load Z Fx.agg76 (.head _) Z) Z<|.m Z Z<|.yv (.indexSl Fx.sl76 Z Z Z (by omega) (q := oG + j * 1) Z) Z<|.yv (.loadM Z Fx.agg79 mG (k := 0) Z Z) Z<|.yv (.fieldAddr Z Fx.field53_2) Z<|.yv (.load Z Fx.agg5 (.tail _<|.tail _<|.head _) Z) Z<|.yv (.quo Z Z (by decide) (c := ((x.j.toNat / 4 : Nat) : Int)) (qu8 _ x.j.toNat_lt (by decide))) Z<|.yv (.fieldAddr Z Fx.field78_2) Z<|.yv (.load Z Fx.agg76 (.head _) Z) Z<|.m Z Z<|.yv (.indexSl Fx.sl76 Z Z Z (by omega) (q := oG + j * 1) Z) Z<|.yv (.loadM Z Fx.agg79 mG (k := 0) Z Z) Z<|.yv (.lenSl Fx.sl79 Z) Z<|.yv (.cast (v' := .int .i64 (h : Nat)) (.call Fx.call42 Z (fun W s => by have := at8_any H (UInt8.ofNat (x.j.toNat / 4)) v.length W s.agr;rw [u8q4] at this;exact this)) (by rw [hhd])) Z<|.yv (.indexSl Fx.sl79 Z Z Z (by omega) (q := oK + h * 3) Z) Z<|.yv (.loadMW Z Fx.agg82 mK Z) Z<|.al Fx.zero82 Z fun b11 => .fn (tl := [_]) Z<|.sW .head Z Z Fx.size82 (by simp [Value.oneCell',strV]) Z<|.ns<|.yv (.fieldAddr Z Fx.field82_2) Z<|.yv (.load Z Fx.agg80 (.head _) Z) Z<|.ct (X := Value) Fx.call22 Z (fun W t => flat_any hx.body (by have := okh.body.cnt;omega) H _ W m2 t.agr) Z fun v58 H1 hc58 u1 => ?_
 obtain ⟨p58,c58,e58,_⟩ := hc58.sl
 simp only [List.cons.injEq,and_true,List.length_map] at e58
 subst e58
 have hcap58 := hc58.cap
 refine .a Z Z<|.nt<|.sq<|.sr<|.m Z Z<|.yv (.lenSl Fx.sl80 Z) Z<|.yv (.eql Z Z) Z<|.nt<|.cd Z (fun h61 => ?_) (fun h61 => ?_)
 ·skip
  refine .sr<|.yv (.build Z Fx.bld58) Z<|.sW (.tail<|.tail<|.head) Z Z Fx.size58 (by simp [Value.oneCell',strV]) Z<|.a Z Z<|.a Z Z<|.a Z Z<|.nt<|.rt<|.tR<|?_
  refine Sx.retN (.inl rfl) rfl (.cons (.cell rfl Fx.agg58 (.tail _<|.tail _<|.head _) rfl) (.cons (.tmp rfl) (.cons (.tmp rfl) (.cons (.tmp rfl) .nil)))) rfl fun W s => ⟨([.int .i64 0,.string ⟨#[]⟩,.int .i64 0,.slice none 0 0],0,.slice none 0 0,false),H1,⟨fun e => (by cases e),rfl,by simp [Value.oneCell']⟩,rfl,u1.grow s⟩
 have hl0 : 0 < (Sm.flats hx.body).length := by have := of_decide_eq_false h61;omega
 obtain ⟨k,hkd⟩ : ∃ k,k = atN x.k.toNat (Sm.flats hx.body).length := ⟨_,rfl⟩
 have hk : k < (Sm.flats hx.body).length := by rw [hkd];exact atN_lt hl0
 obtain ⟨bX,oX,cX,hpX,rX,lX,mX⟩ := hc58.elem (map_at (f := dSm .i64) hk)
 cases hpX
 have okx := sflats_all _ _ okh.body.all _ (List.getElem_mem hk)
 generalize hxx : (Sm.flats hx.body)[k] = sx at rX okx
 obtain ⟨kd,nm,hd,ex,th,el⟩ := sx
 obtain ⟨e1,f1,e2,f2,e3,f3,rfl,r1,r2,r3,_,_⟩ := sm_open rX
 have hcape := r1.cap
 refine .sk<|.tN<|.sr<|.m Z Z<|.yv (.fieldAddr Z Fx.field53_3) Z<|.yv (.load Z Fx.agg5 (.tail _<|.tail _<|.tail _<|.head _) Z) Z<|.m Z Z<|.yv (.lenSl Fx.sl80 Z) Z<|.yv (.cast (v' := .int .i64 (k : Nat)) (.call Fx.call42 Z (fun W s => at8_any H1 x.k (Sm.flats hx.body).length W s.agr)) (by rw [hkd])) Z<|.yv (.indexSl Fx.sl80 Z Z Z (by omega) (q := oX + k * 6) Z) Z<|.yv (.loadMW Z Fx.agg85 mX Z) Z<|.al Fx.zero85 Z fun b13 => .sW .head Z Z Fx.size85 (by simp [Value.oneCell',strV]) Z<|.nt<|.sq<|.sr<|.yv (.fieldAddr Z Fx.field85_3) Z<|.yv (.load Z Fx.agg56 (.head _) Z) Z<|.yv (.lenSl Fx.sl56 Z) Z<|.yv (.eql Z Z) Z<|.nt<|.cd Z (fun h74 => ?_) (fun h74 => ?_)
 ·skip
  refine .sr<|.yv (.build Z Fx.bld58) Z<|.sW (.tail<|.tail<|.tail<|.head) Z Z Fx.size58 (by simp [Value.oneCell',strV]) Z<|.a Z Z<|.a Z Z<|.a Z Z<|.nt<|.rt<|.tR<|?_
  refine Sx.retN (.inl rfl) rfl (.cons (.cell rfl Fx.agg58 (.tail _<|.tail _<|.tail _<|.head _) rfl) (.cons (.tmp rfl) (.cons (.tmp rfl) (.cons (.tmp rfl) .nil)))) rfl fun W s => ⟨([.int .i64 0,.string ⟨#[]⟩,.int .i64 0,.slice none 0 0],0,.slice none 0 0,false),H1,⟨fun e => (by cases e),rfl,by simp [Value.oneCell']⟩,rfl,u1.grow s⟩
 have he0 : 0 < ex.length := by have := of_decide_eq_false h74;omega
 obtain ⟨q,hqd⟩ : ∃ q,q = x.nm.toNat % ex.length := ⟨_,rfl⟩
 have hq : q < ex.length := by rw [hqd];exact Nat.mod_lt _ he0
 obtain ⟨bQ,oQ,cQ,hpQ,rQ,lQ,mQ⟩ := r1.elem (map_at (f := dEx .i64) hq)
 cases hpQ
 have okq : okE ex[q] = true := by
  rw [sall_mk,Bool.and_eq_true,Bool.and_eq_true] at okx
  have := okx.1.1
  simp only [okS2,Bool.and_eq_true,List.all_eq_true] at this
  exact this.2 _ (List.getElem_mem hq)
 generalize hxq : ex[q] = y at rQ okq
 refine .sk<|.tN<|.sq<|.fl (trip := [(_,_,_),(_,_,_),(_,_,_),(_,_,_),(_,_,_),(_,_,_),(_,_,_),(_,_,_),(_,_,_),(_,_,_),(_,_,_),(_,_,_),(_,_,_),(_,_,_),(_,_,_),(_,_,_),(_,_,_)]) 17 [(0,0),(1,0),(2,0),(3,0),(4,0),(5,0),(6,0),(7,0),(8,0),(9,0),(10,0),(11,0),(12,0),(13,0),(14,3),(15,0),(16,0)] (by kernel_rfl) (by kernel_rfl) Z<|.yv (.fieldAddr Z Fx.field85_3) Z<|.yv (.load Z Fx.agg56 (.head _) Z) Z<|.yv (.fieldAddr Z Fx.field53_4) Z<|.yv (.load Z Fx.agg5 (.tail _<|.tail _<|.tail _<|.tail _<|.head _) Z) Z<|.yv (.conv Z Fx.int5 Fx.int3 (c := (x.nm.toNat : Nat)) (by have := x.nm.toNat_lt;simp only [IntKind.wrap,IntKind.signed,IntKind.bits];simp;omega)) Z<|.yv (.fieldAddr Z Fx.field85_3) Z<|.yv (.load Z Fx.agg56 (.head _) Z) Z<|.yv (.lenSl Fx.sl56 Z) Z<|.yv (.rem Z Z (by omega) (c := ((q : Nat) : Int)) (by rw [hqd];exact tm2 _ _)) Z<|.yv (.indexSl Fx.sl56 Z Z Z (by omega) (q := oQ + q * 4) Z) Z<|.yv (.loadMW Z Fx.agg58 mQ lQ) Z<|.m Z Z<|.yv (.fieldAddr Z Fx.field82_1) Z<|.yv (.load Z Fx.agg54 (.tail _<|.head _) Z) Z<|.sV (.tail<|.tail<|.tail<|.head) Z Z Fx.size58 lQ rQ.one Z ((.yv (.load Z Fx.agg54 (.tail _<|.head _) Z)<|.yv (.fieldAddr Z Fx.field82_1)<|.yv (.move Z)<|.done (by kernel_rfl)<|.done (by kernel_rfl)<|.done (by kernel_rfl)<|.done (by kernel_rfl)<|.done (by kernel_rfl)<|.done (by kernel_rfl)<|.done (by kernel_rfl)<|.done (by kernel_rfl)<|.done (by kernel_rfl)<|.done (by kernel_rfl)<|.done (by kernel_rfl)<|.nl))<|.a Z Z<|.a Z Z<|.fn (tl := [_]) Z<|.a Z Z<|.nt<|.rt<|?_
 refine Sx.retN (.inl rfl) rfl (.cons (.cell rfl Fx.agg58 (.tail _<|.tail _<|.tail _<|.head _) lQ) (.cons (.tmp rfl) (.cons (.tmp rfl) (.cons (.tmp rfl) .nil)))) rfl fun W s => ⟨(cQ,i,_,true),H1,⟨fun _ => ⟨y,hx.ps,hi,rQ,m1.up u1.up,okq⟩,lQ,rQ.one⟩,rfl,u1.grow s⟩
theorem Fx.agg25 : aggN Tryz.prog 25 = Option.some (Option.some 3) := by kernel_rfl
theorem Fx.agg53 : aggN Tryz.prog 53 = Option.some (Option.some 5) := by kernel_rfl
theorem Fx.call11 : callN Tryz.prog 11 = Bool.true := by kernel_rfl
theorem Fx.call15 : callN Tryz.prog 15 = Bool.true := by kernel_rfl
theorem Fx.call16 : callN Tryz.prog 16 = Bool.true := by kernel_rfl
theorem Fx.call17 : callN Tryz.prog 17 = Bool.true := by kernel_rfl
theorem Fx.call18 : callN Tryz.prog 18 = Bool.true := by kernel_rfl
theorem Fx.call21 : callN Tryz.prog 21 = Bool.true := by kernel_rfl
theorem Fx.field53_0 : fieldN Tryz.prog 53 0 = Option.some 0 := by kernel_rfl
theorem ex_len {H : Hp} {k : IntKind} {e : Ex} {cs : List Value} (h : Rep H (dEx k e) cs) : cs.length = 4 := by
 obtain ⟨op,nm,n,args⟩ := e
 obtain ⟨_,_,rfl,_⟩ := ex_open h
 rfl
theorem ft_len {H : Hp} {k : IntKind} {f : Ft} {cs : List Value} (h : Rep H (dFt k f) cs) : cs.length = 4 := by
 obtain ⟨_,_,_,_,_,_,rfl,_⟩ := ft_open h
 rfl
theorem okD_of {e : Ex} (h : okE e = true) : okD 64 e := by
 simp only [okE,Bool.and_eq_true,decide_eq_true_eq] at h
 exact h
theorem u8q2 {n : UInt8} : (UInt8.ofNat (n.toNat / 2)).toNat = n.toNat / 2 := by
 have := n.toNat_lt
 simp;omega
theorem buildF_vers (p : Pln) : ∀ c ∈ (buildF p).comps,0 < c.vers.length := by
 intro c hc
 simp only [buildF,cmpsP] at hc
 obtain ⟨i,hi,rfl⟩ := List.mem_mapIdx.1 hc
 show 0 < (vssP _ _).length
 unfold vssP
 simp
theorem checkE_form {e : Ex} (h : checkE e = 0) : Ex.all frmE e = true := by
 unfold checkE at h
 split at h
 ·cases h
 split at h
 ·cases h
 split at h
 ·cases h
 ·rename_i k;simpa using k
theorem typeOf_both (H : Hp) (G : Gl H) (p : Pln) (cs : List Value) (h : Rep H (dFt .u8 (buildF p)) cs) (v3 : Value) (e : Ex) (ces : List Value) (he : Rep H (dEx .u8 e) ces) (hd : e.depth ≤ 1000000) (k : Nat) (hk : k < (buildF p).comps.length) (ps : List Str) (k3 : Rep H (.seq 1 (ps.map dStrL)) [v3]) (w : World) (hA : Agr H w) :
 Calls Tryz.prog 18 #[.agg cs.toArray,.int .i64 (k : Nat),v3,.agg ces.toArray] w fun r w' => r = .returned (.tuple #[.int .u8 (if checkE e = 0 then (tyE ⟨(buildF p).flags,((buildF p).comps[k]).vars,ps⟩ e).ty else 0).toNat,.int .i64 ((if checkE e = 0 then (tyE ⟨(buildF p).flags,((buildF p).comps[k]).vars,ps⟩ e).er else 1 : Nat) : Int)]) ∧ Ext w w' := by
 by_cases hc : checkE e = 0
 ·simp only [if_pos hc]
  exact typeOf_good H G (buildF p) cs h (evH_ok (by decide) (buildF_ok p)) v3 e ces he hd k hk _ rfl (buildF_good p) hc ps k3 w hA
 ·simp only [if_neg hc]
  exact typeOf_bad H G (buildF p) cs h (evH_ok (by decide) (buildF_ok p)) v3 e ces he hd k (.inr (.inr (.inr hc))) w hA
set_option maxHeartbeats 2000000 in
set_option maxRecDepth 100000 in
theorem typesExprs_any (H : Hp) (G : Gl H) (p : Pln) (x : Chg) (pp : List Str) (cs : List Value) (v1 : Value) (h : Rep H (dPln p) cs) (hpp : Rep H (.seq 1 (pp.map dStrL)) [v1]) (w : World) (hA : Agr H w) :
 Calls Tryz.prog 5 #[.agg cs.toArray,.agg (cChg x).toArray,v1] w fun r w' => r = .returned (.bool true) ∧ Ext w w' := by
 obtain ⟨p1,c1,p2,c2,rfl,_,_⟩ := pln_open h
 obtain ⟨pv,cv,ev,_⟩ := hpp.sl
 simp only [List.cons.injEq,and_true,List.length_map] at ev
 subst ev
 have hcapp := hpp.cap
 refine Sx.enter (H := H) Tryz.func5 rfl Tryz.ntmps5 rfl hA ?_
 refine .sr<|.bx Z Z Z fun b3 => .bx Z Z Z fun b4 => .a Z Z<|.ns<|.yv (.loadW Z Fx.agg25 (.tail _<|.head _) Z) Z<|.ct (X := List Value) Fx.call15 Z (fun W t => build_plan H p _ W h t.agr) Z fun xf H0 hx0 u0 => .al Fx.zero31 Z fun b7 => .sV .head Z Z Fx.size31 (ft_len hx0) hx0.one Z<|.ns<|.yv (.loadW Z Fx.agg31 (.head _) (ft_len hx0)) Z<|.yv (.loadW Z Fx.agg53 (.tail _<|.head _) Z) Z<|.ct (X := List Value × Nat × Value × Bool) Fx.call16 Z (fun W t => pick_any H0 (buildF p) x _ hx0 (buildF_ok p) (buildF_vers p) W t.agr) Z fun z20 H1 hc20 u20 => ?_
 obtain ⟨ce,i,v0,okk⟩ := z20
 obtain ⟨hc20,hl20,ho20⟩ := hc20
 dsimp only at hc20 hl20 ho20 ⊢
 have u1 := u0.trans u20
 have hxf := hx0.up u20.up
 obtain ⟨ce1,ce2,ce3,ce4,rfl⟩ : ∃ a b c d,ce = [a,b,c,d] := by match ce,hl20 with | [a,b,c,d],_ => exact ⟨a,b,c,d,rfl⟩
 refine .m Z Z<|.yv (.extract Z Z) Z<|.yv (.extract Z Z) Z<|.yv (.extract Z Z) Z<|.yv (.extract Z Z) Z<|.al Fx.zero58 Z fun b8 => .sW .head Z Z Fx.size58 ho20 Z<|.a Z Z<|.a Z Z<|.a Z Z<|.nt<|.sq<|.sr<|.m Z Z<|.yv (.not Z) Z<|.nt<|.cd Z (fun h26 => ?_) (fun h26 => ?_)
 ·skip
  refine .sr<|.yv (.call Fx.call11 Z (fun W t => awake8_any H1 (G.up u1.up) W t.agr)) Z<|.a Z Z<|.nt<|.rt<|.tR<|?_
  exact Sx.ret1 (.inl rfl) rfl (.tmp rfl) fun W t => ⟨rfl,(u1.grow t).ext⟩
 have hok := nB_f h26
 obtain ⟨e,ps,hi,he,hps,hoe⟩ := hc20 hok
 have hpp1 := hpp.up u1.up
 refine .sk<|.tN<|.cu (X := List Str × Value) [(4,_),(7,_),(8,_),(9,_),(10,_)] ⟨rfl,rfl,rfl,rfl,rfl,trivial⟩ (fun z => [(2,z.2)]) (fun z => H1) (fun z => [.box b8 [ce1,ce2,ce3,ce4] 58,.box b7 xf 31,.box b4 (cChg x) 53,.box b3 [.int .u8 p.flags.toNat,.slice p1 p.links.length c1,.slice p2 p.comps.length c2] 25]) (fun z => Rep H1 (.seq 1 (z.1.map dStrL)) [z.2]) ?_ fun z hC => ?_
 ·
  refine .sr<|.m Z Z<|.yv (.lenSl Fx.sl54 Z) Z<|.yv (.gtr Z Z) Z<|.nt<|.cd Z (fun h30 => ?_) (fun h30 => ?_)
  ·have h6 : 6 < pp.length := by have := of_decide_eq_true h30;omega
   exact .rg<|.m Z Z<|.yv (.cutHi2 Fx.sl54 Z Z (h := 6) Z (by have := hpp1.len.2.1;omega)) Z<|.a Z Z<|.nt<|.me (pp.take 6,_) ⟨rfl,trivial⟩ ⟨rfl,rfl,rfl,rfl,rfl,trivial⟩ (fun _ s => s) (by rw [List.map_take];exact rep_take2 hpp1 (by omega))
  skip
  exact .sk<|.tN<|.me (pp,_) ⟨rfl,trivial⟩ ⟨rfl,rfl,rfl,rfl,rfl,trivial⟩ (fun _ s => s) hpp1
 obtain ⟨pp2,v2⟩ := z
 have hpp2 := hC
 dsimp only at hpp2 ⊢
 refine .cu (X := Hp × List Value × Ex) [(2,_),(4,_),(7,_),(8,_),(9,_),(10,_)] ⟨rfl,rfl,rfl,rfl,rfl,rfl,trivial⟩ (fun z => []) (fun z => z.1) (fun z => [.box b8 z.2.1 58,.box b7 xf 31,.box b4 (cChg x) 53,.box b3 [.int .u8 p.flags.toNat,.slice p1 p.links.length c1,.slice p2 p.comps.length c2] 25]) (fun z => HUp w H1 z.1 ∧ Rep z.1 (dEx .i64 z.2.2) z.2.1 ∧ okD 65 z.2.2) ?_ fun z hC => ?_
 ·
  refine .sr<|.yv (.fieldAddr Z Fx.field53_0) Z<|.yv (.load Z Fx.agg5 (.tail _<|.tail _<|.head _) Z) Z<|.yv (.rem Z Z (by decide) (c := ((x.wh.toNat % 2 : Nat) : Int)) (tm2 _ 2)) Z<|.yv (.eql Z Z) Z<|.nt<|.cd Z (fun h36 => ?_) (fun h36 => ?_)
  ·skip
   exact .rg<|.yv (.fieldAddr Z Fx.field53_0) Z<|.yv (.load Z Fx.agg5 (.tail _<|.tail _<|.head _) Z) Z<|.yv (.quo Z Z (by decide) (c := ((x.wh.toNat / 2 : Nat) : Int)) (qu8 _ x.wh.toNat_lt (by decide))) Z<|.yv (.loadW Z Fx.agg58 (.head _) Z) Z<|.ct (X := List Value) Fx.call17 Z (fun W t => by have := xpr_any H1 (UInt8.ofNat (x.wh.toNat / 2)) e _ he W t.agr;rw [u8q2] at this;exact this) Z fun x41 H3 hx41 u41 => .sV .head Z Z Fx.size58 (ex_len hx41) hx41.one Z<|.nt<|.me (H3,x41,xprT (x.wh.toNat / 2) e) trivial ⟨rfl,rfl,rfl,rfl,rfl,rfl,trivial⟩ (fun _ s => s) ⟨u41,hx41,xprT_ok (okD_of hoe)⟩
  skip
  exact .sk<|.tN<|.me (H1,[ce1,ce2,ce3,ce4],e) trivial ⟨rfl,rfl,rfl,rfl,rfl,rfl,trivial⟩ (fun _ s => s) ⟨.refl,he,(okD_of hoe).mono (by decide)⟩
 obtain ⟨H4,ye,e4⟩ := z
 obtain ⟨u4,hye,hD⟩ := hC
 dsimp only at u4 hye hD ⊢
 have hxf4 := hxf.up u4.up
 refine .cu (X := List Str × Value) [(7,_),(8,_),(9,_)] ⟨rfl,rfl,rfl,trivial⟩ (fun z => [(2,z.2)]) (fun z => H4) (fun z => [.box b8 ye 58,.box b7 xf 31,.box b4 (cChg x) 53,.box b3 [.int .u8 p.flags.toNat,.slice p1 p.links.length c1,.slice p2 p.comps.length c2] 25]) (fun z => Rep H4 (.seq 1 (z.1.map dStrL)) [z.2]) ?_ fun z hC => ?_
 ·
  refine .sr<|.yv (.fieldAddr Z Fx.field53_0) Z<|.yv (.load Z Fx.agg5 (.tail _<|.tail _<|.head _) Z) Z<|.yv (.rem Z Z (by decide) (c := ((x.wh.toNat % 3 : Nat) : Int)) (tm2 _ 3)) Z<|.yv (.eql Z Z) Z<|.nt<|.cd Z (fun h45 => ?_) (fun h45 => ?_)
  ·skip
   exact .rg<|.m Z Z<|.a Z Z<|.nt<|.me (ps,v0) ⟨rfl,trivial⟩ ⟨rfl,rfl,rfl,trivial⟩ (fun _ s => s) ((rep_long hps).up u4.up)
  skip
  exact .sk<|.tN<|.me (pp2,v2) ⟨rfl,trivial⟩ ⟨rfl,rfl,rfl,trivial⟩ (fun _ s => s) (hpp2.up u4.up)
 obtain ⟨ps5,v5⟩ := z
 have hps5 := hC
 dsimp only at hps5 ⊢
 have hdep : e4.depth ≤ 1000000 := by have := hD.1;omega
 refine .sq<|.fl (trip := [(_,_,_),(_,_,_),(_,_,_),(_,_,_),(_,_,_),(_,_,_),(_,_,_),(_,_,_),(_,_,_),(_,_,_),(_,_,_)]) 11 [(0,0),(2,0),(3,0),(4,0),(1,1),(5,1),(6,0),(7,0),(8,0),(9,0),(10,0)] (by kernel_rfl) (by kernel_rfl) Z<|.yv (.loadW Z Fx.agg31 (.tail _<|.head _) (ft_len hxf4)) Z<|.m Z Z<|.m Z Z<|.yv (.loadW Z Fx.agg58 (.head _) (ex_len hye)) Z<|.ct (X := List Value) Fx.call8 Z (fun W t => syntax_any 100 (by decide) H4 (buildF p) (buildF_ok p) xf W hxf4 t.agr) Z fun xs Hs hxs us => .ct (X := List Value) Fx.call19 Z (fun W t => in_any e4 hD.2 Hs _ W (hye.up us.up) t.agr) Z fun xi H5 hxi u53 => ?_
 have u5 := u1.trans (u4.trans (us.trans u53))
 have u45 := us.trans u53
 refine .yv (.call Fx.call18 Z (fun W t => typeOf_both H5 (G.up u5.up) p xs (hxs.up u53.up) v5 e4 xi hxi hdep i hi ps5 (hps5.up u45.up) W t.agr)) Z<|.m Z Z<|.yv (.extract Z Z) Z<|.yv (.extract Z Z) Z<|.a Z Z<|.fn (tl := [_]) Z<|.a Z Z<|.nt<|.sq<|.sr<|.yv (.loadW Z Fx.agg58 (.head _) (ex_len hye)) Z<|.ct (X := List Value) Fx.call19 Z (fun W t => in_any e4 hD.2 H5 _ W (hye.up u45.up) t.agr) Z fun xj H6 hxj u58 => ?_
 have u6 := u5.trans u58
 refine .yv (.call Fx.call20 Z (fun W t => checkExpr_any H6 (G.up u6.up) e4 _ hxj hdep W t.agr)) Z<|.yv (.neq Z Z) Z<|.nt<|.cd Z (fun h60 => ?_) (fun h60 => ?_)
 ·have hce : ¬ checkE e4 = 0 := by have := of_decide_eq_true h60;omega
  refine .sr<|.yv (.call Fx.call11 Z (fun W t => awake8_any H6 (G.up u6.up) W t.agr)) Z<|.m Z Z<|.gd Z Z<|.yv (.move Z) Z<|.gd Z Z<|.yv (.cast (v' := .bool true) (.eql Z Z) (by rw [if_neg hce];rfl)) Z<|.yv (.pickT Z Z) Z<|.m Z Z<|.gd Z Z<|.yv (.move Z) Z<|.gd Z Z<|.yv (.cast (v' := .bool true) (.eql Z Z) (by rw [if_neg hce];rfl)) Z<|.yv (.pickT Z Z) Z<|.a Z Z<|.nt<|.rt<|.tR<|?_
  exact Sx.ret1 (.inl rfl) rfl (.tmp rfl) fun W t => ⟨rfl,(u6.grow t).ext⟩
 have hce : checkE e4 = 0 := by have := of_decide_eq_false h60;omega
 have hfr := checkE_form hce
 refine .sk<|.tN<|.sr<|.yv (.loadW Z Fx.agg31 (.tail _<|.head _) (ft_len hxf4)) Z<|.m Z Z<|.m Z Z<|.yv (.loadW Z Fx.agg58 (.head _) (ex_len hye)) Z<|.yv (.cast (v' := .agg (rV (tyE ⟨(buildF p).flags,((buildF p).comps[i]).vars,ps5⟩ e4)).toArray) (.call Fx.call21 Z (fun W t => typeOfR_any H6 (buildF p) xf (hxf4.up (u45.trans u58).up) i hi _ Z ps5 v5 (hps5.up (u45.trans u58).up) e4 ye (hye.up (u45.trans u58).up) hfr W t.agr)) (by rw [tyR_eq _ _ hfr])) Z<|.al Fx.zero72 Z fun b14 => .sW .head Z Z Fx.size72 (by simp [rV,Value.oneCell',strV]) Z<|.ns<|.yv (.call Fx.call11 Z (fun W t => awake8_any H6 (G.up u6.up) W t.agr)) Z<|.m Z Z<|.gd Z Z<|.yv (.move Z) Z<|.gd Z Z<|.yv (.fieldAddr Z Fx.field72_1) Z<|.gd Z Z<|.yv (.load Z Fx.agg3 (.head _) Z) Z<|.gd Z Z<|.yv (.cast (v' := .bool true) (.eql Z Z) (by rw [if_pos hce];simp)) Z<|.yv (.pickT Z Z) Z<|.m Z Z<|.gd Z Z<|.yv (.move Z) Z<|.gd Z Z<|.yv (.conv Z Fx.int62 Fx.int3 (c := ((if checkE e4 = 0 then (tyE ⟨(buildF p).flags,((buildF p).comps[i]).vars,ps5⟩ e4).ty else 0).toNat : Nat)) (by have := ((if checkE e4 = 0 then (tyE ⟨(buildF p).flags,((buildF p).comps[i]).vars,ps5⟩ e4).ty else 0)).toNat_lt;simp only [IntKind.wrap,IntKind.signed,IntKind.bits];simp;omega)) Z<|.gd Z Z<|.yv (.fieldAddr Z Fx.field72_0) Z<|.gd Z Z<|.yv (.load Z Fx.agg3 (.head _) Z) Z<|.gd Z Z<|.yv (.cast (v' := .bool true) (.eql Z Z) (by rw [if_pos hce];simp)) Z<|.yv (.pickT Z Z) Z<|.a Z Z<|.nt<|.rt<|?_
 exact Sx.ret1 (.inl rfl) rfl (.tmp rfl) fun W t => ⟨rfl,(u6.grow t).ext⟩
variable {H : Type} {enc : TypeId × Value → H}
theorem wrap {a : Assume} {C : Checked} {os : Os} {f : FuncId} {fn : Func} {s : ChangeSpec} {conds : List PathCond} {apart fresh handsOn again : Bool} {X : World → Array Value → Prop}
 (hX : ∀ (w w' : World) (args : Array Value),w.heap = w'.heap → X w args → X w' args)
 (own : ownKnob C.prog.godebug = none) (started : os.Started) (noInit : C.prog.inits.idxOf? f = none) (hfn : C.prog.funcs[f]? = some fn)
 (witness : ∃ (w : World) (tape : Tape) (i : Input),w.os = os ∧ (w.forCall tape i).Shaped C.prog ∧ i.vars = [] ∧ Input.okWide C.prog (w.forCall tape i) .any w.heap.size f i ∧
  ((s.pre enc C.prog fn conds apart (w.forCall tape i).memory i.args ∧ X (w.forCall tape i).memory i.args) ∧ sizedMet enc C.prog fn (OpenSpec.ofChange s) apart (w.forCall tape i).memory i.args) ∧ a.holds C.prog (lone (Frame.enter C.prog f i.args .normal) [] (w.forCall tape i)))
 (contract : ∀ (W : World) (base : Nat) (args : Array Value) (ds gs : List (DataW H)) (before : List MemPlace),
  (∀ (j : Nat) t v,fn.params[j]? = some t → args[j]? = some v → Value.okWide C.prog W .any base t v) →
  DataW.Whole enc C.prog fn.params.toList s.vars apart W args.toList ds gs before →
  X W args → W.ShapedOpen C.prog →
  Calls C.prog f args W fun e W' => ∃ v,e = .returned v ∧ s.post enc C.prog fn apart fresh handsOn again W args v W') :
 ReturnsInHanded a C os f .any (fun w args => (s.pre enc C.prog fn conds apart w args ∧ X w args) ∧ sizedMet enc C.prog fn (OpenSpec.ofChange s) apart w args) (s.post enc C.prog fn apart fresh handsOn again) := by
 refine returnsInHanded_of_calls own started noInit witness ?_
 intro w tape i _ hsh _ hok hpre _
 obtain ⟨_,_,_,fn',hfn',_,_,_,_,hval⟩ := hok
 have e : fn' = fn := Option.some.inj (hfn'.symm.trans hfn)
 subst e
 obtain ⟨⟨⟨ds,gs,before,hw,_⟩,hx⟩,_⟩ := hpre
 have hw' := DataW.Whole.of_heap (w' := w.forCall tape i) (by rfl) hw
 refine (contract (w.forCall tape i) w.heap.size i.args ds gs before hval hw' (hX _ _ _ (by rfl) hx) hsh).mono fun e W' ⟨v,he,hp⟩ => ?_
 subst he
 exact ChangeSpec.post_blind hp

theorem own : ownKnob Tryz.prog.godebug = none := by kernel_rfl
def laids : List (String × DataW Unit) := [("math/bits.deBruijn32tab",Rows.laid_math_bits_deBruijn32tab),("math/bits.deBruijn64tab",Rows.laid_math_bits_deBruijn64tab),("internal/strconv.uint64pow10",Rows.laid_internal_strconv_uint64pow10),("rootcause/lexer.words",Rows.laid_rootcause_lexer_words),("rootcause/lexer.symbols",Rows.laid_rootcause_lexer_symbols),("rootcause/syntax.shapes",Rows.laid_rootcause_syntax_shapes),("rootcause/syntax.forms",Rows.laid_rootcause_syntax_forms)]
theorem gTab : Tryz.prog.globalNamed "internal/strconv.uint64pow10" = some 4 := by kernel_rfl
theorem gTabT : (Tryz.prog.globals[4]?).map (·.type) = some 233 := by kernel_rfl
theorem cellsTab : Tryz.prog.cellsOf 233 = 20 := by kernel_rfl
theorem cellsTabE : Tryz.prog.cellsOf 223 = 1 := by kernel_rfl
theorem tabEq : (Rows.laid_internal_strconv_uint64pow10 : DataW Unit) = Lib.tabData .u64 Lib.pow10Tab := by kernel_rfl
theorem gt_of {W : World} (h : laidMet Tryz.prog laids W) : Gt (allH W) := by
 intro W' hA
 have h1 : Lib.TabIs Tryz.prog W "internal/strconv.uint64pow10" .u64 Lib.pow10Tab := Lib.tabIs_of_head gTab gTabT Tryz.underlying233 Tryz.underlying223 cellsTabE cellsTab (tabEq ▸ h.tail.tail)
 unfold Lib.TabIs World.var? at *
 rw [gTab] at *
 simp only [Option.bind_some] at *
 split at h1
 ·rename_i cs T m hb
  rw [hA 4 _ hb]
  exact h1
 ·cases h1
theorem gl_of {W : World} (h : laidMet Tryz.prog laids W) : Gl (allH W) :=
 ⟨laid_mem (t := 209) (.arr 24 (.str [.int .i64,.bool,.int .i64,.strg])) _ (by kernel_rfl) (by kernel_rfl) (by kernel_rfl) (by kernel_rfl) (by kernel_rfl) h.tail.tail.tail.tail.tail,
  laid_mem (t := 218) (.arr 11 (.str [.bool,.bool,.int .i64,.int .i64,.bool,.bool])) _ (by kernel_rfl) (by kernel_rfl) (by kernel_rfl) (by kernel_rfl) (by kernel_rfl) h.tail.tail.tail.tail.tail.tail,
  laid_mem (t := 231) (.arr 39 .strg) _ (by kernel_rfl) (by kernel_rfl) (by kernel_rfl) (by kernel_rfl) (by kernel_rfl) h.tail.tail.tail,
  laid_mem (t := 216) (.arr 25 .strg) _ (by kernel_rfl) (by kernel_rfl) (by kernel_rfl) (by kernel_rfl) (by kernel_rfl) h.tail.tail.tail.tail⟩
theorem laid_met (os : Os) (args : Array Value) : laidMet Tryz.prog laids ((World.laidAll Tryz.prog os laids).forCall (fun _ _ => 0) ⟨#[],args,[]⟩).memory :=
 laidMet_laidAll _ (by kernel_rfl) (by kernel_rfl)
theorem laid_shaped (os : Os) (args : Array Value) : ((World.laidAll Tryz.prog os laids).forCall (fun _ _ => 0) ⟨#[],args,[]⟩).Shaped Tryz.prog :=
 World.shaped_of_ZipB (by kernel_rfl) (by kernel_rfl)
theorem ext_kept {W W' : World} (h : Ext W W') : ∀ may,W.keptBut W' may := fun may => (Ext.below h).frame may
theorem laidOut : laidOutB Tryz.prog = true := by kernel_rfl
end Go.Proofs.YtohfacbajcenoaaGreatDoor
