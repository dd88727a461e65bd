/- Texts of the proof, one behind the other. -/
import Derived.Test.YtohfacbajcenoaaDoorMe
import Derived.Test.YtohfacbajcenoaaDoorTie
import Derived.ProofKit
import Derived.OpenShut
import Derived.ShutString
import Derived.Lay
import Derived.Stop.LaidErr
import Derived.Stop.Joined
import Derived.Shelf.Vars
import Derived.Lib.LaidTab
import Derived.Lib.SmallJoins
import Derived.SevenTiedAt
set_option linter.all false
namespace Go.Proofs.YtohfacbajcenoaaDoor
open Go.RowKit Go.Par Go.Sx
theorem fd2 (a m : Nat) : Int.fdiv (a : Int) (2 ^ m) = ((a / 2 ^ m : Nat) : Int) := by
 rw [Int.fdiv_eq_ediv_of_nonneg _ (Int.pow_nonneg (by decide))]
 rw [Int.natCast_ediv,Int.natCast_pow];rfl
theorem tm2 (a b : Nat) : Int.tmod (a : Int) (b : Int) = ((a % b : Nat) : Int) := by
 rw [Int.tmod_eq_emod_of_nonneg (Int.natCast_nonneg _)];rfl
theorem mulN {n : Nat} (h : n ≤ 3) : IntKind.i64.wrap ((n : Int) * n) = ((n * n : Nat) : Int) := by
 have key : ∀ i ∈ List.range 4,IntKind.i64.wrap ((i : Int) * i) = ((i * i : Nat) : Int) := by decide
 exact key n (List.mem_range.2 (by omega))
theorem quoN {a b : Nat} (h : a / b < 3) : IntKind.i64.wrap (Int.tdiv (a : Int) (b : Int)) = ((a / b : Nat) : Int) := by
 rw [Int.tdiv_eq_ediv_of_nonneg (Int.natCast_nonneg _),show (a : Int) / (b : Int) = ((a / b : Nat) : Int) from rfl]
 have h3 : ∀ n : Nat,n < 3 → IntKind.i64.wrap (n : Int) = (n : Int) := fun n hn => w64 (by omega) (by omega)
 exact h3 _ h
theorem take_min3 {α β : Type} {f : α → β} (l : List α) (n : Nat) : (l.map f).take (min l.length n) = (l.map f).take n := by
 have := take_min (l.map f) n
 rwa [List.length_map] at this
theorem vrI_shut {H : Hp} {j : Nat} (h : j < 10) : Rep H (dVr .i64 (vrI j)) [strV (nmB 120 j),.int .i64 1,.int .i64 (j : Nat)] := by
 have := vr_shut (H := H) (k := .i64) (x := vrI j) (by simp [vrI,nmB])
 have e : (Int64.ofNat j).toInt = (j : Int) := Int64.toInt_ofNat_of_lt (by omega)
 rw [show (vrI j).init.toInt = (j : Int) from e] at this
 exact this
theorem lk_shut4 {H : Hp} (a b : Nat) {n : Nat} (h : n < 4) : Rep H (dLk ⟨abcS a,abcS b,Int64.ofNat n⟩) [strV (abcS a),strV (abcS b),.int .i64 (n : Nat)] := by
 have := lk_shut (H := H) (x := ⟨abcS a,abcS b,Int64.ofNat n⟩) (by simp [abcS]) (by simp [abcS])
 have e : (Int64.ofNat n).toInt = (n : Int) := Int64.toInt_ofNat_of_lt (by omega)
 simp only [e] at this
 exact this
theorem lnkP_no {n k : Nat} {l : Bs} (hk : k < l.length) (h : ¬ 0 < l[k].toNat % 4) : lnkP n l k = [] := by unfold lnkP;rw [getD_at hk,if_neg h]
theorem lnkP_yes {n k : Nat} {l : Bs} (hk : k < l.length) (h : 0 < l[k].toNat % 4) : lnkP n l k = [⟨abcS (k / n),abcS (k % n),Int64.ofNat (l[k].toNat % 4)⟩] := by unfold lnkP;rw [getD_at hk,if_pos h]
theorem okB_mk {p : Pln} {k : Nat} {x : Prt} (hk : k < (prtsP p).length) (hf : p.flags.toNat % 3 ≤ 2) (hpos : 0 < (prtsP p).length ∧ (prtsP p).length ≤ 3) (hi : 0 < intsP x ∧ intsP x ≤ 3) : okB (mkP (arsP p) (p.flags.toNat % 3) k x) := by
 refine ⟨hi.1,hi.2,hf,by simpa [mkP,arsP] using hpos.1,by simpa [mkP,arsP] using hpos.2,by simpa [mkP,arsP] using hk,?_⟩
 intro l hl
 obtain ⟨y,_,rfl⟩ := List.mem_map.1 hl
 have := arP_len y
 exact ⟨by omega,by omega,fun n hn => arP_mem hn⟩
theorem fst_len {p : Pln} {k nf : Nat} {x : Prt} (hk : k < (prtsP p).length) (h : (arsP p).getD k [] = arP x) : (fstP x).length ≤ arL (mkP (arsP p) nf k x) (mkP (arsP p) nf k x).own := by
 show _ ≤ ((arsP p).getD k []).length
 rw [h,arP_len]
 unfold fstP
 split
 ·simp;omega
 ·rw [List.length_take];omega
theorem sec_len {p : Pln} {k nf : Nat} {x : Prt} (hk : k < (prtsP p).length) (h : (arsP p).getD k [] = arP x) : (x.sec.take 3).length ≤ arL (mkP (arsP p) nf k x) (mkP (arsP p) nf k x).own := by
 show _ ≤ ((arsP p).getD k []).length
 rw [h,arP_len,List.length_take];omega
theorem hdsP_pars (M : Mk) (n : Nat) : ∀ (l : List Cd) (k : Nat),hdsP { M with params := n } k l = hdsP M k l
 | [],_ => rfl
 | c :: r,k => by rw [hdsP,hdsP,hdsP_pars M n r (k + 1)];rfl
theorem hdsP_par {H : Hp} {M : Mk} {n : Nat} {l : List Cd} {v : Value} (h : Rep H (.seq 3 ((hdsP { M with params := n } 0 l).map (dHd .i64))) [v]) : Rep H (dVs .i64 (hdsP M 0 l)) [v] := by rwa [hdsP_pars] at h
set_option maxHeartbeats 8000000 in
set_option maxRecDepth 100000 in
theorem build_plan (H : Hp) (p : Pln) (cs : List Value) (w : World) (h : Rep H (dPln p) cs) (hA : Agr H w) : Calls Tryd.prog 8 #[.agg cs.toArray] w fun r w' => ∃ (v : List Value) (H' : Hp),Rep H' (dFt .i64 (buildF p)) v ∧ r = .returned (.agg v.toArray) ∧ Grow H w H' w' := by
 obtain ⟨p1,c1,p2,c2,rfl,h1,h2⟩ := pln_open h
 have hcap1 := h1.cap
 have hcap2 := h2.cap
 refine Sx.enter (H := H) Tryd.func8 rfl Tryd.ntmps8 rfl hA ?_
 refine .sr<|.bx Z Z Z fun b1 => .al Fx.zero41 Z fun b2 => .ns<|.yv (.fieldAddr Z Fx.field25_2) Z<|.yv (.load Z Fx.agg23 (.tail _<|.head _) Z) Z<|.yv (.lenSl Fx.sl23 Z) Z<|.yv (.call Fx.call19 Z (fun W s => least_any H p.comps.length 3 W s.agr)) Z<|.a Z Z<|.ns<|.yv (.fieldAddr Z Fx.field25_2) Z<|.yv (.load Z Fx.agg23 (.tail _<|.head _) Z) Z<|.m Z Z<|.yv (.cutHi2 Fx.sl23 Z Z (h := min p.comps.length 3) Z (by have := h2.len.2.1;omega)) Z<|.a Z Z<|.nt<|.cu (X := Nat × Hp × Value) [(1,_),(2,_)] ⟨rfl,rfl,trivial⟩ (fun z => [(3,.int .i64 (z.1 : Nat)),(4,z.2.2)]) (fun z => z.2.1) (fun z => [.box b1 [.int .u8 p.flags.toNat,.slice p1 p.links.length c1,.slice p2 p.comps.length c2] 25,.box b2 [.string ⟨#[]⟩,.slice none 0 0,.slice none 0 0,.slice none 0 0] 41]) (fun z => z.1 = (prtsP p).length ∧ HUp w H z.2.1 ∧ Rep z.2.1 (.seq 4 ((prtsP p).map dPrt)) [z.2.2]) ?_ fun z hC => ?_
 ·
  refine .sr<|.m Z Z<|.yv (.eql Z Z) Z<|.nt<|.cd Z (fun h31 => ?_) (fun h31 => ?_)
  ·try simp only [dt] at h31
   have h0 : p.comps.length = 0 := by omega
   refine .rg<|.yv (.build Z Fx.bld95) Z<|.bl Z (Fx.bsl23_1 _ _ _ _) Z fun b33 => ?_
   refine Sx.freezeBox fun H1 u1 m1 => ?_
   exact .a Z Z<|.a Z Z<|.nt<|.me (1,H1,_) ⟨rfl,rfl,trivial⟩ ⟨rfl,rfl,trivial⟩ (fun _ s => s.pick [1,0] [_,_] Z Z) ⟨by rw [prtsP,if_pos h0];rfl,u1,by rw [prtsP,if_pos h0];exact Rep.mk (n := 1) (c := 1) m1 (.single (prt_shut (x := ⟨0,0,[],[]⟩) (Rep.empty (by decide)) (Rep.empty (by decide))) Z) Z (Nat.le_refl _) (by decide)⟩
  try simp only [df] at h31
  have h0 : ¬ p.comps.length = 0 := by omega
  exact .sk<|.tN<|.me (min p.comps.length 3,H,_) ⟨rfl,rfl,trivial⟩ ⟨rfl,rfl,trivial⟩ (fun _ s => s.pick [1,0] [_,_] Z Z) ⟨by rw [prtsP,if_neg h0,List.length_take];exact Nat.min_comm _ _,.refl,by rw [prtsP,if_neg h0,List.map_take];have := rep_take2 h2 (hi := min p.comps.length 3) (by omega);rw [take_min3] at this;exact this⟩
 obtain ⟨N,H1,pv⟩ := z
 dsimp only at hC ⊢
 obtain ⟨hN,u1,hps⟩ := hC
 obtain ⟨pp,cp,e,_⟩ := hps.sl
 simp only [List.cons.injEq,and_true,List.length_map] at e
 subst e
 subst hN
 have hpos := prtsP_len p
 have hl1 := h1.up u1.up
 have hpcap := hps.cap
 have hf3 : p.flags.toNat % 3 ≤ 2 := by omega
 refine .sr<|.yv (.build Z (Fx.bld41_0 _)) Z<|.al Fx.zero41 Z fun b5 => .sW .head Z Z Fx.size41 (by simp [Value.oneCell',strV]) Z<|.nt<|.sq<|.sr<|.yv (.fieldAddr Z Fx.field25_0) Z<|.yv (.load Z Fx.agg5 (.tail _<|.head _) Z) Z<|.yv (.rem Z Z (by decide) (c := ((p.flags.toNat % 3 : Nat) : Int)) (by rw [Int.tmod_eq_emod_of_nonneg (by omega)];omega)) Z<|.yv (.conv Z Fx.int5 Fx.int3 (c := ((p.flags.toNat % 3 : Nat) : Int)) (w6 (by omega))) Z<|.ct (X := Value) Fx.call20 Z (fun W s => names_any H1 102 (p.flags.toNat % 3) (by omega) W s.agr) Z fun v39 H39 hn39 u39 => ?_
 obtain ⟨pn39,cn39,e39,_⟩ := hn39.sl
 simp only [List.cons.injEq,and_true,List.length_map,namesB_len] at e39
 subst e39
 refine .yv (.lenSl Fx.sl58 Z) Z<|.m Z Z<|?_
 refine Sx.row0 70 2 ?_
 refine .nt<|.bk<|.lp (X := Nat × Value × List Value) [(1,_),(2,_),(3,_),(4,_),(5,_),(39,_),(40,_)] ⟨rfl,rfl,rfl,rfl,rfl,rfl,rfl,trivial⟩ [_,_] (fun z => [(41,.int .i64 (z.1 : Nat))]) (fun z => H39) (fun z => [.row 70 2 z.2.1 z.1 z.2.2,.box b5 [strV fleetN,z.2.1,.slice none 0 0,.slice none 0 0] 41]) (fun z => z.1 ≤ (p.flags.toNat % 3) ∧ RepZ H39 2 ((flgsP p.flags z.1).map dFg) z.2.2) (fun z => (p.flags.toNat % 3) - z.1) (0,.slice none 0 0,[]) (fun _ s => s) ⟨rfl,trivial⟩ ⟨by simp,RepZ.nil⟩ fun z hC => ?_
 obtain ⟨k,r,xs⟩ := z
 dsimp only at hC ⊢
 obtain ⟨hk0,hz⟩ := hC
 refine .sr<|.yv (.lss Z Z) Z<|.nt<|.sq<|.cd Z (fun h42 => ?_) (fun h42 => ?_)
 ·try simp only [dt] at h42
  have hk : k < (p.flags.toNat % 3) := by omega
  obtain ⟨bE,oE,hpE,mE⟩ := name_at hn39 (k := k) hk
  subst hpE
  exact .sk<|.tN<|.sq<|.bk<|.sr<|.m Z Z<|.yv (.indexSl Fx.sl58 Z Z (i := k) Z (by omega) (q := oE + k * 1) Z) Z<|.yv (.loadM Z Fx.agg9 mE (k := 0) Z Z) Z<|.a Z Z<|.a Z Z<|.nt<|.fl (trip := [(_,_,_),(_,_,_),(_,_,_),(_,_,_),(_,_,_),(_,_,_),(_,_,_),(_,_,_),(_,_,_),(_,_,_),(_,_,_),(_,_,_)]) 12 [(0,0),(1,0),(2,0),(3,0),(4,0),(5,0),(6,0),(7,0),(8,0),(9,0),(10,0),(11,1)] (by kernel_rfl) (by kernel_rfl) Z<|.yv (.fieldAddr Z Fx.field41_1) Z<|.yv (.load Z Fx.agg37 (.tail _<|.head _) Z) Z<|.m Z Z<|.yv (.fieldAddr Z Fx.field25_0) Z<|.yv (.load Z Fx.agg5 (.tail _<|.tail _<|.head _) Z) Z<|.m Z Z<|.yv (.add Z Z (c := ((4 + k : Nat) : Int)) ((w6 (by omega)).trans (by omega))) Z<|.yv (.shr Z Z (m := 4 + k) Z (by show 4 + k ≤ 8;omega) (c := ((p.flags.toNat / 2 ^ (4 + k) : Nat) : Int)) (fd2 _ _)) Z<|.yv (.rem Z Z (by decide) (c := ((p.flags.toNat / 2 ^ (4 + k) % 2 : Nat) : Int)) (tm2 _ 2)) Z<|.yv (.eql Z Z) Z<|.yv (.build Z (Fx.bld70_0_1 _ _)) Z<|.bl Z (Fx.bsl37_1 _ _) Z fun b57 => .fn (tl := [_,_,_]) Z<|.ap (news := [strV (nmB 102 k),.bool (flgP p.flags k).init]) Fx.row37 Z (fun _ => (.tail<|.head)) Z (.box (.head _) z0) Z (by simp [Value.oneCell',strV,abcS]) (by simp [maxLen];omega) (by omega) Z fun r58 _ => .ra (.tail _<|.head _) fun p58 c58 e58 => .yv (.fieldAddr Z Fx.field41_1) Z<|.st (.tail<|.tail<|.head) Z Z Fx.size37 (by rw [e58];rfl) (nb Z) Z<|.nl<|.bN<|.tN<|.rg<|.yv (.add Z Z (w6 (by omega))) Z<|.m Z Z<|.nt<|.ag (x := (k,r,xs)) (k + 1,r58,xs ++ [strV (nmB 102 k),.bool (flgP p.flags k).init]) ⟨rfl,trivial⟩ ⟨rfl,rfl,rfl,rfl,rfl,rfl,rfl,trivial⟩ (fun _ s => (s.pick [1,2,3,4] _ Z Z)) ⟨by dsimp only;omega,by dsimp only;rw [flgsP_succ,List.map_append];exact hz.snoc (fg_shut (x := flgP p.flags k) (by simp [flgP,nmB])) Z⟩ (by dsimp only;omega)
 try simp only [df] at h42
 obtain rfl : k = (p.flags.toNat % 3) := by omega
 refine Sx.freezeSeq (ds := (flgsP p.flags (p.flags.toNat % 3)).map dFg) (by simp [flgsP_len]) hz fun H4 p4 c4 u4 e4 hfl => ?_
 subst e4
 refine .ex<|.tE<|.tE<|.bE<|.tN<|.sr<|.bl Z (Fx.bsl58_3 _ _ _) Z fun b61 => ?_
 refine Sx.freezeBox fun H5 u5 m5 => ?_
 refine .a Z Z<|.nt<|.sq<|.sr<|.a Z Z<|?_
 refine Sx.row0 73 3 ?_
 have hl5 := h1.up (u1.trans (u39.trans (u4.trans u5))).up
 obtain ⟨NN,hNN⟩ : ∃ NN,NN = (prtsP p).length * (prtsP p).length := ⟨_,rfl⟩
 have hN9 : NN ≤ 9 := by rw [hNN];exact Nat.mul_le_mul hpos.2 hpos.2
 refine .nt<|.bk<|.lp (X := Nat × Nat × Value × List Value) [(1,_),(2,_),(3,_),(4,_),(5,_),(8,_)] ⟨rfl,rfl,rfl,rfl,rfl,rfl,trivial⟩ [_,_] (fun z => [(9,.int .i64 (z.1 : Nat))]) (fun z => H5) (fun z => [.row 73 3 z.2.2.1 z.2.1 z.2.2.2,.box b5 [strV fleetN,.slice p4 (p.flags.toNat % 3) c4,z.2.2.1,.slice none 0 0] 41]) (fun z => z.1 ≤ p.links.length ∧ z.1 ≤ NN ∧ z.2.1 = (lnksP (prtsP p).length p.links z.1).length ∧ RepZ H5 3 ((lnksP (prtsP p).length p.links z.1).map dLk) z.2.2.2) (fun z => p.links.length - z.1) (0,0,.slice none 0 0,[]) (fun _ s => s) ⟨rfl,trivial⟩ ⟨by simp,by simp,rfl,RepZ.nil⟩ fun z hC => ?_
 obtain ⟨k,m,r,xs⟩ := z
 dsimp only at hC ⊢
 obtain ⟨hk0,hk1,hm,hz⟩ := hC
 have hmk := lnksP_len (prtsP p).length p.links k
 refine .sq<|.cu (X := Bool) [(1,_),(2,_),(3,_),(4,_),(5,_),(8,_),(9,_)] ⟨rfl,rfl,rfl,rfl,rfl,rfl,rfl,trivial⟩ (fun z => [(73,.bool z)]) (fun z => H5) (fun z => [.row 73 3 r m xs,.box b5 [strV fleetN,.slice p4 (p.flags.toNat % 3) c4,r,.slice none 0 0] 41,.box b2 [.string ⟨#[]⟩,.slice none 0 0,.slice none 0 0,.slice none 0 0] 41,.box b1 [.int .u8 p.flags.toNat,.slice p1 p.links.length c1,.slice p2 p.comps.length c2] 25]) (fun z => z = decide (k < p.links.length ∧ k < NN)) ?_ fun z hC => ?_
 ·
  refine .rg<|.m Z Z<|.yv (.fieldAddr Z Fx.field25_1) Z<|.yv (.load Z Fx.agg22 (.tail _<|.tail _<|.head _) Z) Z<|.yv (.lenSl Fx.sl22 Z) Z<|.yv (.lss Z Z) Z<|.m Z Z<|.b2 (fun h67 => ?_) (fun h67 => ?_)
  ·try simp only [dt] at h67
   exact .gd Z Z<|.yv (.move Z) Z<|.gd Z Z<|.yv (.move Z) Z<|.gd Z Z<|.yv (.move Z) Z<|.gd Z Z<|.yv (.mul Z Z (c := ((NN : Nat) : Int)) (by rw [hNN];exact mulN hpos.2)) Z<|.gd Z Z<|.yv (.lss Z Z) Z<|.yv (.pickT Z Z) Z<|.nt<|.me _ ⟨rfl,trivial⟩ ⟨rfl,rfl,rfl,rfl,rfl,rfl,rfl,trivial⟩ (fun _ s => s.pick [0,1,3,2] [_,_,_,_] Z Z) (by rw [Bool.eq_iff_iff,decide_eq_true_eq];first | (rw [decide_eq_true_eq];omega) | exact ⟨fun _ => by omega,fun _ => rfl⟩ | exact ⟨fun h => (by cases h),fun h => by omega⟩)
  try simp only [df] at h67
  exact .gF Z Z Z Z<|.gF Z Z Z Z<|.gF Z Z Z Z<|.gF Z Z Z Z<|.gF Z Z Z Z<|.yv (.pickF Z Z) Z<|.nt<|.me _ ⟨rfl,trivial⟩ ⟨rfl,rfl,rfl,rfl,rfl,rfl,rfl,trivial⟩ (fun _ s => s.pick [0,1,3,2] [_,_,_,_] Z Z) (by rw [Bool.eq_iff_iff,decide_eq_true_eq];first | (rw [decide_eq_true_eq];omega) | exact ⟨fun _ => by omega,fun _ => rfl⟩ | exact ⟨fun h => (by cases h),fun h => by omega⟩)
 have e73 := hC
 refine .cd Z (fun h73 => ?_) (fun h73 => ?_)
 ·have q73 : k < p.links.length ∧ k < NN := by rw [h73] at e73;exact of_decide_eq_true e73.symm
  obtain ⟨hkl,hkn⟩ := q73
  obtain ⟨bE,oE,cE,hpE,rE,lE,mE⟩ := hl5.elem (map_at (f := dU8) hkl)
  cases hpE
  obtain rfl := u8_open rE
  have hdv : k / (prtsP p).length < 3 := by rw [Nat.div_lt_iff_lt_mul hpos.1];calc k < NN := hkn
   _ = (prtsP p).length * (prtsP p).length := hNN
   _ ≤ 3 * (prtsP p).length := Nat.mul_le_mul_right _ hpos.2
  have hmd : k % (prtsP p).length < 3 := Nat.lt_of_lt_of_le (Nat.mod_lt _ hpos.1) hpos.2
  refine .sk<|.tN<|.sq<|.bk<|.sr<|.yv (.fieldAddr Z Fx.field25_1) Z<|.yv (.load Z Fx.agg22 (.tail _<|.tail _<|.tail _<|.head _) Z) Z<|.m Z Z<|.yv (.indexSl Fx.sl22 Z Z (i := k) Z (by omega) (q := oE + k * 1) Z) Z<|.yv (.loadM Z Fx.agg5 mE (k := 0) Z Z) Z<|.yv (.rem Z Z (by decide) (c := ((p.links[k].toNat % 4 : Nat) : Int)) (by rw [Int.tmod_eq_emod_of_nonneg (by omega)];omega)) Z<|.yv (.gtr Z Z) Z<|.nt<|.cd Z (fun h82 => ?_) (fun h82 => ?_)
  ·try simp only [dt] at h82
   have hq : 0 < p.links[k].toNat % 4 := by omega
   exact .fl (trip := [(_,_,_),(_,_,_),(_,_,_),(_,_,_),(_,_,_),(_,_,_),(_,_,_),(_,_,_),(_,_,_),(_,_,_),(_,_,_),(_,_,_),(_,_,_),(_,_,_),(_,_,_),(_,_,_),(_,_,_),(_,_,_),(_,_,_),(_,_,_),(_,_,_),(_,_,_),(_,_,_)]) 23 [(0,0),(1,0),(2,0),(3,0),(4,0),(5,0),(6,0),(7,0),(8,0),(9,0),(10,0),(11,0),(12,0),(13,0),(14,0),(15,0),(16,0),(17,0),(18,0),(19,0),(20,0),(21,0),(22,1)] (by kernel_rfl) (by kernel_rfl) Z<|.yv (.fieldAddr Z Fx.field41_2) Z<|.yv (.load Z Fx.agg38 (.tail _<|.head _) Z) Z<|.m Z Z<|.m Z Z<|.m Z Z<|.yv (.quo Z Z (by omega) (c := ((k / (prtsP p).length : Nat) : Int)) (quoN hdv)) Z<|.yv (.indexSl Fx.sl58 Z Z (i := k / (prtsP p).length) Z hdv (q := k / (prtsP p).length) (by omega)) Z<|.yv (.loadM Z Fx.agg9 m5 (k := k / (prtsP p).length) (by omega) (abc_at hdv)) Z<|.m Z Z<|.m Z Z<|.m Z Z<|.yv (.rem Z Z (by omega) (c := ((k % (prtsP p).length : Nat) : Int)) (tm2 _ _)) Z<|.yv (.indexSl Fx.sl58 Z Z (i := k % (prtsP p).length) Z hmd (q := k % (prtsP p).length) (by omega)) Z<|.yv (.loadM Z Fx.agg9 m5 (k := k % (prtsP p).length) (by omega) (abc_at hmd)) Z<|.yv (.fieldAddr Z Fx.field25_1) Z<|.yv (.load Z Fx.agg22 (.tail _<|.tail _<|.tail _<|.head _) Z) Z<|.m Z Z<|.yv (.indexSl Fx.sl22 Z Z (i := k) Z (by omega) (q := oE + k * 1) Z) Z<|.yv (.loadM Z Fx.agg5 mE (k := 0) Z Z) Z<|.yv (.rem Z Z (by decide) (c := ((p.links[k].toNat % 4 : Nat) : Int)) (by rw [Int.tmod_eq_emod_of_nonneg (by omega)];omega)) Z<|.yv (.conv Z Fx.int5 Fx.int3 (c := ((p.links[k].toNat % 4 : Nat) : Int)) (w6 (by omega))) Z<|.yv (.build Z (Fx.bld73_0_1_2 _ _ _)) Z<|.bl Z (Fx.bsl38_1 _ _ _) Z fun b105 => .fn (tl := [_,_,_]) Z<|.ap (news := [strV (abcS (k / (prtsP p).length)),strV (abcS (k % (prtsP p).length)),.int .i64 (p.links[k].toNat % 4 : Nat)]) Fx.row38 Z (fun _ => (.tail<|.head)) Z (.box (.head _) z0) Z (by simp [Value.oneCell',strV,abcS]) (by simp [maxLen];omega) (by omega) Z fun r106 _ => .ra (.tail _<|.head _) fun p106 c106 e106 => .yv (.fieldAddr Z Fx.field41_2) Z<|.st (.tail<|.tail<|.head) Z Z Fx.size38 (by rw [e106];rfl) (nb Z) Z<|.nl<|.bN<|.tN<|.rg<|.m Z Z<|.yv (.add Z Z (w6 (by omega))) Z<|.a Z Z<|.nt<|.ag (x := (k,m,r,xs)) (k + 1,m + 1,r106,xs ++ [strV (abcS (k / (prtsP p).length)),strV (abcS (k % (prtsP p).length)),.int .i64 (p.links[k].toNat % 4 : Nat)]) ⟨rfl,trivial⟩ ⟨rfl,rfl,rfl,rfl,rfl,rfl,trivial⟩ (fun _ s => (s.pick [1,2,4,3] _ Z Z)) (by have hL := lnkP_yes (n := (prtsP p).length) hkl hq;exact ⟨by dsimp only;omega,by dsimp only;omega,by dsimp only;rw [lnksP_succ,hL];simp [hm],by dsimp only;rw [lnksP_succ,hL,List.map_append];exact hz.snoc (lk_shut4 _ _ (by omega)) Z⟩) (by dsimp only;omega)
  try simp only [df] at h82
  have hq : ¬ 0 < p.links[k].toNat % 4 := by omega
  exact .sk<|.bN<|.tN<|.rg<|.m Z Z<|.yv (.add Z Z (w6 (by omega))) Z<|.a Z Z<|.nt<|.ag (x := (k,m,r,xs)) (k + 1,m,r,xs) ⟨rfl,trivial⟩ ⟨rfl,rfl,rfl,rfl,rfl,rfl,trivial⟩ (fun _ s => (s.pick [0,1,3,2] _ Z Z)) (by have hL := lnkP_no (n := (prtsP p).length) hkl hq;exact ⟨by dsimp only;omega,by dsimp only;omega,by dsimp only;rw [lnksP_succ,hL,List.append_nil];exact hm,by dsimp only;rw [lnksP_succ,hL,List.append_nil];exact hz⟩) (by dsimp only;omega)
 have q73 : ¬ (k < p.links.length ∧ k < NN) := by rw [h73] at e73;exact of_decide_eq_false e73.symm
 have hkm : k = min p.links.length ((prtsP p).length * (prtsP p).length) := by rw [← hNN];omega
 subst hkm
 subst hm
 refine Sx.freezeSeq (ds := (lnksP (prtsP p).length p.links (min p.links.length ((prtsP p).length * (prtsP p).length))).map dLk) (by simp) hz fun H6 p6 c6 u6 e6 hlk => ?_
 subst e6
 have hfl6 := hfl.up (u5.trans u6).up
 have hps6 := hps.up (u39.trans (u4.trans (u5.trans u6))).up
 have m56 := m5.up u6.up
 refine .ex<|.tE<|.tE<|.bE<|.tN<|.sr<|.a Z Z<|?_
 refine Sx.row0 98 1 ?_
 refine .nt<|.sq<|.sr<|.m Z Z<|.yv (.lenSl Fx.sl23 Z) Z<|.m Z Z<|.nt<|.bk<|.lp (X := Nat × Hp × Value × List Value) [(2,_),(4,_),(5,_),(8,_),(108,_),(109,_)] ⟨rfl,rfl,rfl,rfl,rfl,rfl,trivial⟩ [_,_,_] (fun z => [(10,z.2.2.1),(110,.int .i64 (z.1 : Nat))]) (fun z => z.2.1) (fun z => [.row 98 1 z.2.2.1 z.1 z.2.2.2]) (fun z => z.1 ≤ (prtsP p).length ∧ HUp w H6 z.2.1 ∧ RepZ z.2.1 1 ((((prtsP p).take z.1).map arP).map dAr) z.2.2.2) (fun z => (prtsP p).length - z.1) (0,H6,.slice none 0 0,[]) (fun _ s => s) ⟨rfl,rfl,trivial⟩ ⟨by simp,.refl,RepZ.nil⟩ fun z hC => ?_
 obtain ⟨k,H2,r,xs⟩ := z
 dsimp only at hC ⊢
 obtain ⟨hk0,u2,hz⟩ := hC
 refine .sr<|.yv (.lss Z Z) Z<|.nt<|.sq<|.cd Z (fun h111 => ?_) (fun h111 => ?_)
 ·try simp only [dt] at h111
  have hk : k < (prtsP p).length := by omega
  obtain ⟨bE,oE,cE,hpE,rE,lE,mE⟩ := (hps6.up u2.up).elem (map_at (f := dPrt) hk)
  cases hpE
  refine .sk<|.tN<|.sq<|.bk<|.sr<|.yv (.indexSl Fx.sl23 Z Z Z (by omega) (q := oE + k * 4) Z) Z<|.yv (.loadMW Z Fx.agg95 mE lE) Z<|.al Fx.zero95 Z fun b12 => .sV .head Z Z Fx.size95 lE rE.one Z<|.nt<|.rg<|.m Z Z<|.yv (.loadW Z Fx.agg95 (.head _) lE) Z<|.ct (X := Value) Fx.call21 Z (fun W s => arity_prt H2 _ cE W rE s.agr) Z fun v116 H116 hn116 u116 => ?_
  obtain ⟨pn116,cn116,e116,_⟩ := hn116.sl
  simp only [List.cons.injEq,and_true,List.length_map] at e116
  subst e116
  exact .bl Z (Fx.bsl97_1 _ _ _) Z fun b117 => .ap (news := [.slice pn116 (arP (prtsP p)[k]).length cn116]) Fx.row97 Z (fun _ => (.tail<|.tail<|.head)) Z (.box (.head _) z0) Z (by simp [Value.oneCell']) (by simp [maxLen];omega) (by omega) Z fun r118 _ => .a Z Z<|.nl<|.bN<|.tN<|.rg<|.yv (.add Z Z (w6 (by omega))) Z<|.m Z Z<|.nt<|.ag (x := (k,H2,r,xs)) (k + 1,H116,r118,xs ++ [.slice pn116 (arP (prtsP p)[k]).length cn116]) ⟨rfl,rfl,trivial⟩ ⟨rfl,rfl,rfl,rfl,rfl,rfl,trivial⟩ (fun _ s => (s.pick [2,3,4,5] _ Z Z)) ⟨by dsimp only;omega,u2.trans u116,by dsimp only;rw [take_snoc hk,List.map_append,List.map_append];exact (hz.up u116.up).snoc hn116 Z⟩ (by dsimp only;omega)
 try simp only [df] at h111
 obtain rfl : k = (prtsP p).length := by omega
 rw [List.take_length] at hz
 refine Sx.freezeSeq (ds := ((prtsP p).map arP).map dAr) (by simp) hz fun H7 p7 c7 u7 e7 har => ?_
 subst e7
 have u67 := u2.trans u7
 have hfl7 := hfl6.up u67.up
 have hlk7 := hlk.up u67.up
 have hps7 := hps6.up u67.up
 have m57 := m56.up u67.up
 refine .ex<|.tE<|.tE<|.bE<|.tN<|.sq<|.sr<|.m Z Z<|.yv (.lenSl Fx.sl23 Z) Z<|.m Z Z<|?_
 refine Sx.row0 49 3 ?_
 refine .nt<|.bk<|.lp (X := Nat × Hp × Value × List Value) [(2,_),(5,_),(8,_),(10,_),(120,_),(121,_)] ⟨rfl,rfl,rfl,rfl,rfl,rfl,trivial⟩ [_,_] (fun z => [(122,.int .i64 (z.1 : Nat))]) (fun z => z.2.1) (fun z => [.row 49 3 z.2.2.1 z.1 z.2.2.2,.box b5 [strV fleetN,.slice p4 (p.flags.toNat % 3) c4,.slice p6 (lnksP (prtsP p).length p.links (min p.links.length ((prtsP p).length * (prtsP p).length))).length c6,z.2.2.1] 41]) (fun z => z.1 ≤ (prtsP p).length ∧ HUp w H7 z.2.1 ∧ RepZ z.2.1 3 ((cmpsP (arsP p) (p.flags.toNat % 3) ((prtsP p).take z.1)).map (dCp .i64)) z.2.2.2) (fun z => (prtsP p).length - z.1) (0,H7,.slice none 0 0,[]) (fun _ s => s) ⟨rfl,trivial⟩ ⟨by simp,.refl,RepZ.nil⟩ fun z hC => ?_
 obtain ⟨k,H2,rc,xs⟩ := z
 dsimp only at hC ⊢
 obtain ⟨hk0,u2,hz⟩ := hC
 refine .sr<|.yv (.lss Z Z) Z<|.nt<|.sq<|.cd Z (fun h123 => ?_) (fun h123 => ?_)
 ·try simp only [dt] at h123
  have hk : k < (prtsP p).length := by omega
  obtain ⟨bE,oE,cE,hpE,rE,lE,mE⟩ := (hps7.up u2.up).elem (map_at (f := dPrt) hk)
  cases hpE
  have hpa : (arsP p).getD k [] = arP (prtsP p)[k] := by unfold arsP;simp [hk]
  generalize hx : (prtsP p)[k] = x at rE hpa
  obtain ⟨q1,d1,q2,d2,rfl,g1,g2⟩ := prt_open rE
  have hcap1 := g1.cap
  have hcap2 := g2.cap
  have hints : 0 < intsP x ∧ intsP x ≤ 3 := by unfold intsP;omega
  have htabs : tabsP x ≤ 1 := by unfold tabsP;omega
  have m52 := m57.up u2.up
  have k3 : k < 3 := by omega
  refine .sk<|.tN<|.sq<|.bk<|.sr<|.m Z Z<|.yv (.indexSl Fx.sl23 Z Z Z (by omega) (q := oE + k * 4) Z) Z<|.yv (.loadMW Z Fx.agg95 mE Z) Z<|.al Fx.zero95 Z fun b14 => .a Z Z<|.sW .head Z Z Fx.size95 (by simp [Value.oneCell',strV]) Z<|.ns<|.m Z Z<|.m Z Z<|.yv (.indexSl Fx.sl58 Z Z (i := k) Z k3 (q := k) (by omega)) Z<|.yv (.loadM Z Fx.agg9 m52 (k := k) (by omega) (abc_at k3)) Z<|.yv (.build Z (Fx.bld49_0 _)) Z<|.al Fx.zero49 Z fun b15 => .sW .head Z Z Fx.size49 (by simp [Value.oneCell',strV]) Z<|.nt<|.sq<|.sr<|.yv (.fieldAddr Z Fx.field95_0) Z<|.yv (.load Z Fx.agg5 (.tail _<|.head _) Z) Z<|.yv (.rem Z Z (by decide) (c := ((x.ints.toNat % 3 : Nat) : Int)) (by rw [Int.tmod_eq_emod_of_nonneg (by omega)];omega)) Z<|.yv (.conv Z Fx.int5 Fx.int3 (c := ((x.ints.toNat % 3 : Nat) : Int)) (w6 (by omega))) Z<|.yv (.add Z Z (c := ((intsP x : Nat) : Int)) ((w6 (by omega)).trans (by unfold intsP;omega))) Z<|.ct (X := Value) Fx.call20 Z (fun W s => names_any H2 120 (intsP x) (by omega) W s.agr) Z fun v137 H137 hn137 u137 => ?_
  obtain ⟨pn137,cn137,e137,_⟩ := hn137.sl
  simp only [List.cons.injEq,and_true,List.length_map,namesB_len] at e137
  subst e137
  refine .yv (.lenSl Fx.sl58 Z) Z<|.m Z Z<|?_
  refine Sx.row0 51 3 ?_
  refine .nt<|.bk<|.lp (X := Nat × Value × List Value) [(2,_),(5,_),(8,_),(10,_),(13,_),(14,_),(15,_),(120,_),(121,_),(122,_),(137,_),(138,_)] ⟨rfl,rfl,rfl,rfl,rfl,rfl,rfl,rfl,rfl,rfl,rfl,rfl,trivial⟩ [_,_,_,_,_] (fun z => [(139,.int .i64 (z.1 : Nat))]) (fun z => H137) (fun z => [.row 51 3 z.2.1 z.1 z.2.2,.box b15 [strV (abcS k),z.2.1,.slice none 0 0] 49]) (fun z => z.1 ≤ intsP x ∧ RepZ H137 3 ((vrsI z.1).map (dVr .i64)) z.2.2) (fun z => intsP x - z.1) (0,.slice none 0 0,[]) (fun _ s => s) ⟨rfl,trivial⟩ ⟨by simp,RepZ.nil⟩ fun z hC => ?_
  obtain ⟨j,rv,ys⟩ := z
  dsimp only at hC ⊢
  obtain ⟨hj0,hzv⟩ := hC
  refine .sr<|.yv (.lss Z Z) Z<|.nt<|.sq<|.cd Z (fun h140 => ?_) (fun h140 => ?_)
  ·try simp only [dt] at h140
   have hj : j < intsP x := by omega
   obtain ⟨bN,oN,hpN,mN⟩ := name_at hn137 (k := j) hj
   subst hpN
   exact .sk<|.tN<|.sq<|.bk<|.sr<|.m Z Z<|.yv (.indexSl Fx.sl58 Z Z (i := j) Z (by omega) (q := oN + j * 1) Z) Z<|.yv (.loadM Z Fx.agg9 mN (k := 0) Z Z) Z<|.a Z Z<|.a Z Z<|.nt<|.rg<|.yv (.fieldAddr Z Fx.field49_1) Z<|.yv (.load Z Fx.agg46 (.tail _<|.head _) Z) Z<|.m Z Z<|.m Z Z<|.yv (.build Z (Fx.bld51_0_1_2 _ _ _)) Z<|.bl Z (Fx.bsl46_1 _ _ _) Z fun b149 => .ap (news := [strV (nmB 120 j),.int .i64 1,.int .i64 (j : Nat)]) Fx.row46 Z (fun _ => (.tail<|.head)) Z (.box (.head _) z0) Z (by simp [Value.oneCell',strV,abcS]) (by simp [maxLen];omega) (by omega) Z fun r150 _ => .ra (.tail _<|.head _) fun p150 c150 e150 => .yv (.fieldAddr Z Fx.field49_1) Z<|.st (.tail<|.tail<|.head) Z Z Fx.size46 (by rw [e150];rfl) (nb Z) Z<|.nl<|.bN<|.tN<|.rg<|.yv (.add Z Z (w6 (by omega))) Z<|.m Z Z<|.nt<|.ag (x := (j,rv,ys)) (j + 1,r150,ys ++ [strV (nmB 120 j),.int .i64 1,.int .i64 (j : Nat)]) ⟨rfl,trivial⟩ ⟨rfl,rfl,rfl,rfl,rfl,rfl,rfl,rfl,rfl,rfl,rfl,rfl,trivial⟩ (fun _ s => (s.pick [1,2,3,4,5,6,7] _ Z Z)) ⟨by dsimp only;omega,by dsimp only;rw [vrsI_succ,List.map_append];exact hzv.snoc (vrI_shut (by omega)) Z⟩ (by dsimp only;omega)
  try simp only [df] at h140
  obtain rfl : j = intsP x := by omega
  refine .ex<|.tE<|.tE<|.bE<|.tN<|.sr<|.yv (.fieldAddr Z Fx.field49_1) Z<|.yv (.load Z Fx.agg46 (.tail _<|.head _) Z) Z<|.yv (.build Z (Fx.bld51_0_1_2 _ _ _)) Z<|.bl Z (Fx.bsl46_1 _ _ _) Z fun b156 => .ap (news := [strV [98,48],.int .i64 2,.int .i64 0]) Fx.row46 Z (fun _ => (.tail<|.head)) Z (.box (.head _) z0) Z (by simp [Value.oneCell',strV,abcS]) (by simp [maxLen];omega) (by omega) Z fun r157 _ => .ra (.tail _<|.head _) fun p157 c157 e157 => .yv (.fieldAddr Z Fx.field49_1) Z<|.st (.tail<|.tail<|.head) Z Z Fx.size46 (by rw [e157];rfl) (nb Z) Z<|.nt<|.sq<|.sr<|.yv (.fieldAddr Z Fx.field95_1) Z<|.yv (.load Z Fx.agg5 (.tail _<|.tail _<|.tail _<|.head _) Z) Z<|.yv (.rem Z Z (by decide) (c := ((x.tables.toNat % 2 : Nat) : Int)) (by rw [Int.tmod_eq_emod_of_nonneg (by omega)];omega)) Z<|.yv (.conv Z Fx.int5 Fx.int3 (c := ((tabsP x : Nat) : Int)) ((w6 (by omega)).trans (by unfold tabsP;omega))) Z<|.ct (X := Value) Fx.call20 Z (fun W s => names_any H137 116 (tabsP x) (by omega) W s.agr) Z fun v163 H163 hn163 u163 => ?_
  obtain ⟨pn163,cn163,e163,_⟩ := hn163.sl
  simp only [List.cons.injEq,and_true,List.length_map,namesB_len] at e163
  subst e163
  refine .yv (.lenSl Fx.sl58 Z) Z<|.m Z Z<|.nt<|.bk<|.pm [1,2,0,3,4,5,6,7] [_,_,_,_,_,_,_,_] Z Z<|.lp (X := Nat × Value × List Value) [(2,_),(5,_),(8,_),(10,_),(13,_),(14,_),(15,_),(120,_),(121,_),(122,_),(163,_),(164,_)] ⟨rfl,rfl,rfl,rfl,rfl,rfl,rfl,rfl,rfl,rfl,rfl,rfl,trivial⟩ [_,_,_,_,_,_] (fun z => [(165,.int .i64 (z.1 : Nat))]) (fun z => H163) (fun z => [.row 51 3 z.2.1 (intsP x + 1 + z.1) z.2.2,.box b15 [strV (abcS k),z.2.1,.slice none 0 0] 49]) (fun z => z.1 ≤ tabsP x ∧ RepZ H163 3 ((vrsI (intsP x) ++ [vrB] ++ vrsT z.1).map (dVr .i64)) z.2.2) (fun z => tabsP x - z.1) (0,r157,ys ++ [strV [98,48],.int .i64 2,.int .i64 0]) (fun _ s => s) ⟨rfl,trivial⟩ ⟨by simp,by dsimp only;rw [show vrsT 0 = [] from Z,List.append_nil,List.map_append];exact (hzv.up u163.up).snoc (vr_shut (x := vrB) (by decide)) Z⟩ fun z hC => ?_
  obtain ⟨i,rv2,zs⟩ := z
  dsimp only at hC ⊢
  obtain ⟨hi0,hzt⟩ := hC
  refine .sr<|.yv (.lss Z Z) Z<|.nt<|.sq<|.cd Z (fun h166 => ?_) (fun h166 => ?_)
  ·try simp only [dt] at h166
   have hi : i < tabsP x := by omega
   obtain ⟨bN,oN,hpN,mN⟩ := name_at hn163 (k := i) hi
   subst hpN
   exact .sk<|.tN<|.sq<|.bk<|.sr<|.yv (.indexSl Fx.sl58 Z Z (i := i) Z (by omega) (q := oN + i * 1) Z) Z<|.yv (.loadM Z Fx.agg9 mN (k := 0) Z Z) Z<|.a Z Z<|.nt<|.rg<|.yv (.fieldAddr Z Fx.field49_1) Z<|.yv (.load Z Fx.agg46 (.tail _<|.head _) Z) Z<|.m Z Z<|.yv (.build Z (Fx.bld51_0_1_2 _ _ _)) Z<|.bl Z (Fx.bsl46_1 _ _ _) Z fun b173 => .ap (news := [strV (nmB 116 i),.int .i64 3,.int .i64 0]) Fx.row46 Z (fun _ => (.tail<|.head)) Z (.box (.head _) z0) Z (by simp [Value.oneCell',strV,abcS]) (by simp [maxLen];omega) (by omega) Z fun r174 _ => .ra (.tail _<|.head _) fun p174 c174 e174 => .yv (.fieldAddr Z Fx.field49_1) Z<|.st (.tail<|.tail<|.head) Z Z Fx.size46 (by rw [e174];rfl) (nb Z) Z<|.nl<|.bN<|.tN<|.rg<|.yv (.add Z Z (w6 (by omega))) Z<|.m Z Z<|.nt<|.ag (x := (i,rv2,zs)) (i + 1,r174,zs ++ [strV (nmB 116 i),.int .i64 3,.int .i64 0]) ⟨rfl,trivial⟩ ⟨rfl,rfl,rfl,rfl,rfl,rfl,rfl,rfl,rfl,rfl,rfl,rfl,trivial⟩ (fun _ s => (s.pick [1,2,3,4,5,6,7,8] _ Z Z)) ⟨by dsimp only;omega,by dsimp only;rw [vrsT_succ,← List.append_assoc,List.map_append];exact hzt.snoc (vr_shut (x := vrT0 i) (by simp [vrT0,nmB])) Z⟩ (by dsimp only;omega)
  try simp only [df] at h166
  obtain rfl : i = tabsP x := by omega
  refine Sx.freezeSeq (ds := (varsP x).map (dVr .i64)) (by simp [varsP,vrsI_len,vrsT_len];omega) hzt fun H8 pV cV u8 e8 hV => ?_
  subst e8
  have uB := u137.trans (u163.trans u8)
  have g1b := g1.up uB.up
  have g2b := g2.up uB.up
  have harb := har.up (u2.trans uB).up
  refine .ex<|.tE<|.tE<|.bE<|.tN<|.sr<|.yv (.fieldAddr Z Fx.field95_0) Z<|.yv (.load Z Fx.agg5 (.tail _<|.tail _<|.head _) Z) Z<|.yv (.rem Z Z (by decide) (c := ((x.ints.toNat % 3 : Nat) : Int)) (by rw [Int.tmod_eq_emod_of_nonneg (by omega)];omega)) Z<|.yv (.conv Z Fx.int5 Fx.int3 (c := ((x.ints.toNat % 3 : Nat) : Int)) (w6 (by omega))) Z<|.yv (.add Z Z (c := ((intsP x : Nat) : Int)) ((w6 (by omega)).trans (by unfold intsP;omega))) Z<|.yv (.fieldAddr Z Fx.field95_1) Z<|.yv (.load Z Fx.agg5 (.tail _<|.tail _<|.head _) Z) Z<|.yv (.rem Z Z (by decide) (c := ((x.tables.toNat % 2 : Nat) : Int)) (by rw [Int.tmod_eq_emod_of_nonneg (by omega)];omega)) Z<|.yv (.conv Z Fx.int5 Fx.int3 (c := ((tabsP x : Nat) : Int)) ((w6 (by omega)).trans (by unfold tabsP;omega))) Z<|.yv (.fieldAddr Z Fx.field41_1) Z<|.yv (.load Z Fx.agg37 (.tail _<|.tail _<|.tail _<|.tail _<|.head _) Z) Z<|.yv (.lenSl Fx.sl37 Z) Z<|.m Z Z<|.m Z Z<|.yv (.build Z (Fx.bld101_0_1_2_3_4 _ _ _ _ _ _ _)) Z<|.al Fx.zero101 Z fun b20 => .sW .head Z Z Fx.size101 (by simp [Value.oneCell',strV]) Z<|.nt<|.sq<|.fl (trip := [(_,_,_),(_,_,_),(_,_,_),(_,_,_),(_,_,_),(_,_,_),(_,_,_)]) 7 [(0,0),(1,0),(2,0),(3,0),(4,0),(5,0),(6,0)] (by kernel_rfl) (by kernel_rfl) Z<|.yv (.fieldAddr Z Fx.field95_2) Z<|.yv (.load Z Fx.agg93 (.tail _<|.tail _<|.tail _<|.head _) Z) Z<|.yv (.fieldAddr Z Fx.field95_2) Z<|.yv (.load Z Fx.agg93 (.tail _<|.tail _<|.tail _<|.head _) Z) Z<|.yv (.lenSl Fx.sl93 Z) Z<|.yv (.call Fx.call19 Z (fun W s => least_any H8 x.hs.length 3 W s.agr)) Z<|.yv (.cutHi2 Fx.sl93 Z Z (h := min x.hs.length 3) Z (by have := g1b.len.2.1;omega)) Z<|.fn (tl := [_]) Z<|.a Z Z<|.nt<|.cu (X := Hp × Value) [(2,_),(5,_),(8,_),(10,_),(14,_),(15,_),(20,_),(120,_),(121,_),(122,_)] ⟨rfl,rfl,rfl,rfl,rfl,rfl,rfl,rfl,rfl,rfl,trivial⟩ (fun z => [(21,z.2)]) (fun z => z.1) (fun z => [.box b20 (mkC (mkP (arsP p) (p.flags.toNat % 3) k x) (.slice p7 (prtsP p).length c7) (.slice none 0 0) 0) 101,.box b15 [strV (abcS k),.slice pV (intsP x + 1 + tabsP x) cV,.slice none 0 0] 49,.box b14 [.int .u8 x.ints.toNat,.int .u8 x.tables.toNat,.slice q1 x.hs.length d1,.slice q2 x.sec.length d2] 95,.row 49 3 rc k xs,.box b5 [strV fleetN,.slice p4 (p.flags.toNat % 3) c4,.slice p6 (lnksP (prtsP p).length p.links (min p.links.length ((prtsP p).length * (prtsP p).length))).length c6,rc] 41,.box b2 [.string ⟨#[]⟩,.slice none 0 0,.slice none 0 0,.slice none 0 0] 41,.box b1 [.int .u8 p.flags.toNat,.slice p1 p.links.length c1,.slice p2 p.comps.length c2] 25]) (fun z => HUp w H8 z.1 ∧ Rep z.1 (.seq 2 ((fstP x).map dCd)) [z.2]) ?_ fun z hC => ?_
  ·
   refine .sr<|.m Z Z<|.yv (.lenSl Fx.sl93 Z) Z<|.yv (.eql Z Z) Z<|.nt<|.cd Z (fun h201 => ?_) (fun h201 => ?_)
   ·try simp only [dt] at h201
    have h0 : x.hs.length = 0 := by omega
    refine .rg<|.yv (.build Z (Fx.bld103_0 _)) Z<|.bl Z (Fx.bsl93_1 _ _) Z fun b203 => ?_
    refine Sx.freezeBox fun H9 u9 m9 => ?_
    exact .a Z Z<|.nt<|.me (H9,_) ⟨rfl,trivial⟩ ⟨rfl,rfl,rfl,rfl,rfl,rfl,rfl,rfl,rfl,rfl,trivial⟩ (fun _ s => s.pick [0,1,3,4,5,6,7] [_,_,_,_,_,_,_] Z Z) ⟨u9,by rw [fstP,if_pos h0];exact Rep.mk (n := 1) (c := 1) m9 (.single (cd_shut (x := ⟨1,[]⟩) (Rep.empty (by decide))) Z) Z (Nat.le_refl _) (by decide)⟩
   try simp only [df] at h201
   have h0 : ¬ x.hs.length = 0 := by omega
   exact .sk<|.tN<|.me (H8,_) ⟨rfl,trivial⟩ ⟨rfl,rfl,rfl,rfl,rfl,rfl,rfl,rfl,rfl,rfl,trivial⟩ (fun _ s => s.pick [0,1,3,4,5,6,7] [_,_,_,_,_,_,_] Z Z) ⟨.refl,by rw [fstP,if_neg h0,List.map_take];have := rep_take2 g1b (hi := min x.hs.length 3) (by omega);rwa [take_min3] at this⟩
  obtain ⟨H9,fv⟩ := z
  dsimp only at hC ⊢
  obtain ⟨u9,hfs⟩ := hC
  have hoB : okB (mkP (arsP p) (p.flags.toNat % 3) k x) := okB_mk hk hf3 hpos hints
  have hfl3 := fst_len (nf := p.flags.toNat % 3) hk hpa
  have hsl3 := sec_len (nf := p.flags.toNat % 3) hk hpa
  have g2c := g2b.up u9.up
  refine Sx.row0 81 1 ?_
  refine .sq<|.fl (trip := [(_,_,_),(_,_,_),(_,_,_),(_,_,_),(_,_,_)]) 5 [(0,0),(1,0),(2,0),(3,3),(4,1)] (by kernel_rfl) (by kernel_rfl) Z<|.yv (.fieldAddr Z Fx.field49_2) Z<|.yv (.load Z Fx.agg47 (.tail _<|.tail _<|.head _) Z) Z<|.m Z Z<|.c3 (X := Value × Nat × Hp × Value × Int) Fx.call22 Z (fun W s => handlers_st (mkP (arsP p) (p.flags.toNat % 3) k x) hoB (fstP x) hfl3 H9 w W _ b20 _ _ _ _  hfs (by simpa [mkP,arsP] using harb.up u9.up) (s.pick [1,0,2,3,4,5,6,7] [_,_,_,_,_,_,_,_] Z Z)) Z (fun z207 hz207 => (.done (by kernel_rfl)<|.yv (.load Z Fx.agg47 (.tail _<|.tail _<|.head _) Z)<|.yv (.fieldAddr Z Fx.field49_2)<|.nl)) fun z207 hz207 => ?_
  obtain ⟨v207,pv207,H207,bv207,lf207⟩ := z207
  obtain ⟨u207,rr207⟩ := hz207
  dsimp only at u207 rr207 ⊢
  obtain ⟨pn207,cn207,e207,_⟩ := rr207.sl
  simp only [List.cons.injEq,and_true,List.length_map,hdsP_len] at e207
  subst e207
  refine .bl Z (Fx.bsl47_1 _ _ _) Z fun b208 => .fn (tl := [_,_,_]) Z<|.ap (news := [.slice pn207 (fstP x).length cn207]) Fx.row47 Z (fun _ => (.tail<|.tail<|.head)) Z (.box (.head _) z0) Z (by simp [Value.oneCell']) (by simp [maxLen]) (by omega) Z fun r209 _ => .ra (.tail _<|.tail _<|.head _) fun p209 c209 e209 => .yv (.fieldAddr Z Fx.field49_2) Z<|.st (.tail<|.tail<|.tail<|.head) Z Z Fx.size47 (by rw [e209];rfl) (nb Z) Z<|.nt<|.cu (X := Hp × Value × List Value) [(2,_),(5,_),(8,_),(10,_),(15,_),(120,_),(121,_),(122,_)] ⟨rfl,rfl,rfl,rfl,rfl,rfl,rfl,rfl,trivial⟩ (fun z => []) (fun z => z.1) (fun z => [.row 81 1 z.2.1 (vssP (mkP (arsP p) (p.flags.toNat % 3) k x) x).length z.2.2,.box b15 [strV (abcS k),.slice pV (intsP x + 1 + tabsP x) cV,z.2.1] 49,.row 49 3 rc k xs,.box b5 [strV fleetN,.slice p4 (p.flags.toNat % 3) c4,.slice p6 (lnksP (prtsP p).length p.links (min p.links.length ((prtsP p).length * (prtsP p).length))).length c6,rc] 41,.box b2 [.string ⟨#[]⟩,.slice none 0 0,.slice none 0 0,.slice none 0 0] 41,.box b1 [.int .u8 p.flags.toNat,.slice p1 p.links.length c1,.slice p2 p.comps.length c2] 25]) (fun z => HUp w H9 z.1 ∧ RepZ z.1 1 ((vssP (mkP (arsP p) (p.flags.toNat % 3) k x) x).map (dVs .i64)) z.2.2) ?_ fun z hC => ?_
  ·
   refine .sr<|.yv (.fieldAddr Z Fx.field95_3) Z<|.yv (.load Z Fx.agg93 (.tail _<|.tail _<|.tail _<|.tail _<|.head _) Z) Z<|.yv (.lenSl Fx.sl93 Z) Z<|.yv (.gtr Z Z) Z<|.nt<|.cd Z (fun h214 => ?_) (fun h214 => ?_)
   ·try simp only [dt] at h214
    have hsc : 0 < x.sec.length := by omega
    refine .fl (trip := [(_,_,_),(_,_,_),(_,_,_),(_,_,_),(_,_,_),(_,_,_),(_,_,_),(_,_,_),(_,_,_),(_,_,_),(_,_,_)]) 11 [(0,0),(1,0),(2,0),(3,0),(4,0),(5,0),(6,0),(7,0),(8,0),(9,3),(10,1)] (by kernel_rfl) (by kernel_rfl) Z<|.yv (.fieldAddr Z Fx.field49_2) Z<|.yv (.load Z Fx.agg47 (.tail _<|.tail _<|.tail _<|.head _) Z) Z<|.yv (.fieldAddr Z Fx.field95_3) Z<|.yv (.load Z Fx.agg93 (.tail _<|.tail _<|.tail _<|.tail _<|.head _) Z) Z<|.yv (.fieldAddr Z Fx.field95_3) Z<|.yv (.load Z Fx.agg93 (.tail _<|.tail _<|.tail _<|.tail _<|.head _) Z) Z<|.yv (.lenSl Fx.sl93 Z) Z<|.yv (.call Fx.call19 Z (fun W s => least_any H207 x.sec.length 3 W s.agr)) Z<|.yv (.cutHi2 Fx.sl93 Z Z (h := min x.sec.length 3) Z (by have := g2c.len.2.1;omega)) Z<|.c3 (X := Value × Nat × Hp × Value × Int) Fx.call22 Z (fun W s => handlers_st { (mkP (arsP p) (p.flags.toNat % 3) k x) with params := pv207 } hoB (x.sec.take 3) hsl3 H207 w W _ b20 _ _ _ _  (by have := rep_take2 (g2c.up u207.up) (hi := min x.sec.length 3) (by omega);rw [take_min3,← List.map_take] at this;exact this) (by simpa [mkP,arsP] using harb.up (u9.trans u207).up) (s.pick [1,0,2,3,4,5,6,7,8] [_,_,_,_,_,_,_,_,_] Z Z)) Z (fun z224 hz224 => (.done (by kernel_rfl)<|.done (by kernel_rfl)<|.done (by kernel_rfl)<|.done (by kernel_rfl)<|.done (by kernel_rfl)<|.done (by kernel_rfl)<|.done (by kernel_rfl)<|.yv (.load Z Fx.agg47 (.tail _<|.tail _<|.tail _<|.head _) Z)<|.yv (.fieldAddr Z Fx.field49_2)<|.nl)) fun z224 hz224 => ?_
    obtain ⟨v224,pv224,H224,bv224,lf224⟩ := z224
    obtain ⟨u224,rr224⟩ := hz224
    dsimp only at u224 rr224 ⊢
    obtain ⟨pn224,cn224,e224,_⟩ := rr224.sl
    simp only [List.cons.injEq,and_true,List.length_map,hdsP_len] at e224
    subst e224
    exact .bl Z (Fx.bsl47_1 _ _ _) Z fun b225 => .fn (tl := [_,_,_]) Z<|.ap (news := [.slice pn224 (x.sec.take 3).length cn224]) Fx.row47 Z (fun _ => (.tail<|.tail<|.tail<|.head)) Z (.box (.head _) z0) Z (by simp [Value.oneCell']) (by simp [maxLen]) (by omega) Z fun r226 _ => .ra (.tail _<|.tail _<|.tail _<|.head _) fun p226 c226 e226 => .yv (.fieldAddr Z Fx.field49_2) Z<|.st (.tail<|.tail<|.tail<|.tail<|.head) Z Z Fx.size47 (by rw [e226];rfl) (nb Z) Z<|.nt<|.me (H224,r226,_) trivial ⟨rfl,rfl,rfl,rfl,rfl,rfl,rfl,rfl,trivial⟩ (fun _ s => by rw [show (vssP (mkP (arsP p) (p.flags.toNat % 3) k x) x).length = 0 + 1 + 1 by rw [vssP,if_pos hsc];rfl];exact (s.pick [3,4,6,7,8,9] _ Z Z)) ⟨u207.trans u224,by rw [vssP,if_pos hsc];exact RepZ.app (.single (rr207.up u224.up) Z) (.single (hdsP_par rr224) Z)⟩
   try simp only [df] at h214
   have hsc : ¬ 0 < x.sec.length := by omega
   exact .sk<|.tN<|.me (H207,r209,_) trivial ⟨rfl,rfl,rfl,rfl,rfl,rfl,rfl,rfl,trivial⟩ (fun _ s => by rw [show (vssP (mkP (arsP p) (p.flags.toNat % 3) k x) x).length = 0 + 1 by rw [vssP,if_neg hsc];rfl];exact (s.pick [2,3,5,6,7,8] _ Z Z)) ⟨u207,by rw [vssP,if_neg hsc];exact .single rr207 Z⟩
  obtain ⟨H10,rs,ws⟩ := z
  dsimp only at hC ⊢
  obtain ⟨u10,hzs⟩ := hC
  refine Sx.freezeSeq (ds := (vssP (mkP (arsP p) (p.flags.toNat % 3) k x) x).map (dVs .i64)) (by simp) hzs fun HE pS cS u11 e11 hSE => ?_
  subst e11
  have uE := uB.trans (u9.trans (u10.trans u11))
  have hVE := hV.up (u9.trans (u10.trans u11)).up
  exact .rg<|.yv (.fieldAddr Z Fx.field41_3) Z<|.yv (.load Z Fx.agg39 (.tail _<|.tail _<|.head _) Z) Z<|.yv (.loadW Z Fx.agg49 (.head _) Z) Z<|.bl Z (Fx.bsl39_1 _ _ _) Z fun b231 => .ap (news := [strV (abcS k),.slice pV (intsP x + 1 + tabsP x) cV,.slice pS (vssP (mkP (arsP p) (p.flags.toNat % 3) k x) x).length cS]) Fx.row39 Z (fun _ => (.tail<|.tail<|.head)) Z (.box (.head _) z0) Z (by simp [Value.oneCell',strV,abcS]) (by simp [maxLen];omega) (by omega) Z fun r232 _ => .ra (.tail _<|.tail _<|.head _) fun p232 c232 e232 => .yv (.fieldAddr Z Fx.field41_3) Z<|.st (.tail<|.tail<|.tail<|.head) Z Z Fx.size39 (by rw [e232];rfl) (nb Z) Z<|.nl<|.bN<|.tN<|.rg<|.yv (.add Z Z (w6 (by omega))) Z<|.m Z Z<|.nt<|.ag (x := (k,H2,rc,xs)) (k + 1,HE,r232,xs ++ [strV (abcS k),.slice pV (intsP x + 1 + tabsP x) cV,.slice pS (vssP (mkP (arsP p) (p.flags.toNat % 3) k x) x).length cS]) ⟨rfl,trivial⟩ ⟨rfl,rfl,rfl,rfl,rfl,rfl,trivial⟩ (fun _ s => (s.pick [2,3,4,5] _ Z Z)) ⟨by dsimp only;omega,u2.trans uE,by dsimp only;rw [cmpsP_succ hk,hx,List.map_append];exact (hz.up uE.up).snoc (cp_shut (x := cmpP (arsP p) (p.flags.toNat % 3) k x) (by simp [cmpP,abcS]) hVE hSE) Z⟩ (by dsimp only;omega)
 try simp only [df] at h123
 obtain rfl : k = (prtsP p).length := by omega
 rw [List.take_length] at hz
 refine Sx.freezeSeq (ds := (cmpsP (arsP p) (p.flags.toNat % 3) (prtsP p)).map (dCp .i64)) (by simp [cmpsP_len]) hz fun HF pc cc uF eF hcs => ?_
 subst eF
 have uZ := u2.trans uF
 refine .ex<|.tE<|.tE<|.bE<|.tN<|.sr<|.yv (.loadW Z Fx.agg41 (.head _) Z) Z<|.sW (.tail<|.head) Z Z Fx.size41 (by simp [Value.oneCell',strV]) Z<|.nt<|.rt<|?_
 exact Sx.ret1 (.inl rfl) rfl (.cell rfl Fx.agg41 (.tail _<|.head _) rfl) fun W t => ⟨_,HF,ft_shut (x := buildF p) (show fleetN.length ≤ 1000000 by decide) (hfl7.up uZ.up) (hlk7.up uZ.up) hcs,rfl,((((u1.trans (u39.trans (u4.trans (u5.trans u6)))).trans u67).trans uZ).grow t)⟩
theorem Fx.call6 : callN Tryd.prog 6 = Bool.true := by kernel_rfl
theorem Fx.call7 : callN Tryd.prog 7 = Bool.true := by kernel_rfl
theorem Fx.eqt28 : eqT Tryd.prog 28 = Option.some [(0,Go.Sx.EK.s),(1,Go.Sx.EK.s),(2,Go.Sx.EK.i)] := by kernel_rfl
theorem Fx.bld28_0_2 (x0 : ByteArray) (x2 : Int) : buildN Tryd.prog 28 [(0,.string x0),(2,.int .i64 x2)] = some [.string x0,.string ⟨#[]⟩,.int .i64 x2] := by kernel_rfl
theorem Fx.bld41_0_3 (x0 : ByteArray) (x3p : Option Addr) (x3n x3c : Nat) : buildN Tryd.prog 41 [(0,.string x0),(3,.slice x3p x3n x3c)] = some [.string x0,.slice none 0 0,.slice none 0 0,.slice x3p x3n x3c] := by kernel_rfl
theorem Fx.bld49_0_1_2 (x0 : ByteArray) (x1p : Option Addr) (x1n x1c : Nat) (x2p : Option Addr) (x2n x2c : Nat) : buildN Tryd.prog 49 [(0,.string x0),(1,.slice x1p x1n x1c),(2,.slice x2p x2n x2c)] = some [.string x0,.slice x1p x1n x1c,.slice x2p x2n x2c] := by kernel_rfl
theorem Fx.bld51_0_1 (x0 : ByteArray) (x1 : Int) : buildN Tryd.prog 51 [(0,.string x0),(1,.int .i64 x1)] = some [.string x0,.int .i64 x1,.int .i64 0] := by kernel_rfl
theorem Fx.bsl58_15 (x0 : ByteArray) (x1 : ByteArray) (x2 : ByteArray) (x3 : ByteArray) (x4 : ByteArray) (x5 : ByteArray) (x6 : ByteArray) (x7 : ByteArray) (x8 : ByteArray) (x9 : ByteArray) (x10 : ByteArray) (x11 : ByteArray) (x12 : ByteArray) (x13 : ByteArray) (x14 : ByteArray) : bslN Tryd.prog 58 15 [(0,.string x0),(1,.string x1),(2,.string x2),(3,.string x3),(4,.string x4),(5,.string x5),(6,.string x6),(7,.string x7),(8,.string x8),(9,.string x9),(10,.string x10),(11,.string x11),(12,.string x12),(13,.string x13),(14,.string x14)] = some (9,[.string x0,.string x1,.string x2,.string x3,.string x4,.string x5,.string x6,.string x7,.string x8,.string x9,.string x10,.string x11,.string x12,.string x13,.string x14]) := by kernel_rfl
theorem Fx.bsl85_2 (x00 x01 x02 x03 x04 x05 : Value) (x10 x11 x12 x13 x14 x15 : Value) : bslN Tryd.prog 85 2 [(0,.agg [x00,x01,x02,x03,x04,x05].toArray),(1,.agg [x10,x11,x12,x13,x14,x15].toArray)] = some (109,[x00,x01,x02,x03,x04,x05,x10,x11,x12,x13,x14,x15]) := by kernel_rfl
theorem pbEq (P : Pb) (Q : Pb) (h : P = Q) {ks : List (Nat × EK)} (hk : ks = [(0,.s),(1,.s),(2,.i)]) : eqVs ks (pbV P) (pbV Q) = some true := by
 subst h
 subst hk
 simp [eqVs,pbV,eqV1,strV]
theorem okS1_of {N : Nat} : ∀ s,okS2 N s = true → okS1 s = true
 | .mk _ _ _ ex _ _,h => by
  simp only [okS2,Bool.and_eq_true,List.all_eq_true] at h
  simp only [okS1,List.all_eq_true,decide_eq_true_eq]
  intro e he
  have := h.2 e he
  simp only [okE,Bool.and_eq_true,decide_eq_true_eq] at this
  omega
theorem evH_ok {N : Nat} (hN : N ≤ 1000000) {f : Ft} (h : okFt N f) : evH okH f = true := by
 simp only [evH,List.all_eq_true]
 intro c hc v hv x hx
 have k := ((h.all c hc).all v hv).all x hx
 have k1 := k.body.cnt
 have k2 := k.body.dep
 simp only [okH,Bool.and_eq_true,decide_eq_true_eq]
 exact ⟨⟨by omega,by omega⟩,salls_imp okS1_of _ k.body.all⟩
theorem repS1 {H : Hp} : ∀ l : List Str,(∀ s ∈ l,s.length ≤ 1000000) → RepZ H 1 (l.map dStr) (l.map strV)
 | [],_ => RepZ.nil
 | s :: r,h => by
  have := RepZ.app (RepZ.single (H := H) (str_shut (h s (List.mem_cons_self ..))) (rfl : [strV s].length = 1)) (repS1 r fun x hx => h x (List.mem_cons_of_mem _ hx))
  exact this
set_option maxRecDepth 100000 in
theorem name8_any (H : Hp) (n : UInt8) (w : World) (hA : Agr H w) : Calls Tryd.prog 13 #[.int .u8 n.toNat] w fun r w' => r = .returned (strV (nmAt n.toNat)) ∧ Ext w w' := by
 refine Sx.enter (H := H) Tryd.func13 rfl Tryd.ntmps13 rfl hA ?_
 refine .sr<|.a Z Z<|.ns<|.bl Z (Fx.bsl58_15 _ _ _ _ _ _ _ _ _ _ _ _ _ _ _) Z fun b4 => ?_
 refine Sx.freezeBox fun H1 u1 m1 => ?_
 have rN : Rep H1 (.seq 1 (nmsL.map dStr)) [.slice (some ⟨b4,0,none⟩) 15 15] := Rep.mk (n := 15) (c := 15) m1 (repS1 nmsL (by decide)) rfl (Nat.le_refl _) (by decide)
 obtain ⟨bN,oN,cN,hpN,rS,lN,mN⟩ := rN.elem (map_at (f := dStr) (l := nmsL) (k := n.toNat % 15) (show n.toNat % 15 < 15 by omega))
 cases hpN
 obtain ⟨rfl,_⟩ := str_open rS
 refine .a Z Z<|.ns<|.m Z Z<|.m Z Z<|.yv (.conv Z Fx.int5 Fx.int3 (c := (n.toNat : Nat)) (by have := n.toNat_lt;simp only [IntKind.wrap,IntKind.signed,IntKind.bits];simp;omega)) Z<|.m Z Z<|.yv (.lenSl Fx.sl58 Z) Z<|.yv (.rem Z Z (by decide) (c := ((n.toNat % 15 : Nat) : Int)) (tm2 _ 15)) Z<|.yv (.indexSl Fx.sl58 Z Z (i := n.toNat % 15) Z (by omega) (q := 0 + (n.toNat % 15) * 1) Z) Z<|.yv (.loadM Z Fx.agg9 mN (k := 0) Z Z) Z<|.a Z Z<|.nt<|.rt<|?_
 refine Sx.ret1 (.inl rfl) rfl (.tmp rfl) fun W s => ⟨?_,(u1.grow s).ext⟩
 rw [nmAt,List.getD_eq_getElem?_getD,List.getElem?_eq_getElem (show n.toNat % 15 < nmsL.length from by show _ < 15;omega),Option.getD_some];rfl
def aw8b : List Sm := [.mk 1 [120] [] [.mk 5 [121] 0 []] [] [],.mk 1 [120] [] [.mk 2 [] 0 []] [] []]
def aw8c : Cp := ⟨[99],[⟨[120],1,0⟩],[[⟨[104],[[121]],aw8b⟩]]⟩
def aw8 : Ft := ⟨[102],[],[],[aw8c]⟩
def aw8p : Pb := ⟨[115,116,97,116,101,109,101,110,116,32,99,46,104,32,49,32,49],[],10⟩
theorem aw8_ok : okFt 100 aw8 := by
 refine ⟨by decide,by decide,by decide,by decide,fun c hc => ?_⟩
 obtain rfl := List.mem_singleton.1 hc
 refine ⟨by decide,by decide,fun v hv => ?_⟩
 obtain rfl := List.mem_singleton.1 hv
 refine ⟨by decide,fun h hh => ?_⟩
 obtain rfl := List.mem_singleton.1 hh
 exact ⟨by decide,by decide +kernel,by decide +kernel,by decide +kernel⟩
theorem aw8_sm : ∀ c ∈ aw8.comps,CpSm c := by
 intro c hc
 obtain rfl := List.mem_singleton.1 hc
 refine ⟨by decide,by decide,fun v hv h hh => ?_⟩
 obtain rfl := List.mem_singleton.1 hv
 obtain rfl := List.mem_singleton.1 hh
 decide +kernel
theorem aw8_check : checkF aw8 = 0 := by decide +kernel
theorem itoaN_1 : itoaN 1 = [49] := by rw [itoaN,Lib.itoa,if_neg (by decide)];exact Lib.decDigits_one (by decide)
theorem aw8_pb : frsP noP (probs aw8 (checkF aw8)) = aw8p := by
 rw [aw8_check,frsP,if_pos (show noP.er = 0 from rfl)]
 have h : (probs aw8 0).headD noP = ⟨[115,116,97,116,101,109,101,110,116,32] ++ [99] ++ [46] ++ [104] ++ ([32] ++ itoaN 1) ++ [32] ++ itoaN 1,[],10⟩ := by kernel_rfl
 rw [h,itoaN_1];rfl
set_option maxRecDepth 100000 in
theorem awake8_any (H : Hp) (G : Gl H) (w : World) (hA : Agr H w) : Calls Tryd.prog 9 #[] w fun r w' => r = .returned (.bool true) ∧ Ext w w' := by
 refine Sx.enter (H := H) Tryd.func9 rfl Tryd.ntmps9 rfl hA ?_
 refine .sr<|.a Z Z<|.ns<|.yv (.build Z (Fx.bld51_0_1 _ _)) Z<|.bl Z (Fx.bsl46_1 _ _ _) Z fun b5 => .bl Z (Fx.bsl58_1 _) Z fun b6 => .yv (.build Z (Fx.bld107_0_1 _ _)) Z<|.bl Z (Fx.bsl105_1 _ _ _ _) Z fun b8 => .yv (.build Z (Fx.bld109_0_1_3 _ _ _ _ _)) Z<|.yv (.build Z (Fx.bld107_0 _)) Z<|.bl Z (Fx.bsl105_1 _ _ _ _) Z fun b11 => .yv (.build Z (Fx.bld109_0_1_3 _ _ _ _ _)) Z<|.bl Z (Fx.bsl85_2 _ _ _ _ _ _ _ _ _ _ _ _) Z fun b13 => .yv (.build Z (Fx.bld87_0_1_2 _ _ _ _ _ _ _)) Z<|.bl Z (Fx.bsl81_1 _ _ _) Z fun b15 => .bl Z (Fx.bsl47_1 _ _ _) Z fun b16 => .yv (.build Z (Fx.bld49_0_1_2 _ _ _ _ _ _ _)) Z<|.bl Z (Fx.bsl39_1 _ _ _) Z fun b18 => .yv (.build Z (Fx.bld41_0_3 _ _ _ _)) Z<|.al Fx.zero41 Z fun b1 => .sW .head Z Z Fx.size41 (by simp [Value.oneCell',strV]) Z<|?_
 refine At.pm [8,7,6,5,4,3,2,1,0] [_,_,_,_,_,_,_,_,_] rfl rfl ?_
 refine Sx.freezeBox fun H1 u1 m5 => ?_
 refine Sx.freezeBox fun H2 u2 m6 => ?_
 refine Sx.freezeBox fun H3 u3 m8 => ?_
 refine Sx.freezeBox fun H4 u4 m11 => ?_
 refine Sx.freezeBox fun H5 u5 m13 => ?_
 refine Sx.freezeBox fun H6 u6 m15 => ?_
 refine Sx.freezeBox fun H7 u7 m16 => ?_
 refine Sx.freezeBox fun H8 u8 m18 => ?_
 have v8 : Up H8 H8 := Up.refl _
 have v7 : Up H7 H8 := u8.up.trans v8
 have v6 : Up H6 H8 := u7.up.trans v7
 have v5 : Up H5 H8 := u6.up.trans v6
 have v4 : Up H4 H8 := u5.up.trans v5
 have v3 : Up H3 H8 := u4.up.trans v4
 have v2 : Up H2 H8 := u3.up.trans v3
 have v1 : Up H1 H8 := u2.up.trans v2
 have v0 : Up H H8 := u1.up.trans v1
 have rF := ft_shut (k := .i64) (x := aw8) (by decide) (Rep.empty (p := none) (c := 0) (by decide)) (Rep.empty (p := none) (c := 0) (by decide)) (Rep.mk (n := 1) (c := 1) (m18.up v8) (.single (cp_shut (k := .i64) (x := aw8c) (by decide) (Rep.mk (n := 1) (c := 1) (m5.up v1) (.single (vr_shut (k := .i64) (x := ⟨[120],1,0⟩) (by decide)) rfl) rfl (Nat.le_refl _) (by decide)) (Rep.mk (n := 1) (c := 1) (m16.up v7) (.single (Rep.mk (n := 1) (c := 1) (m15.up v6) (.single (hd_shut (k := .i64) (x := ⟨[104],[[121]],aw8b⟩) (by decide) (Rep.mk (n := 1) (c := 1) (m6.up v2) (.single (str_shut (by decide)) rfl) rfl (Nat.le_refl _) (by decide)) (Rep.mk (n := 2) (c := 2) (m13.up v5) (RepZ.app (RepZ.single (sm_shut (k := .i64) (kd := 1) (nm := [120]) (hd := []) (ex := [.mk 5 [121] 0 []]) (th := []) (el := []) (by decide) (by decide) (Rep.mk (n := 1) (c := 1) (m8.up v3) (.single (ex_shut (k := .i64) (op := 5) (nm := [121]) (n := 0) (args := []) (by decide) (Rep.empty (p := none) (c := 0) (by decide))) rfl) rfl (Nat.le_refl _) (by decide)) (Rep.empty (p := none) (c := 0) (by decide)) (Rep.empty (p := none) (c := 0) (by decide))) rfl) (RepZ.single (sm_shut (k := .i64) (kd := 1) (nm := [120]) (hd := []) (ex := [.mk 2 [] 0 []]) (th := []) (el := []) (by decide) (by decide) (Rep.mk (n := 1) (c := 1) (m11.up v4) (.single (ex_shut (k := .i64) (op := 2) (nm := []) (n := 0) (args := []) (by decide) (Rep.empty (p := none) (c := 0) (by decide))) rfl) rfl (Nat.le_refl _) (by decide)) (Rep.empty (p := none) (c := 0) (by decide)) (Rep.empty (p := none) (c := 0) (by decide))) rfl)) rfl (Nat.le_refl _) (by decide))) rfl) rfl (Nat.le_refl _) (by decide)) rfl) rfl (Nat.le_refl _) (by decide))) rfl) rfl (Nat.le_refl _) (by decide))
 refine .ns<|.yv (.loadW Z Fx.agg41 (.head _) Z) Z<|.ct (X := List Value) Fx.call7 Z (fun W t => syntax_any 100 (by decide) H8 aw8 aw8_ok _ W rF t.agr) Z fun x2 H9 hx2 u9 => .yv (.cast (v' := .tuple #[.agg (pbV aw8p).toArray,.int .i64 10]) (.call Fx.call6 Z (fun W t => typesCheck_any H9 (G.up (v0.trans u9.up)) aw8 x2 hx2 (evH_ok (by decide) aw8_ok) aw8_sm W t.agr)) (by rw [aw8_pb];rfl)) Z<|.m Z Z<|.yv (.extract Z Z) Z<|.yv (.extract Z Z) Z<|.al Fx.zero28 Z fun b2 => .sW .head Z Z Fx.size28 (by simp [pbV,Value.oneCell',strV]) Z<|.a Z Z<|.ns<|.m Z Z<|.yv (.cast (v' := .bool true) (.eql Z Z) Z) Z<|.m Z Z<|.gd Z Z<|.yv (.loadW Z Fx.agg28 (.head _) Z) Z<|.gd Z Z<|.yv (.build Z (Fx.bld28_0_2 _ _)) Z<|.gd Z Z<|.yv (.eqA Fx.eqt28 Z Z (pbEq aw8p aw8p Z Z)) Z<|.yv (.pickT Z Z) Z<|.a Z Z<|.nt<|.rt<|?_
 exact Sx.ret1 (.inl rfl) rfl (.tmp rfl) fun W t => ⟨rfl,((u1.trans<|u2.trans<|u3.trans<|u4.trans<|u5.trans<|u6.trans<|u7.trans<|u8.trans u9) |>.grow t).ext⟩
theorem Fx.agg25 : aggN Tryd.prog 25 = Option.some (Option.some 3) := by kernel_rfl
theorem Fx.call8 : callN Tryd.prog 8 = Bool.true := by kernel_rfl
theorem Fx.call9 : callN Tryd.prog 9 = Bool.true := by kernel_rfl
theorem Fx.call12 : callN Tryd.prog 12 = Bool.true := by kernel_rfl
theorem Fx.call13 : callN Tryd.prog 13 = Bool.true := by kernel_rfl
theorem Fx.bld62_0 (x0 : Int) : buildN Tryd.prog 62 [(0,.int .u8 x0)] = some [.int .u8 x0,.string ⟨#[]⟩,.int .i64 0,.slice none 0 0] := by kernel_rfl
theorem Fx.bld62_0_1 (x0 : Int) (x1 : ByteArray) : buildN Tryd.prog 62 [(0,.int .u8 x0),(1,.string x1)] = some [.int .u8 x0,.string x1,.int .i64 0,.slice none 0 0] := by kernel_rfl
theorem ft_len {H : Hp} {k : IntKind} {f : Ft} {cs : List Value} (h : Rep H (dFt k f) cs) : cs.length = 4 := by
 obtain ⟨_,_,_,_,_,_,rfl,_⟩ := ft_open h
 rfl
theorem checkE_name {n : Str} (h : nameB n = true) : checkE (.mk 5 n 0 []) = 0 := by
 simp [checkE,Ex.depth,Ex.deeps,Ex.all,Ex.alls,namE,frmE,h,show okOp 5 = true from by decide,show (shapeOf 5).n = 0 from by decide,show (shapeOf 5).nm = true from by decide]
theorem tyE_par (s : Sc) (n : Str) (h : s.ps = [n]) : tyE s (.mk 5 n 0 []) = ⟨1,[],0⟩ := by
 rw [tyE_mk]
 have e : nameT s n = (1,0) := by rw [nameT,if_pos (by rw [h];simp [hasB])]
 show wrongT (nameT s n).1 n (nameT s n).2 = _
 rw [e];rfl
set_option maxRecDepth 100000 in
theorem typesErrs_any (H : Hp) (G : Gl H) (p : Pln) (c : Int64) (n : UInt8) (cs : List Value) (h : Rep H (dPln p) cs) (w : World) (hA : Agr H w) :
 Calls Tryd.prog 5 #[.agg cs.toArray,.int .i64 c.toInt,.int .u8 n.toNat] w fun r w' => r = .returned (.bool true) ∧ Ext w w' := by
 obtain ⟨p1,c1,p2,c2,rfl,_,_⟩ := pln_open h
 refine Sx.enter (H := H) Tryd.func5 rfl Tryd.ntmps5 rfl hA ?_
 refine .sr<|.bx Z Z Z fun b3 => .a Z Z<|.ns<|.yv (.loadW Z Fx.agg25 (.head _) Z) Z<|.ct (X := List Value) Fx.call8 Z (fun W t => build_plan H p _ W h t.agr) Z fun x1 H1 hx1 u1 => ?_
 obtain ⟨q1,d1,q2,d2,q3,d3,rfl,nf,_,_,g3⟩ := ft_open hx1
 have hcapf := g3.cap
 refine .al Fx.zero41 Z fun b7 => .sW .head Z Z Fx.size41 (by simp [Value.oneCell',strV]) Z<|.ns<|.yv (.loadW Z Fx.agg41 (.head _) Z) Z<|.ct (X := List Value) Fx.call7 Z (fun W t => syntax_any 100 (by decide) H1 (buildF p) (buildF_ok p) _ W hx1 t.agr) Z fun x2 H2 hx2 u2 => .al Fx.zero35 Z fun b8 => .sV .head Z Z Fx.size35 (ft_len hx2) hx2.one Z<|.nt<|.sq<|?_
 have hp0 := (buildF_ok p).pos
 refine .fl (trip := [(_,_,_),(_,_,_),(_,_,_),(_,_,_),(_,_,_),(_,_,_),(_,_,_),(_,_,_),(_,_,_),(_,_,_),(_,_,_),(_,_,_)]) 12 [(0,0),(1,0),(2,0),(4,0),(5,0),(6,0),(3,1),(7,0),(8,0),(9,0),(10,0),(11,0)] (by kernel_rfl) (by kernel_rfl) Z<|.yv (.loadW Z Fx.agg35 (.head _) (ft_len hx2)) Z<|.m Z Z<|.yv (.call Fx.call13 Z (fun W t => name8_any _ n W t.agr)) Z<|.m Z Z<|.yv (.call Fx.call13 Z (fun W t => name8_any _ n W t.agr)) Z<|.yv (.build Z (Fx.bld62_0_1 _ _)) Z<|.blF Z (Fx.bsl58_1 _) Z fun b19 H3 u3 m3 => ?_
 have rP : Rep H3 (.seq 1 ([nmAt n.toNat].map dStr)) [.slice (some ⟨b19,0,none⟩) 1 1] := Rep.mk (n := 1) (c := 1) m3 (RepZ.single (str_shut (by have := nmAt_len n.toNat;omega)) rfl) rfl (Nat.le_refl _) (by decide)
 have u13 := u1.up.trans (u2.up.trans u3.up)
 have hx3 := hx2.up u3.up
 refine .yv (.cast (v' := .tuple #[.int .u8 1,.int .i64 0]) (.call Fx.call12 Z (fun W t => typeOf_good H3 (G.up u13) (buildF p) x2 hx3 (evH_ok (by decide) (buildF_ok p)) _ (.mk 5 (nmAt n.toNat) 0 []) _ (ex_shut (by have := nmAt_len n.toNat;omega) (Rep.empty (p := none) (c := 0) (by decide))) (by show Ex.deeps [] + 1 ≤ 1000000;decide) 0 hp0 _ Z (buildF_good p) (checkE_name (nmAt_ok _)) [nmAt n.toNat] rP W t.agr)) (by rw [tyE_par _ _ Z];rfl)) Z<|.m Z Z<|.yv (.extract Z Z) Z<|.yv (.extract Z Z) Z<|.a Z Z<|.fn (tl := [_]) Z<|.a Z Z<|.nt<|.sq<|.sr<|.yv (.call Fx.call9 Z (fun W t => awake8_any H3 (G.up u13) W t.agr)) Z<|.yv (.not Z) Z<|.m Z Z<|.gd Z Z<|.yv (.move Z) Z<|.gd Z Z<|.yv (.cast (v' := .bool false) (.neq Z Z) Z) Z<|.yv (.pickF Z Z) Z<|.m Z Z<|.gd Z Z<|.yv (.move Z) Z<|.gd Z Z<|.yv (.cast (v' := .bool false) (.neq Z Z) Z) Z<|.yv (.pickF Z Z) Z<|.nt<|.cF Z<|.sk<|.tN<|.sr<|.yv (.loadW Z Fx.agg35 (.head _) (ft_len hx2)) Z<|.yv (.build Z (Fx.bld62_0 _)) Z<|.yv (.call Fx.call12 Z (fun W t => typeOf_bad H3 (G.up u13) (buildF p) x2 hx3 (evH_ok (by decide) (buildF_ok p)) _ (.mk 14 [] 0 []) _ (ex_shut (by decide) (Rep.empty (p := none) (c := 0) (by decide))) (by decide +kernel) 0 (.inr (.inr (.inr (by decide +kernel)))) W t.agr)) Z<|.m Z Z<|.yv (.extract Z Z) Z<|.yv (.extract Z Z) Z<|.a Z Z<|.a Z Z<|.nt<|.sq<|.sr<|.m Z Z<|.yv (.cast (v' := .bool false) (.neq Z Z) Z) Z<|.m Z Z<|.gd Z Z<|.yv (.move Z) Z<|.gd Z Z<|.yv (.cast (v' := .bool false) (.neq Z Z) Z) Z<|.yv (.pickF Z Z) Z<|.nt<|.cF Z<|.sk<|.tN<|.sq<|.sr<|.m Z Z<|.yv (.geq Z Z) Z<|.m Z Z<|.b2 (fun h50 => ?_) (fun h50 => ?_)
 ·have c0 := of_decide_eq_true h50
  refine .gd Z Z<|.yv (.move Z) Z<|.gd Z Z<|.yv (.fieldAddr Z Fx.field41_3) Z<|.gd Z Z<|.yv (.load Z Fx.agg39 (.tail _<|.head _) Z) Z<|.gd Z Z<|.yv (.lenSl Fx.sl39 Z) Z<|.gd Z Z<|.yv (.lss Z Z) Z<|.yv (.pickT Z Z) Z<|.nt<|.cd Z (fun h56 => ?_) (fun h56 => ?_)
  ·skip
   refine .sr<|.a Z Z<|.nt<|.rt<|.tR<|?_
   exact Sx.ret1 (.inl rfl) rfl (.tmp rfl) fun W t => ⟨rfl,((u1.trans (u2.trans u3)).grow t).ext⟩
  have cbad : c.toInt < 0 ∨ ((buildF p).comps.length : Int) ≤ c.toInt := .inr (by have := of_decide_eq_false h56;omega)
  refine .sk<|.tN<|.sr<|.yv (.loadW Z Fx.agg35 (.head _) (ft_len hx2)) Z<|.m Z Z<|.yv (.build Z (Fx.bld62_0 _)) Z<|.yv (.call Fx.call12 Z (fun W t => typeOf_bad H3 (G.up u13) (buildF p) x2 hx3 (evH_ok (by decide) (buildF_ok p)) _ (.mk 4 [] 0 []) _ (ex_shut (by decide) (Rep.empty (p := none) (c := 0) (by decide))) (by decide +kernel) c.toInt (by rcases cbad with h | h;exact .inr (.inl h);exact .inr (.inr (.inl h))) W t.agr)) Z<|.m Z Z<|.yv (.extract Z Z) Z<|.yv (.extract Z Z) Z<|.a Z Z<|.a Z Z<|.ns<|.m Z Z<|.yv (.cast (v' := .bool true) (.eql Z Z) Z) Z<|.m Z Z<|.gd Z Z<|.yv (.move Z) Z<|.gd Z Z<|.yv (.cast (v' := .bool true) (.eql Z Z) Z) Z<|.yv (.pickT Z Z) Z<|.a Z Z<|.nt<|.rt<|?_
  exact Sx.ret1 (.inl rfl) rfl (.tmp rfl) fun W t => ⟨rfl,((u1.trans (u2.trans u3)).grow t).ext⟩
 have cbad : c.toInt < 0 ∨ ((buildF p).comps.length : Int) ≤ c.toInt := .inl (by have := of_decide_eq_false h50;omega)
 refine .gF Z Z Z Z<|.gF Z Z Z Z<|.gF Z Z Z Z<|.gF Z Z Z Z<|.gF Z Z Z Z<|.yv (.pickF Z Z) Z<|.nt<|.cF Z<|.sk<|.tN<|.sr<|.yv (.loadW Z Fx.agg35 (.head _) (ft_len hx2)) Z<|.m Z Z<|.yv (.build Z (Fx.bld62_0 _)) Z<|.yv (.call Fx.call12 Z (fun W t => typeOf_bad H3 (G.up u13) (buildF p) x2 hx3 (evH_ok (by decide) (buildF_ok p)) _ (.mk 4 [] 0 []) _ (ex_shut (by decide) (Rep.empty (p := none) (c := 0) (by decide))) (by decide +kernel) c.toInt (by rcases cbad with h | h;exact .inr (.inl h);exact .inr (.inr (.inl h))) W t.agr)) Z<|.m Z Z<|.yv (.extract Z Z) Z<|.yv (.extract Z Z) Z<|.a Z Z<|.a Z Z<|.ns<|.m Z Z<|.yv (.cast (v' := .bool true) (.eql Z Z) Z) Z<|.m Z Z<|.gd Z Z<|.yv (.move Z) Z<|.gd Z Z<|.yv (.cast (v' := .bool true) (.eql Z Z) Z) Z<|.yv (.pickT Z Z) Z<|.a Z Z<|.nt<|.rt<|?_
 exact Sx.ret1 (.inl rfl) rfl (.tmp rfl) fun W t => ⟨rfl,((u1.trans (u2.trans u3)).grow t).ext⟩
variable {H : Type} {enc : TypeId × Value → H}
theorem wrap {a : Assume} {C : Checked} {os : Os} {f : FuncId} {fn : Func} {s : ChangeSpec} {conds : List PathCond} {apart fresh handsOn again : Bool} {X : World → Array Value → Prop}
 (hX : ∀ (w w' : World) (args : Array Value),w.heap = w'.heap → X w args → X w' args)
 (own : ownKnob C.prog.godebug = none) (started : os.Started) (noInit : C.prog.inits.idxOf? f = none) (hfn : C.prog.funcs[f]? = some fn)
 (witness : ∃ (w : World) (tape : Tape) (i : Input),w.os = os ∧ (w.forCall tape i).Shaped C.prog ∧ i.vars = [] ∧ Input.okWide C.prog (w.forCall tape i) .any w.heap.size f i ∧
  ((s.pre enc C.prog fn conds apart (w.forCall tape i).memory i.args ∧ X (w.forCall tape i).memory i.args) ∧ sizedMet enc C.prog fn (OpenSpec.ofChange s) apart (w.forCall tape i).memory i.args) ∧ a.holds C.prog (lone (Frame.enter C.prog f i.args .normal) [] (w.forCall tape i)))
 (contract : ∀ (W : World) (base : Nat) (args : Array Value) (ds gs : List (DataW H)) (before : List MemPlace),
  (∀ (j : Nat) t v,fn.params[j]? = some t → args[j]? = some v → Value.okWide C.prog W .any base t v) →
  DataW.Whole enc C.prog fn.params.toList s.vars apart W args.toList ds gs before →
  X W args → W.ShapedOpen C.prog →
  Calls C.prog f args W fun e W' => ∃ v,e = .returned v ∧ s.post enc C.prog fn apart fresh handsOn again W args v W') :
 ReturnsInHanded a C os f .any (fun w args => (s.pre enc C.prog fn conds apart w args ∧ X w args) ∧ sizedMet enc C.prog fn (OpenSpec.ofChange s) apart w args) (s.post enc C.prog fn apart fresh handsOn again) := by
 refine returnsInHanded_of_calls own started noInit witness ?_
 intro w tape i _ hsh _ hok hpre _
 obtain ⟨_,_,_,fn',hfn',_,_,_,_,hval⟩ := hok
 have e : fn' = fn := Option.some.inj (hfn'.symm.trans hfn)
 subst e
 obtain ⟨⟨⟨ds,gs,before,hw,_⟩,hx⟩,_⟩ := hpre
 have hw' := DataW.Whole.of_heap (w' := w.forCall tape i) (by rfl) hw
 refine (contract (w.forCall tape i) w.heap.size i.args ds gs before hval hw' (hX _ _ _ (by rfl) hx) hsh).mono fun e W' ⟨v,he,hp⟩ => ?_
 subst he
 exact ChangeSpec.post_blind hp

theorem own : ownKnob Tryd.prog.godebug = none := by kernel_rfl
def laids : List (String × DataW Unit) := [("math/bits.deBruijn32tab",Rows.laid_math_bits_deBruijn32tab),("math/bits.deBruijn64tab",Rows.laid_math_bits_deBruijn64tab),("internal/strconv.uint64pow10",Rows.laid_internal_strconv_uint64pow10),("rootcause/lexer.words",Rows.laid_rootcause_lexer_words),("rootcause/lexer.symbols",Rows.laid_rootcause_lexer_symbols),("rootcause/syntax.shapes",Rows.laid_rootcause_syntax_shapes),("rootcause/syntax.forms",Rows.laid_rootcause_syntax_forms)]
theorem gTab : Tryd.prog.globalNamed "internal/strconv.uint64pow10" = some 4 := by kernel_rfl
theorem gTabT : (Tryd.prog.globals[4]?).map (·.type) = some 198 := by kernel_rfl
theorem cellsTab : Tryd.prog.cellsOf 198 = 20 := by kernel_rfl
theorem cellsTabE : Tryd.prog.cellsOf 188 = 1 := by kernel_rfl
theorem tabEq : (Rows.laid_internal_strconv_uint64pow10 : DataW Unit) = Lib.tabData .u64 Lib.pow10Tab := by kernel_rfl
theorem gt_of {W : World} (h : laidMet Tryd.prog laids W) : Gt (allH W) := by
 intro W' hA
 have h1 : Lib.TabIs Tryd.prog W "internal/strconv.uint64pow10" .u64 Lib.pow10Tab := Lib.tabIs_of_head gTab gTabT Tryd.underlying198 Tryd.underlying188 cellsTabE cellsTab (tabEq ▸ h.tail.tail)
 unfold Lib.TabIs World.var? at *
 rw [gTab] at *
 simp only [Option.bind_some] at *
 split at h1
 ·rename_i cs T m hb
  rw [hA 4 _ hb]
  exact h1
 ·cases h1
theorem gl_of {W : World} (h : laidMet Tryd.prog laids W) : Gl (allH W) :=
 ⟨laid_mem (t := 186) (.arr 24 (.str [.int .i64,.bool,.int .i64,.strg])) _ (by kernel_rfl) (by kernel_rfl) (by kernel_rfl) (by kernel_rfl) (by kernel_rfl) h.tail.tail.tail.tail.tail,
  laid_mem (t := 185) (.arr 11 (.str [.bool,.bool,.int .i64,.int .i64,.bool,.bool])) _ (by kernel_rfl) (by kernel_rfl) (by kernel_rfl) (by kernel_rfl) (by kernel_rfl) h.tail.tail.tail.tail.tail.tail,
  laid_mem (t := 196) (.arr 39 .strg) _ (by kernel_rfl) (by kernel_rfl) (by kernel_rfl) (by kernel_rfl) (by kernel_rfl) h.tail.tail.tail,
  laid_mem (t := 183) (.arr 25 .strg) _ (by kernel_rfl) (by kernel_rfl) (by kernel_rfl) (by kernel_rfl) (by kernel_rfl) h.tail.tail.tail.tail⟩
theorem laid_met (os : Os) (args : Array Value) : laidMet Tryd.prog laids ((World.laidAll Tryd.prog os laids).forCall (fun _ _ => 0) ⟨#[],args,[]⟩).memory :=
 laidMet_laidAll _ (by kernel_rfl) (by kernel_rfl)
theorem laid_shaped (os : Os) (args : Array Value) : ((World.laidAll Tryd.prog os laids).forCall (fun _ _ => 0) ⟨#[],args,[]⟩).Shaped Tryd.prog :=
 World.shaped_of_ZipB (by kernel_rfl) (by kernel_rfl)
theorem ext_kept {W W' : World} (h : Ext W W') : ∀ may,W.keptBut W' may := fun may => (Ext.below h).frame may
theorem laidOut : laidOutB Tryd.prog = true := by kernel_rfl
end Go.Proofs.YtohfacbajcenoaaDoor
