/- Texts of the proof, one behind the other. -/
import Derived.Test.YtohfacbajcenoaaGreatDoorMe
set_option linter.all false
set_option maxRecDepth 100000
namespace Go.Proofs.YtohfacbajcenoaaGreatDoor
open Go.RowKit Go.Par Go.Sx
theorem nat_shut {H : Hp} (n : Nat) : Rep H (dNat n) [.int .i64 (n : Nat)] := repV rfl trivial
set_option maxRecDepth 100000 in
theorem arity_prt (H : Hp) (x : Prt) (cs : List Value) (w : World) (h : Rep H (dPrt x) cs) (hA : Agr H w) : Calls Tryz.prog 40 #[.agg cs.toArray] w fun r w' => ∃ (v : Value) (H' : Hp),Rep H' (.seq 1 ((arP x).map dNat)) [v] ∧ r = .returned v ∧ Grow H w H' w' := by
 obtain ⟨p1,c1,p2,c2,rfl,h1,h2⟩ := prt_open h;have hcap1 := h1.cap;have hcap2 := h2.cap;refine Sx.enter (H := H) Tryz.func40 rfl Tryz.ntmps40 rfl hA ?_;refine .sr<|.bx Z Z Z fun b1 => .a Z Z<|.ns<|.a Z Z<|?_
 refine Sx.row0 3 1 ?_;refine .nt<|.sq<|.sr<|.a Z Z<|.nt<|.bk<|.lp (X := Nat × Nat × Value × List Value) [(1,_)] ⟨rfl,trivial⟩ [_] (fun z => [(3,z.2.2.1),(4,.int .i64 (z.1 : Nat))]) (fun z => H) (fun z => [.row 3 1 z.2.2.1 z.2.1 z.2.2.2]) (fun z => z.1 ≤ 3 ∧ z.2.1 = (arUp x z.1).length ∧ RepZ H 1 ((arUp x z.1).map dNat) z.2.2.2) (fun z => 3 - z.1) (0,0,.slice none 0 0,[]) (fun _ s => s) ⟨rfl,rfl,trivial⟩ ⟨by simp,rfl,RepZ.nil⟩ fun z hC => ?_
 obtain ⟨k,n,r,xs⟩ := z;dsimp only at hC ⊢;obtain ⟨hk0,hn,hz⟩ := hC;have hn3 := arUp_len x k;refine .sq<|.sr<|.m Z Z<|.yv (.lss Z Z) Z<|.nt<|.cd Z (fun h6 => ?_) (fun h6 => ?_)
 ·try simp only [dt] at h6
  have hk3 : k < 3 := by omega
  refine .sk<|.tN<|.sq<|.bk<|.bk<|.sr<|.m Z Z<|.yv (.fieldAddr Z Fx.field121_2) Z<|.yv (.load Z Fx.agg119 (.tail _<|.head _) Z) Z<|.yv (.lenSl Fx.sl119 Z) Z<|.yv (.lss Z Z) Z<|.a Z Z<|.nt<|.cd Z (fun h9 => ?_) (fun h9 => ?_)
  ·try simp only [dt] at h9
   have hk : k < x.hs.length := by omega
   obtain ⟨bE,oE,cE,hpE,rE,lE,mE⟩ := h1.elem (map_at (f := dCd) hk);cases hpE;obtain ⟨pc,cc,rfl,_⟩ := cd_open rE;exact .rg<|.m Z Z<|.yv (.fieldAddr Z Fx.field121_2) Z<|.yv (.load Z Fx.agg119 (.tail _<|.head _) Z) Z<|.m Z Z<|.yv (.indexSl Fx.sl119 Z Z Z (by omega) (q := oE + k * 2) Z) Z<|.yv (.fieldAddr Z Fx.field129_0) Z<|.yv (.loadM Z Fx.agg5 mE (k := 0) Z Z) Z<|.yv (.rem Z Z (by decide) (c := ((x.hs[k].ps.toNat % 3 : Nat) : Int)) (by rw [Int.tmod_eq_emod_of_nonneg (by omega)];omega)) Z<|.yv (.conv Z Fx.int5 Fx.int3 (c := ((x.hs[k].ps.toNat % 3 : Nat) : Int)) (w6 (by omega))) Z<|.bl Z (Fx.bsl124_1 _) Z fun b24 => .ap (news := [.int .i64 (x.hs[k].ps.toNat % 3 : Nat)]) Fx.row124 Z (fun _ => (.tail<|.head)) Z (.box (.head _) z0) Z (by simp [Value.oneCell']) (by simp [maxLen];omega) (by omega) Z fun r25 _ => .a Z Z<|.nl<|.bN<|.bN<|.tN<|.rg<|.m Z Z<|.yv (.add Z Z (w6 (by omega))) Z<|.a Z Z<|.nt<|.ag (x := (k,n,r,xs)) (k + 1,n + 1,r25,xs ++ [.int .i64 (x.hs[k].ps.toNat % 3 : Nat)]) ⟨rfl,rfl,trivial⟩ ⟨rfl,trivial⟩ (fun _ s => (s.pick [1,2] _ Z Z)) (by have hA1 : arK x k = [x.hs[k].ps.toNat % 3] := (by unfold arK;rw [dif_pos hk]);exact ⟨by dsimp only;omega,by dsimp only;rw [arUp_succ,hA1];simp [hn],by dsimp only;rw [arUp_succ,hA1,List.map_append];exact hz.snoc (nat_shut _) Z⟩) (by dsimp only;omega)
  try simp only [df] at h9
  have hna : ¬ k < x.hs.length := by omega
  refine .sr<|.m Z Z<|.yv (.eql Z Z) Z<|.a Z Z<|.nt<|.cd Z (fun h26 => ?_) (fun h26 => ?_)
  ·try simp only [dt] at h26
   have hb : k = 0 := by omega
   exact .rg<|.m Z Z<|.bl Z (Fx.bsl124_1 _) Z fun b30 => .ap (news := [.int .i64 (1 : Nat)]) Fx.row124 Z (fun _ => (.tail<|.head)) Z (.box (.head _) z0) Z (by simp [Value.oneCell']) (by simp [maxLen];omega) (by omega) Z fun r31 _ => .a Z Z<|.nl<|.bN<|.bN<|.tN<|.rg<|.m Z Z<|.yv (.add Z Z (w6 (by omega))) Z<|.a Z Z<|.nt<|.ag (x := (k,n,r,xs)) (k + 1,n + 1,r31,xs ++ [.int .i64 (1 : Nat)]) ⟨rfl,rfl,trivial⟩ ⟨rfl,trivial⟩ (fun _ s => (s.pick [1,2] _ Z Z)) (by have hA1 : arK x k = [1] := (by unfold arK;rw [dif_neg hna,if_pos hb]);exact ⟨by dsimp only;omega,by dsimp only;rw [arUp_succ,hA1];simp [hn],by dsimp only;rw [arUp_succ,hA1,List.map_append];exact hz.snoc (nat_shut _) Z⟩) (by dsimp only;omega)
  try simp only [df] at h26
  have hnb : ¬ k = 0 := by omega
  refine .sr<|.m Z Z<|.yv (.fieldAddr Z Fx.field121_3) Z<|.yv (.load Z Fx.agg119 (.tail _<|.head _) Z) Z<|.yv (.lenSl Fx.sl119 Z) Z<|.yv (.lss Z Z) Z<|.a Z Z<|.nt<|.cd Z (fun h32 => ?_) (fun h32 => ?_)
  ·try simp only [dt] at h32
   have hk : k < x.sec.length := by omega
   obtain ⟨bE,oE,cE,hpE,rE,lE,mE⟩ := h2.elem (map_at (f := dCd) hk);cases hpE;obtain ⟨pc,cc,rfl,_⟩ := cd_open rE;exact .rg<|.m Z Z<|.yv (.fieldAddr Z Fx.field121_3) Z<|.yv (.load Z Fx.agg119 (.tail _<|.head _) Z) Z<|.m Z Z<|.yv (.indexSl Fx.sl119 Z Z Z (by omega) (q := oE + k * 2) Z) Z<|.yv (.fieldAddr Z Fx.field129_0) Z<|.yv (.loadM Z Fx.agg5 mE (k := 0) Z Z) Z<|.yv (.rem Z Z (by decide) (c := ((x.sec[k].ps.toNat % 3 : Nat) : Int)) (by rw [Int.tmod_eq_emod_of_nonneg (by omega)];omega)) Z<|.yv (.conv Z Fx.int5 Fx.int3 (c := ((x.sec[k].ps.toNat % 3 : Nat) : Int)) (w6 (by omega))) Z<|.bl Z (Fx.bsl124_1 _) Z fun b47 => .ap (news := [.int .i64 (x.sec[k].ps.toNat % 3 : Nat)]) Fx.row124 Z (fun _ => (.tail<|.head)) Z (.box (.head _) z0) Z (by simp [Value.oneCell']) (by simp [maxLen];omega) (by omega) Z fun r48 _ => .a Z Z<|.nl<|.bN<|.bN<|.tN<|.rg<|.m Z Z<|.yv (.add Z Z (w6 (by omega))) Z<|.a Z Z<|.nt<|.ag (x := (k,n,r,xs)) (k + 1,n + 1,r48,xs ++ [.int .i64 (x.sec[k].ps.toNat % 3 : Nat)]) ⟨rfl,rfl,trivial⟩ ⟨rfl,trivial⟩ (fun _ s => (s.pick [1,2] _ Z Z)) (by have hA1 : arK x k = [x.sec[k].ps.toNat % 3] := (by unfold arK;rw [dif_neg hna,if_neg hnb,dif_pos hk]);exact ⟨by dsimp only;omega,by dsimp only;rw [arUp_succ,hA1];simp [hn],by dsimp only;rw [arUp_succ,hA1,List.map_append];exact hz.snoc (nat_shut _) Z⟩) (by dsimp only;omega)
  try simp only [df] at h32
  have hnc : ¬ k < x.sec.length := by omega
  exact .sk<|.bN<|.bN<|.tN<|.rg<|.m Z Z<|.yv (.add Z Z (w6 (by omega))) Z<|.a Z Z<|.nt<|.ag (x := (k,n,r,xs)) (k + 1,n,r,xs) ⟨rfl,rfl,trivial⟩ ⟨rfl,trivial⟩ (fun _ s => (s.pick [0,1] _ Z Z)) (by have hA1 : arK x k = [] := (by unfold arK;rw [dif_neg hna,if_neg hnb,dif_neg hnc]);exact ⟨by dsimp only;omega,by dsimp only;rw [arUp_succ,hA1,List.append_nil];exact hn,by dsimp only;rw [arUp_succ,hA1,List.append_nil];exact hz⟩) (by dsimp only;omega)
 try simp only [df] at h6
 obtain rfl : k = 3 := by omega
 refine .ex<|.tE<|.tE<|.bE<|.tN<|.sr<|.m Z Z<|.a Z Z<|.nt<|.rt<|?_
 refine At.pm [0] [_] rfl rfl ?_;refine Sx.freezeSeq (ds := (arUp x 3).map dNat) (by simp [hn]) hz fun H3 p3 c3 u3 hr3 hs3 => ?_;exact Sx.ret1 (.inl rfl) rfl (.tmp rfl) fun W t => ⟨r,H3,hs3,rfl,u3.grow t⟩
theorem fd2 (a m : Nat) : Int.fdiv (a : Int) (2 ^ m) = ((a / 2 ^ m : Nat) : Int) := by
 rw [Int.fdiv_eq_ediv_of_nonneg _ (Int.pow_nonneg (by decide))];rw [Int.natCast_ediv,Int.natCast_pow];rfl
theorem tm2 (a b : Nat) : Int.tmod (a : Int) (b : Int) = ((a % b : Nat) : Int) := by
 rw [Int.tmod_eq_emod_of_nonneg (Int.natCast_nonneg _)];rfl
theorem mulN {n : Nat} (h : n ≤ 3) : IntKind.i64.wrap ((n : Int) * n) = ((n * n : Nat) : Int) := by
 have key : ∀ i ∈ List.range 4,IntKind.i64.wrap ((i : Int) * i) = ((i * i : Nat) : Int) := by decide
 exact key n (List.mem_range.2 (by omega))
theorem quoN {a b : Nat} (h : a / b < 3) : IntKind.i64.wrap (Int.tdiv (a : Int) (b : Int)) = ((a / b : Nat) : Int) := by
 rw [Int.tdiv_eq_ediv_of_nonneg (Int.natCast_nonneg _),show (a : Int) / (b : Int) = ((a / b : Nat) : Int) from rfl];have h3 : ∀ n : Nat,n < 3 → IntKind.i64.wrap (n : Int) = (n : Int) := fun n hn => w64 (by omega) (by omega);exact h3 _ h
theorem take_min3 {α β : Type} {f : α → β} (l : List α) (n : Nat) : (l.map f).take (min l.length n) = (l.map f).take n := by
 have := take_min (l.map f) n
 rwa [List.length_map] at this
theorem vrI_shut {H : Hp} {j : Nat} (h : j < 10) : Rep H (dVr .i64 (vrI j)) [strV (nmB 120 j),.int .i64 1,.int .i64 (j : Nat)] := by
 have := vr_shut (H := H) (k := .i64) (x := vrI j) (by simp [vrI,nmB]);have e : (Int64.ofNat j).toInt = (j : Int) := Int64.toInt_ofNat_of_lt (by omega);rw [show (vrI j).init.toInt = (j : Int) from e] at this;exact this
theorem lk_shut4 {H : Hp} (a b : Nat) {n : Nat} (h : n < 4) : Rep H (dLk ⟨abcS a,abcS b,Int64.ofNat n⟩) [strV (abcS a),strV (abcS b),.int .i64 (n : Nat)] := by
 have := lk_shut (H := H) (x := ⟨abcS a,abcS b,Int64.ofNat n⟩) (by simp [abcS]) (by simp [abcS]);have e : (Int64.ofNat n).toInt = (n : Int) := Int64.toInt_ofNat_of_lt (by omega);simp only [e] at this;exact this
theorem lnkP_no {n k : Nat} {l : Bs} (hk : k < l.length) (h : ¬ 0 < l[k].toNat % 4) : lnkP n l k = [] := by unfold lnkP;rw [getD_at hk,if_neg h]
theorem lnkP_yes {n k : Nat} {l : Bs} (hk : k < l.length) (h : 0 < l[k].toNat % 4) : lnkP n l k = [⟨abcS (k / n),abcS (k % n),Int64.ofNat (l[k].toNat % 4)⟩] := by unfold lnkP;rw [getD_at hk,if_pos h]
theorem okB_mk {p : Pln} {k : Nat} {x : Prt} (hk : k < (prtsP p).length) (hf : p.flags.toNat % 3 ≤ 2) (hpos : 0 < (prtsP p).length ∧ (prtsP p).length ≤ 3) (hi : 0 < intsP x ∧ intsP x ≤ 3) : okB (mkP (arsP p) (p.flags.toNat % 3) k x) := by
 refine ⟨hi.1,hi.2,hf,by simpa [mkP,arsP] using hpos.1,by simpa [mkP,arsP] using hpos.2,by simpa [mkP,arsP] using hk,?_⟩;intro l hl;obtain ⟨y,_,rfl⟩ := List.mem_map.1 hl;have := arP_len y;exact ⟨by omega,by omega,fun n hn => arP_mem hn⟩
theorem fst_len {p : Pln} {k nf : Nat} {x : Prt} (hk : k < (prtsP p).length) (h : (arsP p).getD k [] = arP x) : (fstP x).length ≤ arL (mkP (arsP p) nf k x) (mkP (arsP p) nf k x).own := by
 show _ ≤ ((arsP p).getD k []).length;rw [h,arP_len];unfold fstP
 split
 ·simp;omega
 ·rw [List.length_take];omega
theorem sec_len {p : Pln} {k nf : Nat} {x : Prt} (hk : k < (prtsP p).length) (h : (arsP p).getD k [] = arP x) : (x.sec.take 3).length ≤ arL (mkP (arsP p) nf k x) (mkP (arsP p) nf k x).own := by
 show _ ≤ ((arsP p).getD k []).length;rw [h,arP_len,List.length_take];omega
theorem hdsP_pars (M : Mk) (n : Nat) : ∀ (l : List Cd) (k : Nat),hdsP { M with params := n } k l = hdsP M k l
 | [],_ => rfl
 | c :: r,k => by rw [hdsP,hdsP,hdsP_pars M n r (k + 1)];rfl
theorem hdsP_par {H : Hp} {M : Mk} {n : Nat} {l : List Cd} {v : Value} (h : Rep H (.seq 3 ((hdsP { M with params := n } 0 l).map (dHd .i64))) [v]) : Rep H (dVs .i64 (hdsP M 0 l)) [v] := by rwa [hdsP_pars] at h
set_option maxHeartbeats 8000000 in
set_option maxRecDepth 100000 in
theorem build_plan (H : Hp) (p : Pln) (cs : List Value) (w : World) (h : Rep H (dPln p) cs) (hA : Agr H w) : Calls Tryz.prog 15 #[.agg cs.toArray] w fun r w' => ∃ (v : List Value) (H' : Hp),Rep H' (dFt .i64 (buildF p)) v ∧ r = .returned (.agg v.toArray) ∧ Grow H w H' w' := by
 obtain ⟨p1,c1,p2,c2,rfl,h1,h2⟩ := pln_open h;have hcap1 := h1.cap;have hcap2 := h2.cap;refine Sx.enter (H := H) Tryz.func15 rfl Tryz.ntmps15 rfl hA ?_;refine .sr<|.bx Z Z Z fun b1 => .al Fx.zero31 Z fun b2 => .ns<|.yv (.fieldAddr Z Fx.field25_2) Z<|.yv (.load Z Fx.agg23 (.tail _<|.head _) Z) Z<|.yv (.lenSl Fx.sl23 Z) Z<|.yv (.call Fx.call38 Z (fun W s => least_any H p.comps.length 3 W s.agr)) Z<|.a Z Z<|.ns<|.yv (.fieldAddr Z Fx.field25_2) Z<|.yv (.load Z Fx.agg23 (.tail _<|.head _) Z) Z<|.m Z Z<|.yv (.cutHi2 Fx.sl23 Z Z (h := min p.comps.length 3) Z (by have := h2.len.2.1;omega)) Z<|.a Z Z<|.nt<|.cu (X := Nat × Hp × Value) [(1,_),(2,_)] ⟨rfl,rfl,trivial⟩ (fun z => [(3,.int .i64 (z.1 : Nat)),(4,z.2.2)]) (fun z => z.2.1) (fun z => [.box b1 [.int .u8 p.flags.toNat,.slice p1 p.links.length c1,.slice p2 p.comps.length c2] 25,.box b2 [.string ⟨#[]⟩,.slice none 0 0,.slice none 0 0,.slice none 0 0] 31]) (fun z => z.1 = (prtsP p).length ∧ HUp w H z.2.1 ∧ Rep z.2.1 (.seq 4 ((prtsP p).map dPrt)) [z.2.2]) ?_ fun z hC => ?_
 ·
  refine .sr<|.m Z Z<|.yv (.eql Z Z) Z<|.nt<|.cd Z (fun h31 => ?_) (fun h31 => ?_)
  ·try simp only [dt] at h31
   have h0 : p.comps.length = 0 := by omega
   refine .rg<|.yv (.build Z Fx.bld121) Z<|.bl Z (Fx.bsl23_1 _ _ _ _) Z fun b33 => ?_
   refine Sx.freezeBoxN fun H1 u1 m1 => ?_;exact .a Z Z<|.a Z Z<|.nt<|.me (1,H1,_) ⟨rfl,rfl,trivial⟩ ⟨rfl,rfl,trivial⟩ (fun _ s => s.pick [1,0] [_,_] Z Z) ⟨by rw [prtsP,if_pos h0];rfl,u1,by rw [prtsP,if_pos h0];exact Rep.mk (n := 1) (c := 1) m1 (.single (prt_shut (x := ⟨0,0,[],[]⟩) (Rep.empty (by decide)) (Rep.empty (by decide))) Z) Z (Nat.le_refl _) (by decide)⟩
  try simp only [df] at h31
  have h0 : ¬ p.comps.length = 0 := by omega
  exact .sk<|.tN<|.me (min p.comps.length 3,H,_) ⟨rfl,rfl,trivial⟩ ⟨rfl,rfl,trivial⟩ (fun _ s => s.pick [1,0] [_,_] Z Z) ⟨by rw [prtsP,if_neg h0,List.length_take];exact Nat.min_comm _ _,.refl,by rw [prtsP,if_neg h0,List.map_take];have := rep_take2 h2 (hi := min p.comps.length 3) (by omega);rw [take_min3] at this;exact this⟩
 obtain ⟨N,H1,pv⟩ := z;dsimp only at hC ⊢;obtain ⟨hN,u1,hps⟩ := hC;obtain ⟨pp,cp,e,_⟩ := hps.sl;simp only [List.cons.injEq,and_true,List.length_map] at e;subst e;subst hN;have hpos := prtsP_len p;have hl1 := h1.up u1.up;have hpcap := hps.cap;have hf3 : p.flags.toNat % 3 ≤ 2 := by omega
 refine .sr<|.yv (.build Z (Fx.bld31_0 _)) Z<|.al Fx.zero31 Z fun b5 => .sW .head Z Z Fx.size31 (by simp [Value.oneCell',strV]) Z<|.nt<|.sq<|.sr<|.yv (.fieldAddr Z Fx.field25_0) Z<|.yv (.load Z Fx.agg5 (.tail _<|.head _) Z) Z<|.yv (.rem Z Z (by decide) (c := ((p.flags.toNat % 3 : Nat) : Int)) (by rw [Int.tmod_eq_emod_of_nonneg (by omega)];omega)) Z<|.yv (.conv Z Fx.int5 Fx.int3 (c := ((p.flags.toNat % 3 : Nat) : Int)) (w6 (by omega))) Z<|.ct (X := Value) Fx.call39 Z (fun W s => names_any H1 102 (p.flags.toNat % 3) (by omega) W s.agr) Z fun v39 H39 hn39 u39 => ?_
 obtain ⟨pn39,cn39,e39,_⟩ := hn39.sl;simp only [List.cons.injEq,and_true,List.length_map,namesB_len] at e39;subst e39;refine .yv (.lenSl Fx.sl54 Z) Z<|.m Z Z<|?_
 refine Sx.row0 88 2 ?_;refine .nt<|.bk<|.lp (X := Nat × Value × List Value) [(1,_),(2,_),(3,_),(4,_),(5,_),(39,_),(40,_)] ⟨rfl,rfl,rfl,rfl,rfl,rfl,rfl,trivial⟩ [_,_] (fun z => [(41,.int .i64 (z.1 : Nat))]) (fun z => H39) (fun z => [.row 88 2 z.2.1 z.1 z.2.2,.box b5 [strV fleetN,z.2.1,.slice none 0 0,.slice none 0 0] 31]) (fun z => z.1 ≤ (p.flags.toNat % 3) ∧ RepZ H39 2 ((flgsP p.flags z.1).map dFg) z.2.2) (fun z => (p.flags.toNat % 3) - z.1) (0,.slice none 0 0,[]) (fun _ s => s) ⟨rfl,trivial⟩ ⟨by simp,RepZ.nil⟩ fun z hC => ?_
 obtain ⟨k,r,xs⟩ := z;dsimp only at hC ⊢;obtain ⟨hk0,hz⟩ := hC;refine .sr<|.yv (.lss Z Z) Z<|.nt<|.sq<|.cd Z (fun h42 => ?_) (fun h42 => ?_)
 ·try simp only [dt] at h42
  have hk : k < (p.flags.toNat % 3) := by omega
  obtain ⟨bE,oE,hpE,mE⟩ := name_at hn39 (k := k) hk;subst hpE;exact .sk<|.tN<|.sq<|.bk<|.sr<|.m Z Z<|.yv (.indexSl Fx.sl54 Z Z (i := k) Z (by omega) (q := oE + k * 1) Z) Z<|.yv (.loadM Z Fx.agg9 mE (k := 0) Z Z) Z<|.a Z Z<|.a Z Z<|.nt<|.fl (trip := [(_,_,_),(_,_,_),(_,_,_),(_,_,_),(_,_,_),(_,_,_),(_,_,_),(_,_,_),(_,_,_),(_,_,_),(_,_,_),(_,_,_)]) 12 [(0,0),(1,0),(2,0),(3,0),(4,0),(5,0),(6,0),(7,0),(8,0),(9,0),(10,0),(11,1)] (by kernel_rfl) (by kernel_rfl) Z<|.yv (.fieldAddr Z Fx.field31_1) Z<|.yv (.load Z Fx.agg27 (.tail _<|.head _) Z) Z<|.m Z Z<|.yv (.fieldAddr Z Fx.field25_0) Z<|.yv (.load Z Fx.agg5 (.tail _<|.tail _<|.head _) Z) Z<|.m Z Z<|.yv (.add Z Z (c := ((4 + k : Nat) : Int)) ((w6 (by omega)).trans (by omega))) Z<|.yv (.shr Z Z (m := 4 + k) Z (by show 4 + k ≤ 8;omega) (c := ((p.flags.toNat / 2 ^ (4 + k) : Nat) : Int)) (fd2 _ _)) Z<|.yv (.rem Z Z (by decide) (c := ((p.flags.toNat / 2 ^ (4 + k) % 2 : Nat) : Int)) (tm2 _ 2)) Z<|.yv (.eql Z Z) Z<|.yv (.build Z (Fx.bld88_0_1 _ _)) Z<|.bl Z (Fx.bsl27_1 _ _) Z fun b57 => .fn (tl := [_,_,_]) Z<|.ap (news := [strV (nmB 102 k),.bool (flgP p.flags k).init]) Fx.row27 Z (fun _ => (.tail<|.head)) Z (.box (.head _) z0) Z (by simp [Value.oneCell',strV,abcS]) (by simp [maxLen];omega) (by omega) Z fun r58 _ => .ra (.tail _<|.head _) fun p58 c58 e58 => .yv (.fieldAddr Z Fx.field31_1) Z<|.st (.tail<|.tail<|.head) Z Z Fx.size27 (by rw [e58];rfl) (nb Z) Z<|.nl<|.bN<|.tN<|.rg<|.yv (.add Z Z (w6 (by omega))) Z<|.m Z Z<|.nt<|.ag (x := (k,r,xs)) (k + 1,r58,xs ++ [strV (nmB 102 k),.bool (flgP p.flags k).init]) ⟨rfl,trivial⟩ ⟨rfl,rfl,rfl,rfl,rfl,rfl,rfl,trivial⟩ (fun _ s => (s.pick [1,2,3,4] _ Z Z)) ⟨by dsimp only;omega,by dsimp only;rw [flgsP_succ,List.map_append];exact hz.snoc (fg_shut (x := flgP p.flags k) (by simp [flgP,nmB])) Z⟩ (by dsimp only;omega)
 try simp only [df] at h42
 obtain rfl : k = (p.flags.toNat % 3) := by omega
 refine Sx.freezeSeq (ds := (flgsP p.flags (p.flags.toNat % 3)).map dFg) (by simp [flgsP_len]) hz fun H4 p4 c4 u4 e4 hfl => ?_;subst e4;refine .ex<|.tE<|.tE<|.bE<|.tN<|.sr<|.bl Z (Fx.bsl54_3 _ _ _) Z fun b61 => ?_
 refine Sx.freezeBox fun H5 u5 m5 => ?_;refine .a Z Z<|.nt<|.sq<|.sr<|.a Z Z<|?_
 refine Sx.row0 91 3 ?_;have hl5 := h1.up (u1.trans (u39.trans (u4.trans u5))).up;obtain ⟨NN,hNN⟩ : ∃ NN,NN = (prtsP p).length * (prtsP p).length := ⟨_,rfl⟩;have hN9 : NN ≤ 9 := by rw [hNN];exact Nat.mul_le_mul hpos.2 hpos.2
 refine .nt<|.bk<|.lp (X := Nat × Nat × Value × List Value) [(1,_),(2,_),(3,_),(4,_),(5,_),(8,_)] ⟨rfl,rfl,rfl,rfl,rfl,rfl,trivial⟩ [_,_] (fun z => [(9,.int .i64 (z.1 : Nat))]) (fun z => H5) (fun z => [.row 91 3 z.2.2.1 z.2.1 z.2.2.2,.box b5 [strV fleetN,.slice p4 (p.flags.toNat % 3) c4,z.2.2.1,.slice none 0 0] 31]) (fun z => z.1 ≤ p.links.length ∧ z.1 ≤ NN ∧ z.2.1 = (lnksP (prtsP p).length p.links z.1).length ∧ RepZ H5 3 ((lnksP (prtsP p).length p.links z.1).map dLk) z.2.2.2) (fun z => p.links.length - z.1) (0,0,.slice none 0 0,[]) (fun _ s => s) ⟨rfl,trivial⟩ ⟨by simp,by simp,rfl,RepZ.nil⟩ fun z hC => ?_
 obtain ⟨k,m,r,xs⟩ := z;dsimp only at hC ⊢;obtain ⟨hk0,hk1,hm,hz⟩ := hC;have hmk := lnksP_len (prtsP p).length p.links k;refine .sq<|.cu (X := Bool) [(1,_),(2,_),(3,_),(4,_),(5,_),(8,_),(9,_)] ⟨rfl,rfl,rfl,rfl,rfl,rfl,rfl,trivial⟩ (fun z => [(73,.bool z)]) (fun z => H5) (fun z => [.row 91 3 r m xs,.box b5 [strV fleetN,.slice p4 (p.flags.toNat % 3) c4,r,.slice none 0 0] 31,.box b2 [.string ⟨#[]⟩,.slice none 0 0,.slice none 0 0,.slice none 0 0] 31,.box b1 [.int .u8 p.flags.toNat,.slice p1 p.links.length c1,.slice p2 p.comps.length c2] 25]) (fun z => z = decide (k < p.links.length ∧ k < NN)) ?_ fun z hC => ?_
 ·
  refine .rg<|.m Z Z<|.yv (.fieldAddr Z Fx.field25_1) Z<|.yv (.load Z Fx.agg22 (.tail _<|.tail _<|.head _) Z) Z<|.yv (.lenSl Fx.sl22 Z) Z<|.yv (.lss Z Z) Z<|.m Z Z<|.b2 (fun h67 => ?_) (fun h67 => ?_)
  ·try simp only [dt] at h67
   exact .gd Z Z<|.yv (.move Z) Z<|.gd Z Z<|.yv (.move Z) Z<|.gd Z Z<|.yv (.move Z) Z<|.gd Z Z<|.yv (.mul Z Z (c := ((NN : Nat) : Int)) (by rw [hNN];exact mulN hpos.2)) Z<|.gd Z Z<|.yv (.lss Z Z) Z<|.yv (.pickT Z Z) Z<|.nt<|.me _ ⟨rfl,trivial⟩ ⟨rfl,rfl,rfl,rfl,rfl,rfl,rfl,trivial⟩ (fun _ s => s.pick [0,1,3,2] [_,_,_,_] Z Z) (by rw [Bool.eq_iff_iff,decide_eq_true_eq];first | (rw [decide_eq_true_eq];omega) | exact ⟨fun _ => by omega,fun _ => rfl⟩ | exact ⟨fun h => (by cases h),fun h => by omega⟩)
  try simp only [df] at h67
  exact .gF Z Z Z Z<|.gF Z Z Z Z<|.gF Z Z Z Z<|.gF Z Z Z Z<|.gF Z Z Z Z<|.yv (.pickF Z Z) Z<|.nt<|.me _ ⟨rfl,trivial⟩ ⟨rfl,rfl,rfl,rfl,rfl,rfl,rfl,trivial⟩ (fun _ s => s.pick [0,1,3,2] [_,_,_,_] Z Z) (by rw [Bool.eq_iff_iff,decide_eq_true_eq];first | (rw [decide_eq_true_eq];omega) | exact ⟨fun _ => by omega,fun _ => rfl⟩ | exact ⟨fun h => (by cases h),fun h => by omega⟩)
 have e73 := hC;refine .cd Z (fun h73 => ?_) (fun h73 => ?_)
 ·have q73 : k < p.links.length ∧ k < NN := by rw [h73] at e73;exact of_decide_eq_true e73.symm
  obtain ⟨hkl,hkn⟩ := q73;obtain ⟨bE,oE,cE,hpE,rE,lE,mE⟩ := hl5.elem (map_at (f := dU8) hkl);cases hpE;obtain rfl := u8_open rE
  have hdv : k / (prtsP p).length < 3 := by rw [Nat.div_lt_iff_lt_mul hpos.1];calc k < NN := hkn
   _ = (prtsP p).length * (prtsP p).length := hNN
   _ ≤ 3 * (prtsP p).length := Nat.mul_le_mul_right _ hpos.2
  have hmd : k % (prtsP p).length < 3 := Nat.lt_of_lt_of_le (Nat.mod_lt _ hpos.1) hpos.2;refine .sk<|.tN<|.sq<|.bk<|.sr<|.yv (.fieldAddr Z Fx.field25_1) Z<|.yv (.load Z Fx.agg22 (.tail _<|.tail _<|.tail _<|.head _) Z) Z<|.m Z Z<|.yv (.indexSl Fx.sl22 Z Z (i := k) Z (by omega) (q := oE + k * 1) Z) Z<|.yv (.loadM Z Fx.agg5 mE (k := 0) Z Z) Z<|.yv (.rem Z Z (by decide) (c := ((p.links[k].toNat % 4 : Nat) : Int)) (by rw [Int.tmod_eq_emod_of_nonneg (by omega)];omega)) Z<|.yv (.gtr Z Z) Z<|.nt<|.cd Z (fun h82 => ?_) (fun h82 => ?_)
  ·try simp only [dt] at h82
   have hq : 0 < p.links[k].toNat % 4 := by omega
   exact .fl (trip := [(_,_,_),(_,_,_),(_,_,_),(_,_,_),(_,_,_),(_,_,_),(_,_,_),(_,_,_),(_,_,_),(_,_,_),(_,_,_),(_,_,_),(_,_,_),(_,_,_),(_,_,_),(_,_,_),(_,_,_),(_,_,_),(_,_,_),(_,_,_),(_,_,_),(_,_,_),(_,_,_)]) 23 [(0,0),(1,0),(2,0),(3,0),(4,0),(5,0),(6,0),(7,0),(8,0),(9,0),(10,0),(11,0),(12,0),(13,0),(14,0),(15,0),(16,0),(17,0),(18,0),(19,0),(20,0),(21,0),(22,1)] (by kernel_rfl) (by kernel_rfl) Z<|.yv (.fieldAddr Z Fx.field31_2) Z<|.yv (.load Z Fx.agg28 (.tail _<|.head _) Z) Z<|.m Z Z<|.m Z Z<|.m Z Z<|.yv (.quo Z Z (by omega) (c := ((k / (prtsP p).length : Nat) : Int)) (quoN hdv)) Z<|.yv (.indexSl Fx.sl54 Z Z (i := k / (prtsP p).length) Z hdv (q := k / (prtsP p).length) (by omega)) Z<|.yv (.loadM Z Fx.agg9 m5 (k := k / (prtsP p).length) (by omega) (abc_at hdv)) Z<|.m Z Z<|.m Z Z<|.m Z Z<|.yv (.rem Z Z (by omega) (c := ((k % (prtsP p).length : Nat) : Int)) (tm2 _ _)) Z<|.yv (.indexSl Fx.sl54 Z Z (i := k % (prtsP p).length) Z hmd (q := k % (prtsP p).length) (by omega)) Z<|.yv (.loadM Z Fx.agg9 m5 (k := k % (prtsP p).length) (by omega) (abc_at hmd)) Z<|.yv (.fieldAddr Z Fx.field25_1) Z<|.yv (.load Z Fx.agg22 (.tail _<|.tail _<|.tail _<|.head _) Z) Z<|.m Z Z<|.yv (.indexSl Fx.sl22 Z Z (i := k) Z (by omega) (q := oE + k * 1) Z) Z<|.yv (.loadM Z Fx.agg5 mE (k := 0) Z Z) Z<|.yv (.rem Z Z (by decide) (c := ((p.links[k].toNat % 4 : Nat) : Int)) (by rw [Int.tmod_eq_emod_of_nonneg (by omega)];omega)) Z<|.yv (.conv Z Fx.int5 Fx.int3 (c := ((p.links[k].toNat % 4 : Nat) : Int)) (w6 (by omega))) Z<|.yv (.build Z (Fx.bld91_0_1_2 _ _ _)) Z<|.bl Z (Fx.bsl28_1 _ _ _) Z fun b105 => .fn (tl := [_,_,_]) Z<|.ap (news := [strV (abcS (k / (prtsP p).length)),strV (abcS (k % (prtsP p).length)),.int .i64 (p.links[k].toNat % 4 : Nat)]) Fx.row28 Z (fun _ => (.tail<|.head)) Z (.box (.head _) z0) Z (by simp [Value.oneCell',strV,abcS]) (by simp [maxLen];omega) (by omega) Z fun r106 _ => .ra (.tail _<|.head _) fun p106 c106 e106 => .yv (.fieldAddr Z Fx.field31_2) Z<|.st (.tail<|.tail<|.head) Z Z Fx.size28 (by rw [e106];rfl) (nb Z) Z<|.nl<|.bN<|.tN<|.rg<|.m Z Z<|.yv (.add Z Z (w6 (by omega))) Z<|.a Z Z<|.nt<|.ag (x := (k,m,r,xs)) (k + 1,m + 1,r106,xs ++ [strV (abcS (k / (prtsP p).length)),strV (abcS (k % (prtsP p).length)),.int .i64 (p.links[k].toNat % 4 : Nat)]) ⟨rfl,trivial⟩ ⟨rfl,rfl,rfl,rfl,rfl,rfl,trivial⟩ (fun _ s => (s.pick [1,2,4,3] _ Z Z)) (by have hL := lnkP_yes (n := (prtsP p).length) hkl hq;exact ⟨by dsimp only;omega,by dsimp only;omega,by dsimp only;rw [lnksP_succ,hL];simp [hm],by dsimp only;rw [lnksP_succ,hL,List.map_append];exact hz.snoc (lk_shut4 _ _ (by omega)) Z⟩) (by dsimp only;omega)
  try simp only [df] at h82
  have hq : ¬ 0 < p.links[k].toNat % 4 := by omega
  exact .sk<|.bN<|.tN<|.rg<|.m Z Z<|.yv (.add Z Z (w6 (by omega))) Z<|.a Z Z<|.nt<|.ag (x := (k,m,r,xs)) (k + 1,m,r,xs) ⟨rfl,trivial⟩ ⟨rfl,rfl,rfl,rfl,rfl,rfl,trivial⟩ (fun _ s => (s.pick [0,1,3,2] _ Z Z)) (by have hL := lnkP_no (n := (prtsP p).length) hkl hq;exact ⟨by dsimp only;omega,by dsimp only;omega,by dsimp only;rw [lnksP_succ,hL,List.append_nil];exact hm,by dsimp only;rw [lnksP_succ,hL,List.append_nil];exact hz⟩) (by dsimp only;omega)
 have q73 : ¬ (k < p.links.length ∧ k < NN) := by rw [h73] at e73;exact of_decide_eq_false e73.symm
 have hkm : k = min p.links.length ((prtsP p).length * (prtsP p).length) := by rw [← hNN];omega
 subst hkm;subst hm;refine Sx.freezeSeq (ds := (lnksP (prtsP p).length p.links (min p.links.length ((prtsP p).length * (prtsP p).length))).map dLk) (by simp) hz fun H6 p6 c6 u6 e6 hlk => ?_;subst e6;have hfl6 := hfl.up (u5.trans u6).up;have hps6 := hps.up (u39.trans (u4.trans (u5.trans u6))).up;have m56 := m5.up u6.up;refine .ex<|.tE<|.tE<|.bE<|.tN<|.sr<|.a Z Z<|?_
 refine Sx.row0 124 1 ?_;refine .nt<|.sq<|.sr<|.m Z Z<|.yv (.lenSl Fx.sl23 Z) Z<|.m Z Z<|.nt<|.bk<|.lp (X := Nat × Hp × Value × List Value) [(2,_),(4,_),(5,_),(8,_),(108,_),(109,_)] ⟨rfl,rfl,rfl,rfl,rfl,rfl,trivial⟩ [_,_,_] (fun z => [(10,z.2.2.1),(110,.int .i64 (z.1 : Nat))]) (fun z => z.2.1) (fun z => [.row 124 1 z.2.2.1 z.1 z.2.2.2]) (fun z => z.1 ≤ (prtsP p).length ∧ HUp w H6 z.2.1 ∧ RepZ z.2.1 1 ((((prtsP p).take z.1).map arP).map dAr) z.2.2.2) (fun z => (prtsP p).length - z.1) (0,H6,.slice none 0 0,[]) (fun _ s => s) ⟨rfl,rfl,trivial⟩ ⟨by simp,.refl,RepZ.nil⟩ fun z hC => ?_
 obtain ⟨k,H2,r,xs⟩ := z;dsimp only at hC ⊢;obtain ⟨hk0,u2,hz⟩ := hC;refine .sr<|.yv (.lss Z Z) Z<|.nt<|.sq<|.cd Z (fun h111 => ?_) (fun h111 => ?_)
 ·try simp only [dt] at h111
  have hk : k < (prtsP p).length := by omega
  obtain ⟨bE,oE,cE,hpE,rE,lE,mE⟩ := (hps6.up u2.up).elem (map_at (f := dPrt) hk);cases hpE;refine .sk<|.tN<|.sq<|.bk<|.sr<|.yv (.indexSl Fx.sl23 Z Z Z (by omega) (q := oE + k * 4) Z) Z<|.yv (.loadMW Z Fx.agg121 mE lE) Z<|.al Fx.zero121 Z fun b12 => .sV .head Z Z Fx.size121 lE rE.one Z<|.nt<|.rg<|.m Z Z<|.yv (.loadW Z Fx.agg121 (.head _) lE) Z<|.ct (X := Value) Fx.call40 Z (fun W s => arity_prt H2 _ cE W rE s.agr) Z fun v116 H116 hn116 u116 => ?_
  obtain ⟨pn116,cn116,e116,_⟩ := hn116.sl;simp only [List.cons.injEq,and_true,List.length_map] at e116;subst e116;exact .bl Z (Fx.bsl123_1 _ _ _) Z fun b117 => .ap (news := [.slice pn116 (arP (prtsP p)[k]).length cn116]) Fx.row123 Z (fun _ => (.tail<|.tail<|.head)) Z (.box (.head _) z0) Z (by simp [Value.oneCell']) (by simp [maxLen];omega) (by omega) Z fun r118 _ => .a Z Z<|.nl<|.bN<|.tN<|.rg<|.yv (.add Z Z (w6 (by omega))) Z<|.m Z Z<|.nt<|.ag (x := (k,H2,r,xs)) (k + 1,H116,r118,xs ++ [.slice pn116 (arP (prtsP p)[k]).length cn116]) ⟨rfl,rfl,trivial⟩ ⟨rfl,rfl,rfl,rfl,rfl,rfl,trivial⟩ (fun _ s => (s.pick [2,3,4,5] _ Z Z)) ⟨by dsimp only;omega,u2.trans u116,by dsimp only;rw [take_snoc hk,List.map_append,List.map_append];exact (hz.up u116.up).snoc hn116 Z⟩ (by dsimp only;omega)
 try simp only [df] at h111
 obtain rfl : k = (prtsP p).length := by omega
 rw [List.take_length] at hz;refine Sx.freezeSeq (ds := ((prtsP p).map arP).map dAr) (by simp) hz fun H7 p7 c7 u7 e7 har => ?_;subst e7;have u67 := u2.trans u7;have hfl7 := hfl6.up u67.up;have hlk7 := hlk.up u67.up;have hps7 := hps6.up u67.up;have m57 := m56.up u67.up;refine .ex<|.tE<|.tE<|.bE<|.tN<|.sq<|.sr<|.m Z Z<|.yv (.lenSl Fx.sl23 Z) Z<|.m Z Z<|?_
 refine Sx.row0 78 3 ?_;refine .nt<|.bk<|.lp (X := Nat × Hp × Value × List Value) [(2,_),(5,_),(8,_),(10,_),(120,_),(121,_)] ⟨rfl,rfl,rfl,rfl,rfl,rfl,trivial⟩ [_,_] (fun z => [(122,.int .i64 (z.1 : Nat))]) (fun z => z.2.1) (fun z => [.row 78 3 z.2.2.1 z.1 z.2.2.2,.box b5 [strV fleetN,.slice p4 (p.flags.toNat % 3) c4,.slice p6 (lnksP (prtsP p).length p.links (min p.links.length ((prtsP p).length * (prtsP p).length))).length c6,z.2.2.1] 31]) (fun z => z.1 ≤ (prtsP p).length ∧ HUp w H7 z.2.1 ∧ RepZ z.2.1 3 ((cmpsP (arsP p) (p.flags.toNat % 3) ((prtsP p).take z.1)).map (dCp .i64)) z.2.2.2) (fun z => (prtsP p).length - z.1) (0,H7,.slice none 0 0,[]) (fun _ s => s) ⟨rfl,trivial⟩ ⟨by simp,.refl,RepZ.nil⟩ fun z hC => ?_
 obtain ⟨k,H2,rc,xs⟩ := z;dsimp only at hC ⊢;obtain ⟨hk0,u2,hz⟩ := hC;refine .sr<|.yv (.lss Z Z) Z<|.nt<|.sq<|.cd Z (fun h123 => ?_) (fun h123 => ?_)
 ·try simp only [dt] at h123
  have hk : k < (prtsP p).length := by omega
  obtain ⟨bE,oE,cE,hpE,rE,lE,mE⟩ := (hps7.up u2.up).elem (map_at (f := dPrt) hk);cases hpE;have hpa : (arsP p).getD k [] = arP (prtsP p)[k] := by unfold arsP;simp [hk]
  generalize hx : (prtsP p)[k] = x at rE hpa;obtain ⟨q1,d1,q2,d2,rfl,g1,g2⟩ := prt_open rE;have hcap1 := g1.cap;have hcap2 := g2.cap;have hints : 0 < intsP x ∧ intsP x ≤ 3 := by unfold intsP;omega
  have htabs : tabsP x ≤ 1 := by unfold tabsP;omega
  have m52 := m57.up u2.up;have k3 : k < 3 := by omega
  refine .sk<|.tN<|.sq<|.bk<|.sr<|.m Z Z<|.yv (.indexSl Fx.sl23 Z Z Z (by omega) (q := oE + k * 4) Z) Z<|.yv (.loadMW Z Fx.agg121 mE Z) Z<|.al Fx.zero121 Z fun b14 => .a Z Z<|.sW .head Z Z Fx.size121 (by simp [Value.oneCell',strV]) Z<|.ns<|.m Z Z<|.m Z Z<|.yv (.indexSl Fx.sl54 Z Z (i := k) Z k3 (q := k) (by omega)) Z<|.yv (.loadM Z Fx.agg9 m52 (k := k) (by omega) (abc_at k3)) Z<|.yv (.build Z (Fx.bld78_0 _)) Z<|.al Fx.zero78 Z fun b15 => .sW .head Z Z Fx.size78 (by simp [Value.oneCell',strV]) Z<|.nt<|.sq<|.sr<|.yv (.fieldAddr Z Fx.field121_0) Z<|.yv (.load Z Fx.agg5 (.tail _<|.head _) Z) Z<|.yv (.rem Z Z (by decide) (c := ((x.ints.toNat % 3 : Nat) : Int)) (by rw [Int.tmod_eq_emod_of_nonneg (by omega)];omega)) Z<|.yv (.conv Z Fx.int5 Fx.int3 (c := ((x.ints.toNat % 3 : Nat) : Int)) (w6 (by omega))) Z<|.yv (.add Z Z (c := ((intsP x : Nat) : Int)) ((w6 (by omega)).trans (by unfold intsP;omega))) Z<|.ct (X := Value) Fx.call39 Z (fun W s => names_any H2 120 (intsP x) (by omega) W s.agr) Z fun v137 H137 hn137 u137 => ?_
  obtain ⟨pn137,cn137,e137,_⟩ := hn137.sl;simp only [List.cons.injEq,and_true,List.length_map,namesB_len] at e137;subst e137;refine .yv (.lenSl Fx.sl54 Z) Z<|.m Z Z<|?_
  refine Sx.row0 98 3 ?_;refine .nt<|.bk<|.lp (X := Nat × Value × List Value) [(2,_),(5,_),(8,_),(10,_),(13,_),(14,_),(15,_),(120,_),(121,_),(122,_),(137,_),(138,_)] ⟨rfl,rfl,rfl,rfl,rfl,rfl,rfl,rfl,rfl,rfl,rfl,rfl,trivial⟩ [_,_,_,_,_] (fun z => [(139,.int .i64 (z.1 : Nat))]) (fun z => H137) (fun z => [.row 98 3 z.2.1 z.1 z.2.2,.box b15 [strV (abcS k),z.2.1,.slice none 0 0] 78]) (fun z => z.1 ≤ intsP x ∧ RepZ H137 3 ((vrsI z.1).map (dVr .i64)) z.2.2) (fun z => intsP x - z.1) (0,.slice none 0 0,[]) (fun _ s => s) ⟨rfl,trivial⟩ ⟨by simp,RepZ.nil⟩ fun z hC => ?_
  obtain ⟨j,rv,ys⟩ := z;dsimp only at hC ⊢;obtain ⟨hj0,hzv⟩ := hC;refine .sr<|.yv (.lss Z Z) Z<|.nt<|.sq<|.cd Z (fun h140 => ?_) (fun h140 => ?_)
  ·try simp only [dt] at h140
   have hj : j < intsP x := by omega
   obtain ⟨bN,oN,hpN,mN⟩ := name_at hn137 (k := j) hj;subst hpN;exact .sk<|.tN<|.sq<|.bk<|.sr<|.m Z Z<|.yv (.indexSl Fx.sl54 Z Z (i := j) Z (by omega) (q := oN + j * 1) Z) Z<|.yv (.loadM Z Fx.agg9 mN (k := 0) Z Z) Z<|.a Z Z<|.a Z Z<|.nt<|.rg<|.yv (.fieldAddr Z Fx.field78_1) Z<|.yv (.load Z Fx.agg75 (.tail _<|.head _) Z) Z<|.m Z Z<|.m Z Z<|.yv (.build Z (Fx.bld98_0_1_2 _ _ _)) Z<|.bl Z (Fx.bsl75_1 _ _ _) Z fun b149 => .ap (news := [strV (nmB 120 j),.int .i64 1,.int .i64 (j : Nat)]) Fx.row75 Z (fun _ => (.tail<|.head)) Z (.box (.head _) z0) Z (by simp [Value.oneCell',strV,abcS]) (by simp [maxLen];omega) (by omega) Z fun r150 _ => .ra (.tail _<|.head _) fun p150 c150 e150 => .yv (.fieldAddr Z Fx.field78_1) Z<|.st (.tail<|.tail<|.head) Z Z Fx.size75 (by rw [e150];rfl) (nb Z) Z<|.nl<|.bN<|.tN<|.rg<|.yv (.add Z Z (w6 (by omega))) Z<|.m Z Z<|.nt<|.ag (x := (j,rv,ys)) (j + 1,r150,ys ++ [strV (nmB 120 j),.int .i64 1,.int .i64 (j : Nat)]) ⟨rfl,trivial⟩ ⟨rfl,rfl,rfl,rfl,rfl,rfl,rfl,rfl,rfl,rfl,rfl,rfl,trivial⟩ (fun _ s => (s.pick [1,2,3,4,5,6,7] _ Z Z)) ⟨by dsimp only;omega,by dsimp only;rw [vrsI_succ,List.map_append];exact hzv.snoc (vrI_shut (by omega)) Z⟩ (by dsimp only;omega)
  try simp only [df] at h140
  obtain rfl : j = intsP x := by omega
  refine .ex<|.tE<|.tE<|.bE<|.tN<|.sr<|.yv (.fieldAddr Z Fx.field78_1) Z<|.yv (.load Z Fx.agg75 (.tail _<|.head _) Z) Z<|.yv (.build Z (Fx.bld98_0_1_2 _ _ _)) Z<|.bl Z (Fx.bsl75_1 _ _ _) Z fun b156 => .ap (news := [strV [98,48],.int .i64 2,.int .i64 0]) Fx.row75 Z (fun _ => (.tail<|.head)) Z (.box (.head _) z0) Z (by simp [Value.oneCell',strV,abcS]) (by simp [maxLen];omega) (by omega) Z fun r157 _ => .ra (.tail _<|.head _) fun p157 c157 e157 => .yv (.fieldAddr Z Fx.field78_1) Z<|.st (.tail<|.tail<|.head) Z Z Fx.size75 (by rw [e157];rfl) (nb Z) Z<|.nt<|.sq<|.sr<|.yv (.fieldAddr Z Fx.field121_1) Z<|.yv (.load Z Fx.agg5 (.tail _<|.tail _<|.tail _<|.head _) Z) Z<|.yv (.rem Z Z (by decide) (c := ((x.tables.toNat % 2 : Nat) : Int)) (by rw [Int.tmod_eq_emod_of_nonneg (by omega)];omega)) Z<|.yv (.conv Z Fx.int5 Fx.int3 (c := ((tabsP x : Nat) : Int)) ((w6 (by omega)).trans (by unfold tabsP;omega))) Z<|.ct (X := Value) Fx.call39 Z (fun W s => names_any H137 116 (tabsP x) (by omega) W s.agr) Z fun v163 H163 hn163 u163 => ?_
  obtain ⟨pn163,cn163,e163,_⟩ := hn163.sl;simp only [List.cons.injEq,and_true,List.length_map,namesB_len] at e163;subst e163;refine .yv (.lenSl Fx.sl54 Z) Z<|.m Z Z<|.nt<|.bk<|.pm [1,2,0,3,4,5,6,7] [_,_,_,_,_,_,_,_] Z Z<|.lp (X := Nat × Value × List Value) [(2,_),(5,_),(8,_),(10,_),(13,_),(14,_),(15,_),(120,_),(121,_),(122,_),(163,_),(164,_)] ⟨rfl,rfl,rfl,rfl,rfl,rfl,rfl,rfl,rfl,rfl,rfl,rfl,trivial⟩ [_,_,_,_,_,_] (fun z => [(165,.int .i64 (z.1 : Nat))]) (fun z => H163) (fun z => [.row 98 3 z.2.1 (intsP x + 1 + z.1) z.2.2,.box b15 [strV (abcS k),z.2.1,.slice none 0 0] 78]) (fun z => z.1 ≤ tabsP x ∧ RepZ H163 3 ((vrsI (intsP x) ++ [vrB] ++ vrsT z.1).map (dVr .i64)) z.2.2) (fun z => tabsP x - z.1) (0,r157,ys ++ [strV [98,48],.int .i64 2,.int .i64 0]) (fun _ s => s) ⟨rfl,trivial⟩ ⟨by simp,by dsimp only;rw [show vrsT 0 = [] from Z,List.append_nil,List.map_append];exact (hzv.up u163.up).snoc (vr_shut (x := vrB) (by decide)) Z⟩ fun z hC => ?_
  obtain ⟨i,rv2,zs⟩ := z;dsimp only at hC ⊢;obtain ⟨hi0,hzt⟩ := hC;refine .sr<|.yv (.lss Z Z) Z<|.nt<|.sq<|.cd Z (fun h166 => ?_) (fun h166 => ?_)
  ·try simp only [dt] at h166
   have hi : i < tabsP x := by omega
   obtain ⟨bN,oN,hpN,mN⟩ := name_at hn163 (k := i) hi;subst hpN;exact .sk<|.tN<|.sq<|.bk<|.sr<|.yv (.indexSl Fx.sl54 Z Z (i := i) Z (by omega) (q := oN + i * 1) Z) Z<|.yv (.loadM Z Fx.agg9 mN (k := 0) Z Z) Z<|.a Z Z<|.nt<|.rg<|.yv (.fieldAddr Z Fx.field78_1) Z<|.yv (.load Z Fx.agg75 (.tail _<|.head _) Z) Z<|.m Z Z<|.yv (.build Z (Fx.bld98_0_1_2 _ _ _)) Z<|.bl Z (Fx.bsl75_1 _ _ _) Z fun b173 => .ap (news := [strV (nmB 116 i),.int .i64 3,.int .i64 0]) Fx.row75 Z (fun _ => (.tail<|.head)) Z (.box (.head _) z0) Z (by simp [Value.oneCell',strV,abcS]) (by simp [maxLen];omega) (by omega) Z fun r174 _ => .ra (.tail _<|.head _) fun p174 c174 e174 => .yv (.fieldAddr Z Fx.field78_1) Z<|.st (.tail<|.tail<|.head) Z Z Fx.size75 (by rw [e174];rfl) (nb Z) Z<|.nl<|.bN<|.tN<|.rg<|.yv (.add Z Z (w6 (by omega))) Z<|.m Z Z<|.nt<|.ag (x := (i,rv2,zs)) (i + 1,r174,zs ++ [strV (nmB 116 i),.int .i64 3,.int .i64 0]) ⟨rfl,trivial⟩ ⟨rfl,rfl,rfl,rfl,rfl,rfl,rfl,rfl,rfl,rfl,rfl,rfl,trivial⟩ (fun _ s => (s.pick [1,2,3,4,5,6,7,8] _ Z Z)) ⟨by dsimp only;omega,by dsimp only;rw [vrsT_succ,← List.append_assoc,List.map_append];exact hzt.snoc (vr_shut (x := vrT0 i) (by simp [vrT0,nmB])) Z⟩ (by dsimp only;omega)
  try simp only [df] at h166
  obtain rfl : i = tabsP x := by omega
  refine Sx.freezeSeq (ds := (varsP x).map (dVr .i64)) (by simp [varsP,vrsI_len,vrsT_len];omega) hzt fun H8 pV cV u8 e8 hV => ?_;subst e8;have uB := u137.trans (u163.trans u8);have g1b := g1.up uB.up;have g2b := g2.up uB.up;have harb := har.up (u2.trans uB).up;refine .ex<|.tE<|.tE<|.bE<|.tN<|.sr<|.yv (.fieldAddr Z Fx.field121_0) Z<|.yv (.load Z Fx.agg5 (.tail _<|.tail _<|.head _) Z) Z<|.yv (.rem Z Z (by decide) (c := ((x.ints.toNat % 3 : Nat) : Int)) (by rw [Int.tmod_eq_emod_of_nonneg (by omega)];omega)) Z<|.yv (.conv Z Fx.int5 Fx.int3 (c := ((x.ints.toNat % 3 : Nat) : Int)) (w6 (by omega))) Z<|.yv (.add Z Z (c := ((intsP x : Nat) : Int)) ((w6 (by omega)).trans (by unfold intsP;omega))) Z<|.yv (.fieldAddr Z Fx.field121_1) Z<|.yv (.load Z Fx.agg5 (.tail _<|.tail _<|.head _) Z) Z<|.yv (.rem Z Z (by decide) (c := ((x.tables.toNat % 2 : Nat) : Int)) (by rw [Int.tmod_eq_emod_of_nonneg (by omega)];omega)) Z<|.yv (.conv Z Fx.int5 Fx.int3 (c := ((tabsP x : Nat) : Int)) ((w6 (by omega)).trans (by unfold tabsP;omega))) Z<|.yv (.fieldAddr Z Fx.field31_1) Z<|.yv (.load Z Fx.agg27 (.tail _<|.tail _<|.tail _<|.tail _<|.head _) Z) Z<|.yv (.lenSl Fx.sl27 Z) Z<|.m Z Z<|.m Z Z<|.yv (.build Z (Fx.bld127_0_1_2_3_4 _ _ _ _ _ _ _)) Z<|.al Fx.zero127 Z fun b20 => .sW .head Z Z Fx.size127 (by simp [Value.oneCell',strV]) Z<|.nt<|.sq<|.fl (trip := [(_,_,_),(_,_,_),(_,_,_),(_,_,_),(_,_,_),(_,_,_),(_,_,_)]) 7 [(0,0),(1,0),(2,0),(3,0),(4,0),(5,0),(6,0)] (by kernel_rfl) (by kernel_rfl) Z<|.yv (.fieldAddr Z Fx.field121_2) Z<|.yv (.load Z Fx.agg119 (.tail _<|.tail _<|.tail _<|.head _) Z) Z<|.yv (.fieldAddr Z Fx.field121_2) Z<|.yv (.load Z Fx.agg119 (.tail _<|.tail _<|.tail _<|.head _) Z) Z<|.yv (.lenSl Fx.sl119 Z) Z<|.yv (.call Fx.call38 Z (fun W s => least_any H8 x.hs.length 3 W s.agr)) Z<|.yv (.cutHi2 Fx.sl119 Z Z (h := min x.hs.length 3) Z (by have := g1b.len.2.1;omega)) Z<|.fn (tl := [_]) Z<|.a Z Z<|.nt<|.cu (X := Hp × Value) [(2,_),(5,_),(8,_),(10,_),(14,_),(15,_),(20,_),(120,_),(121,_),(122,_)] ⟨rfl,rfl,rfl,rfl,rfl,rfl,rfl,rfl,rfl,rfl,trivial⟩ (fun z => [(21,z.2)]) (fun z => z.1) (fun z => [.box b20 (mkC (mkP (arsP p) (p.flags.toNat % 3) k x) (.slice p7 (prtsP p).length c7) (.slice none 0 0) 0) 127,.box b15 [strV (abcS k),.slice pV (intsP x + 1 + tabsP x) cV,.slice none 0 0] 78,.box b14 [.int .u8 x.ints.toNat,.int .u8 x.tables.toNat,.slice q1 x.hs.length d1,.slice q2 x.sec.length d2] 121,.row 78 3 rc k xs,.box b5 [strV fleetN,.slice p4 (p.flags.toNat % 3) c4,.slice p6 (lnksP (prtsP p).length p.links (min p.links.length ((prtsP p).length * (prtsP p).length))).length c6,rc] 31,.box b2 [.string ⟨#[]⟩,.slice none 0 0,.slice none 0 0,.slice none 0 0] 31,.box b1 [.int .u8 p.flags.toNat,.slice p1 p.links.length c1,.slice p2 p.comps.length c2] 25]) (fun z => HUp w H8 z.1 ∧ Rep z.1 (.seq 2 ((fstP x).map dCd)) [z.2]) ?_ fun z hC => ?_
  ·
   refine .sr<|.m Z Z<|.yv (.lenSl Fx.sl119 Z) Z<|.yv (.eql Z Z) Z<|.nt<|.cd Z (fun h201 => ?_) (fun h201 => ?_)
   ·try simp only [dt] at h201
    have h0 : x.hs.length = 0 := by omega
    refine .rg<|.yv (.build Z (Fx.bld129_0 _)) Z<|.bl Z (Fx.bsl119_1 _ _) Z fun b203 => ?_
    refine Sx.freezeBoxN fun H9 u9 m9 => ?_;exact .a Z Z<|.nt<|.me (H9,_) ⟨rfl,trivial⟩ ⟨rfl,rfl,rfl,rfl,rfl,rfl,rfl,rfl,rfl,rfl,trivial⟩ (fun _ s => s.pick [0,1,3,4,5,6,7] [_,_,_,_,_,_,_] Z Z) ⟨u9,by rw [fstP,if_pos h0];exact Rep.mk (n := 1) (c := 1) m9 (.single (cd_shut (x := ⟨1,[]⟩) (Rep.empty (by decide))) Z) Z (Nat.le_refl _) (by decide)⟩
   try simp only [df] at h201
   have h0 : ¬ x.hs.length = 0 := by omega
   exact .sk<|.tN<|.me (H8,_) ⟨rfl,trivial⟩ ⟨rfl,rfl,rfl,rfl,rfl,rfl,rfl,rfl,rfl,rfl,trivial⟩ (fun _ s => s.pick [0,1,3,4,5,6,7] [_,_,_,_,_,_,_] Z Z) ⟨.refl,by rw [fstP,if_neg h0,List.map_take];have := rep_take2 g1b (hi := min x.hs.length 3) (by omega);rwa [take_min3] at this⟩
  obtain ⟨H9,fv⟩ := z;dsimp only at hC ⊢;obtain ⟨u9,hfs⟩ := hC;have hoB : okB (mkP (arsP p) (p.flags.toNat % 3) k x) := okB_mk hk hf3 hpos hints;have hfl3 := fst_len (nf := p.flags.toNat % 3) hk hpa;have hsl3 := sec_len (nf := p.flags.toNat % 3) hk hpa;have g2c := g2b.up u9.up;refine Sx.row0 79 1 ?_;refine .sq<|.fl (trip := [(_,_,_),(_,_,_),(_,_,_),(_,_,_),(_,_,_)]) 5 [(0,0),(1,0),(2,0),(3,3),(4,1)] (by kernel_rfl) (by kernel_rfl) Z<|.yv (.fieldAddr Z Fx.field78_2) Z<|.yv (.load Z Fx.agg76 (.tail _<|.tail _<|.head _) Z) Z<|.m Z Z<|.c3 (X := Value × Nat × Hp × Value × Int) Fx.call41 Z (fun W s => handlers_st (mkP (arsP p) (p.flags.toNat % 3) k x) hoB (fstP x) hfl3 H9 w W _ b20 _ _ _ _  hfs (by simpa [mkP,arsP] using harb.up u9.up) (s.pick [1,0,2,3,4,5,6,7] [_,_,_,_,_,_,_,_] Z Z)) Z (fun z207 hz207 => (.done (by kernel_rfl)<|.yv (.load Z Fx.agg76 (.tail _<|.tail _<|.head _) Z)<|.yv (.fieldAddr Z Fx.field78_2)<|.nl)) fun z207 hz207 => ?_
  obtain ⟨v207,pv207,H207,bv207,lf207⟩ := z207;obtain ⟨u207,rr207⟩ := hz207;dsimp only at u207 rr207 ⊢;obtain ⟨pn207,cn207,e207,_⟩ := rr207.sl;simp only [List.cons.injEq,and_true,List.length_map,hdsP_len] at e207;subst e207;refine .bl Z (Fx.bsl76_1 _ _ _) Z fun b208 => .fn (tl := [_,_,_]) Z<|.ap (news := [.slice pn207 (fstP x).length cn207]) Fx.row76 Z (fun _ => (.tail<|.tail<|.head)) Z (.box (.head _) z0) Z (by simp [Value.oneCell']) (by simp [maxLen]) (by omega) Z fun r209 _ => .ra (.tail _<|.tail _<|.head _) fun p209 c209 e209 => .yv (.fieldAddr Z Fx.field78_2) Z<|.st (.tail<|.tail<|.tail<|.head) Z Z Fx.size76 (by rw [e209];rfl) (nb Z) Z<|.nt<|.cu (X := Hp × Value × List Value) [(2,_),(5,_),(8,_),(10,_),(15,_),(120,_),(121,_),(122,_)] ⟨rfl,rfl,rfl,rfl,rfl,rfl,rfl,rfl,trivial⟩ (fun z => []) (fun z => z.1) (fun z => [.row 79 1 z.2.1 (vssP (mkP (arsP p) (p.flags.toNat % 3) k x) x).length z.2.2,.box b15 [strV (abcS k),.slice pV (intsP x + 1 + tabsP x) cV,z.2.1] 78,.row 78 3 rc k xs,.box b5 [strV fleetN,.slice p4 (p.flags.toNat % 3) c4,.slice p6 (lnksP (prtsP p).length p.links (min p.links.length ((prtsP p).length * (prtsP p).length))).length c6,rc] 31,.box b2 [.string ⟨#[]⟩,.slice none 0 0,.slice none 0 0,.slice none 0 0] 31,.box b1 [.int .u8 p.flags.toNat,.slice p1 p.links.length c1,.slice p2 p.comps.length c2] 25]) (fun z => HUp w H9 z.1 ∧ RepZ z.1 1 ((vssP (mkP (arsP p) (p.flags.toNat % 3) k x) x).map (dVs .i64)) z.2.2) ?_ fun z hC => ?_
  ·
   refine .sr<|.yv (.fieldAddr Z Fx.field121_3) Z<|.yv (.load Z Fx.agg119 (.tail _<|.tail _<|.tail _<|.tail _<|.head _) Z) Z<|.yv (.lenSl Fx.sl119 Z) Z<|.yv (.gtr Z Z) Z<|.nt<|.cd Z (fun h214 => ?_) (fun h214 => ?_)
   ·try simp only [dt] at h214
    have hsc : 0 < x.sec.length := by omega
    refine .fl (trip := [(_,_,_),(_,_,_),(_,_,_),(_,_,_),(_,_,_),(_,_,_),(_,_,_),(_,_,_),(_,_,_),(_,_,_),(_,_,_)]) 11 [(0,0),(1,0),(2,0),(3,0),(4,0),(5,0),(6,0),(7,0),(8,0),(9,3),(10,1)] (by kernel_rfl) (by kernel_rfl) Z<|.yv (.fieldAddr Z Fx.field78_2) Z<|.yv (.load Z Fx.agg76 (.tail _<|.tail _<|.tail _<|.head _) Z) Z<|.yv (.fieldAddr Z Fx.field121_3) Z<|.yv (.load Z Fx.agg119 (.tail _<|.tail _<|.tail _<|.tail _<|.head _) Z) Z<|.yv (.fieldAddr Z Fx.field121_3) Z<|.yv (.load Z Fx.agg119 (.tail _<|.tail _<|.tail _<|.tail _<|.head _) Z) Z<|.yv (.lenSl Fx.sl119 Z) Z<|.yv (.call Fx.call38 Z (fun W s => least_any H207 x.sec.length 3 W s.agr)) Z<|.yv (.cutHi2 Fx.sl119 Z Z (h := min x.sec.length 3) Z (by have := g2c.len.2.1;omega)) Z<|.c3 (X := Value × Nat × Hp × Value × Int) Fx.call41 Z (fun W s => handlers_st { (mkP (arsP p) (p.flags.toNat % 3) k x) with params := pv207 } hoB (x.sec.take 3) hsl3 H207 w W _ b20 _ _ _ _  (by have := rep_take2 (g2c.up u207.up) (hi := min x.sec.length 3) (by omega);rw [take_min3,← List.map_take] at this;exact this) (by simpa [mkP,arsP] using harb.up (u9.trans u207).up) (s.pick [1,0,2,3,4,5,6,7,8] [_,_,_,_,_,_,_,_,_] Z Z)) Z (fun z224 hz224 => (.done (by kernel_rfl)<|.done (by kernel_rfl)<|.done (by kernel_rfl)<|.done (by kernel_rfl)<|.done (by kernel_rfl)<|.done (by kernel_rfl)<|.done (by kernel_rfl)<|.yv (.load Z Fx.agg76 (.tail _<|.tail _<|.tail _<|.head _) Z)<|.yv (.fieldAddr Z Fx.field78_2)<|.nl)) fun z224 hz224 => ?_
    obtain ⟨v224,pv224,H224,bv224,lf224⟩ := z224;obtain ⟨u224,rr224⟩ := hz224;dsimp only at u224 rr224 ⊢;obtain ⟨pn224,cn224,e224,_⟩ := rr224.sl;simp only [List.cons.injEq,and_true,List.length_map,hdsP_len] at e224;subst e224;exact .bl Z (Fx.bsl76_1 _ _ _) Z fun b225 => .fn (tl := [_,_,_]) Z<|.ap (news := [.slice pn224 (x.sec.take 3).length cn224]) Fx.row76 Z (fun _ => (.tail<|.tail<|.tail<|.head)) Z (.box (.head _) z0) Z (by simp [Value.oneCell']) (by simp [maxLen]) (by omega) Z fun r226 _ => .ra (.tail _<|.tail _<|.tail _<|.head _) fun p226 c226 e226 => .yv (.fieldAddr Z Fx.field78_2) Z<|.st (.tail<|.tail<|.tail<|.tail<|.head) Z Z Fx.size76 (by rw [e226];rfl) (nb Z) Z<|.nt<|.me (H224,r226,_) trivial ⟨rfl,rfl,rfl,rfl,rfl,rfl,rfl,rfl,trivial⟩ (fun _ s => by rw [show (vssP (mkP (arsP p) (p.flags.toNat % 3) k x) x).length = 0 + 1 + 1 by rw [vssP,if_pos hsc];rfl];exact (s.pick [3,4,6,7,8,9] _ Z Z)) ⟨u207.trans u224,by rw [vssP,if_pos hsc];exact RepZ.app (.single (rr207.up u224.up) Z) (.single (hdsP_par rr224) Z)⟩
   try simp only [df] at h214
   have hsc : ¬ 0 < x.sec.length := by omega
   exact .sk<|.tN<|.me (H207,r209,_) trivial ⟨rfl,rfl,rfl,rfl,rfl,rfl,rfl,rfl,trivial⟩ (fun _ s => by rw [show (vssP (mkP (arsP p) (p.flags.toNat % 3) k x) x).length = 0 + 1 by rw [vssP,if_neg hsc];rfl];exact (s.pick [2,3,5,6,7,8] _ Z Z)) ⟨u207,by rw [vssP,if_neg hsc];exact .single rr207 Z⟩
  obtain ⟨H10,rs,ws⟩ := z;dsimp only at hC ⊢;obtain ⟨u10,hzs⟩ := hC;refine Sx.freezeSeq (ds := (vssP (mkP (arsP p) (p.flags.toNat % 3) k x) x).map (dVs .i64)) (by simp) hzs fun HE pS cS u11 e11 hSE => ?_;subst e11;have uE := uB.trans (u9.trans (u10.trans u11));have hVE := hV.up (u9.trans (u10.trans u11)).up;exact .rg<|.yv (.fieldAddr Z Fx.field31_3) Z<|.yv (.load Z Fx.agg29 (.tail _<|.tail _<|.head _) Z) Z<|.yv (.loadW Z Fx.agg78 (.head _) Z) Z<|.bl Z (Fx.bsl29_1 _ _ _) Z fun b231 => .ap (news := [strV (abcS k),.slice pV (intsP x + 1 + tabsP x) cV,.slice pS (vssP (mkP (arsP p) (p.flags.toNat % 3) k x) x).length cS]) Fx.row29 Z (fun _ => (.tail<|.tail<|.head)) Z (.box (.head _) z0) Z (by simp [Value.oneCell',strV,abcS]) (by simp [maxLen];omega) (by omega) Z fun r232 _ => .ra (.tail _<|.tail _<|.head _) fun p232 c232 e232 => .yv (.fieldAddr Z Fx.field31_3) Z<|.st (.tail<|.tail<|.tail<|.head) Z Z Fx.size29 (by rw [e232];rfl) (nb Z) Z<|.nl<|.bN<|.tN<|.rg<|.yv (.add Z Z (w6 (by omega))) Z<|.m Z Z<|.nt<|.ag (x := (k,H2,rc,xs)) (k + 1,HE,r232,xs ++ [strV (abcS k),.slice pV (intsP x + 1 + tabsP x) cV,.slice pS (vssP (mkP (arsP p) (p.flags.toNat % 3) k x) x).length cS]) ⟨rfl,trivial⟩ ⟨rfl,rfl,rfl,rfl,rfl,rfl,trivial⟩ (fun _ s => (s.pick [2,3,4,5] _ Z Z)) ⟨by dsimp only;omega,u2.trans uE,by dsimp only;rw [cmpsP_succ hk,hx,List.map_append];exact (hz.up uE.up).snoc (cp_shut (x := cmpP (arsP p) (p.flags.toNat % 3) k x) (by simp [cmpP,abcS]) hVE hSE) Z⟩ (by dsimp only;omega)
 try simp only [df] at h123
 obtain rfl : k = (prtsP p).length := by omega
 rw [List.take_length] at hz;refine Sx.freezeSeq (ds := (cmpsP (arsP p) (p.flags.toNat % 3) (prtsP p)).map (dCp .i64)) (by simp [cmpsP_len]) hz fun HF pc cc uF eF hcs => ?_;subst eF;have uZ := u2.trans uF;refine .ex<|.tE<|.tE<|.bE<|.tN<|.sr<|.yv (.loadW Z Fx.agg31 (.head _) Z) Z<|.sW (.tail<|.head) Z Z Fx.size31 (by simp [Value.oneCell',strV]) Z<|.nt<|.rt<|?_
 exact Sx.ret1 (.inl rfl) rfl (.cell rfl Fx.agg31 (.tail _<|.head _) rfl) fun W t => ⟨_,HF,ft_shut (x := buildF p) (show fleetN.length ≤ 1000000 by decide) (hfl7.up uZ.up) (hlk7.up uZ.up) hcs,rfl,((((u1.trans (u39.trans (u4.trans (u5.trans u6)))).trans u67).trans uZ).grow t)⟩
theorem pbEq (P : Pb) (Q : Pb) (h : P = Q) {ks : List (Nat × EK)} (hk : ks = [(0,.s),(1,.s),(2,.i)]) : eqVs ks (pbV P) (pbV Q) = some true := by
 subst h;subst hk;simp [eqVs,pbV,eqV1,strV]
theorem buildF_sm (p : Pln) : ∀ c ∈ (buildF p).comps,CpSm c := by
 intro c hc;have hok := (buildF_ok p).all c hc;simp only [buildF,cmpsP] at hc;obtain ⟨i,hi,rfl⟩ := List.mem_mapIdx.1 hc;refine ⟨by simp [cmpP,abcS],?_,fun v hv h hh => ((hok.all v hv).all h hh).body.cnt⟩;show (vssP _ _).length < 99;unfold vssP
 split <;> simp
theorem okS1_of {N : Nat} : ∀ s,okS2 N s = true → okS1 s = true
 | .mk _ _ _ ex _ _,h => by
  simp only [okS2,Bool.and_eq_true,List.all_eq_true] at h;simp only [okS1,List.all_eq_true,decide_eq_true_eq];intro e he;have := h.2 e he;simp only [okE,Bool.and_eq_true,decide_eq_true_eq] at this;omega
theorem evH_ok {N : Nat} (hN : N ≤ 1000000) {f : Ft} (h : okFt N f) : evH okH f = true := by
 simp only [evH,List.all_eq_true];intro c hc v hv x hx;have k := ((h.all c hc).all v hv).all x hx;have k1 := k.body.cnt;have k2 := k.body.dep;simp only [okH,Bool.and_eq_true,decide_eq_true_eq];exact ⟨⟨by omega,by omega⟩,salls_imp okS1_of _ k.body.all⟩
theorem repS1 {H : Hp} : ∀ l : List Str,(∀ s ∈ l,s.length ≤ 1000000) → RepZ H 1 (l.map dStr) (l.map strV)
 | [],_ => RepZ.nil
 | s :: r,h => by
  have := RepZ.app (RepZ.single (H := H) (str_shut (h s (List.mem_cons_self ..))) (rfl : [strV s].length = 1)) (repS1 r fun x hx => h x (List.mem_cons_of_mem _ hx));exact this
set_option maxRecDepth 100000 in
theorem name8_any (H : Hp) (n : UInt8) (w : World) (hA : Agr H w) : Calls Tryz.prog 43 #[.int .u8 n.toNat] w fun r w' => r = .returned (strV (nmAt n.toNat)) ∧ Ext w w' := by
 refine Sx.enter (H := H) Tryz.func43 rfl Tryz.ntmps43 rfl hA ?_;refine .sr<|.a Z Z<|.ns<|.bl Z (Fx.bsl54_15 _ _ _ _ _ _ _ _ _ _ _ _ _ _ _) Z fun b4 => ?_
 refine Sx.freezeBoxN fun H1 u1 m1 => ?_;have rN : Rep H1 (.seq 1 (nmsL.map dStr)) [.slice (some ⟨b4,0,none⟩) 15 15] := Rep.mk (n := 15) (c := 15) m1 (repS1 nmsL (by decide)) rfl (Nat.le_refl _) (by decide);obtain ⟨bN,oN,cN,hpN,rS,lN,mN⟩ := rN.elem (map_at (f := dStr) (l := nmsL) (k := n.toNat % 15) (show n.toNat % 15 < 15 by omega));cases hpN;obtain ⟨rfl,_⟩ := str_open rS;refine .a Z Z<|.ns<|.m Z Z<|.m Z Z<|.yv (.conv Z Fx.int5 Fx.int3 (c := (n.toNat : Nat)) (by have := n.toNat_lt;simp only [IntKind.wrap,IntKind.signed,IntKind.bits];simp;omega)) Z<|.m Z Z<|.yv (.lenSl Fx.sl54 Z) Z<|.yv (.rem Z Z (by decide) (c := ((n.toNat % 15 : Nat) : Int)) (tm2 _ 15)) Z<|.yv (.indexSl Fx.sl54 Z Z (i := n.toNat % 15) Z (by omega) (q := 0 + (n.toNat % 15) * 1) Z) Z<|.yv (.loadM Z Fx.agg9 mN (k := 0) Z Z) Z<|.a Z Z<|.nt<|.rt<|?_
 refine Sx.ret1 (.inl rfl) rfl (.tmp rfl) fun W s => ⟨?_,(u1.grow s).ext⟩;rw [nmAt,List.getD_eq_getElem?_getD,List.getElem?_eq_getElem (show n.toNat % 15 < nmsL.length from by show _ < 15;omega),Option.getD_some];rfl
def aw8b : List Sm := [.mk 1 [120] [] [.mk 5 [121] 0 []] [] [],.mk 1 [120] [] [.mk 2 [] 0 []] [] []]
def aw8c : Cp := ⟨[99],[⟨[120],1,0⟩],[[⟨[104],[[121]],aw8b⟩]]⟩
def aw8 : Ft := ⟨[102],[],[],[aw8c]⟩
def aw8p : Pb := ⟨[115,116,97,116,101,109,101,110,116,32,99,46,104,32,49,32,49],[],10⟩
theorem aw8_ok : okFt 100 aw8 := by
 refine ⟨by decide,by decide,by decide,by decide,fun c hc => ?_⟩;obtain rfl := List.mem_singleton.1 hc;refine ⟨by decide,by decide,fun v hv => ?_⟩;obtain rfl := List.mem_singleton.1 hv;refine ⟨by decide,fun h hh => ?_⟩;obtain rfl := List.mem_singleton.1 hh;exact ⟨by decide,by decide +kernel,by decide +kernel,by decide +kernel⟩
theorem aw8_sm : ∀ c ∈ aw8.comps,CpSm c := by
 intro c hc;obtain rfl := List.mem_singleton.1 hc;refine ⟨by decide,by decide,fun v hv h hh => ?_⟩;obtain rfl := List.mem_singleton.1 hv;obtain rfl := List.mem_singleton.1 hh
 decide +kernel
theorem aw8_check : checkF aw8 = 0 := by decide +kernel
theorem itoaN_1 : itoaN 1 = [49] := by rw [itoaN,Lib.itoa,if_neg (by decide)];exact Lib.decDigits_one (by decide)
theorem aw8_pb : frsP noP (probs aw8 (checkF aw8)) = aw8p := by
 rw [aw8_check,frsP,if_pos (show noP.er = 0 from rfl)];have h : (probs aw8 0).headD noP = ⟨[115,116,97,116,101,109,101,110,116,32] ++ [99] ++ [46] ++ [104] ++ ([32] ++ itoaN 1) ++ [32] ++ itoaN 1,[],10⟩ := by kernel_rfl
 rw [h,itoaN_1];rfl
set_option maxRecDepth 100000 in
theorem awake8_any (H : Hp) (G : Gl H) (w : World) (hA : Agr H w) : Calls Tryz.prog 11 #[] w fun r w' => r = .returned (.bool true) ∧ Ext w w' := by
 refine Sx.enter (H := H) Tryz.func11 rfl Tryz.ntmps11 rfl hA ?_;refine .sr<|.a Z Z<|.ns<|.yv (.build Z (Fx.bld98_0_1 _ _)) Z<|.bl Z (Fx.bsl75_1 _ _ _) Z fun b5 => .bl Z (Fx.bsl54_1 _) Z fun b6 => .yv (.build Z (Fx.bld58_0_1 _ _)) Z<|.bl Z (Fx.bsl56_1 _ _ _ _) Z fun b8 => .yv (.build Z (Fx.bld85_0_1_3 _ _ _ _ _)) Z<|.yv (.build Z (Fx.bld58_0 _)) Z<|.bl Z (Fx.bsl56_1 _ _ _ _) Z fun b11 => .yv (.build Z (Fx.bld85_0_1_3 _ _ _ _ _)) Z<|.bl Z (Fx.bsl80_2 _ _ _ _ _ _ _ _ _ _ _ _) Z fun b13 => .yv (.build Z (Fx.bld82_0_1_2 _ _ _ _ _ _ _)) Z<|.bl Z (Fx.bsl79_1 _ _ _) Z fun b15 => .bl Z (Fx.bsl76_1 _ _ _) Z fun b16 => .yv (.build Z (Fx.bld78_0_1_2 _ _ _ _ _ _ _)) Z<|.bl Z (Fx.bsl29_1 _ _ _) Z fun b18 => .yv (.build Z (Fx.bld31_0_3 _ _ _ _)) Z<|.al Fx.zero31 Z fun b1 => .sW .head Z Z Fx.size31 (by simp [Value.oneCell',strV]) Z<|?_
 refine At.pm [8,7,6,5,4,3,2,1,0] [_,_,_,_,_,_,_,_,_] rfl rfl ?_;refine Sx.freezeBoxN fun H1 u1 m5 => ?_;refine Sx.freezeBoxPs (by intro u hu;rw [List.mem_singleton.1 hu];exact ⟨_,rfl,by decide⟩) (by decide) fun H2 u2 m6 => ?_;refine Sx.freezeBoxN fun H3 u3 m8 => ?_;refine Sx.freezeBoxN fun H4 u4 m11 => ?_;refine Sx.freezeBoxN fun H5 u5 m13 => ?_;refine Sx.freezeBoxN fun H6 u6 m15 => ?_;refine Sx.freezeBoxN fun H7 u7 m16 => ?_;refine Sx.freezeBoxN fun H8 u8 m18 => ?_;have v8 : Up H8 H8 := Up.refl _;have v7 : Up H7 H8 := u8.up.trans v8;have v6 : Up H6 H8 := u7.up.trans v7;have v5 : Up H5 H8 := u6.up.trans v6;have v4 : Up H4 H8 := u5.up.trans v5;have v3 : Up H3 H8 := u4.up.trans v4;have v2 : Up H2 H8 := u3.up.trans v3;have v1 : Up H1 H8 := u2.up.trans v2;have v0 : Up H H8 := u1.up.trans v1;have rF := ft_shut (k := .i64) (x := aw8) (by decide) (Rep.empty (p := none) (c := 0) (by decide)) (Rep.empty (p := none) (c := 0) (by decide)) (Rep.mk (n := 1) (c := 1) (m18.up v8) (.single (cp_shut (k := .i64) (x := aw8c) (by decide) (Rep.mk (n := 1) (c := 1) (m5.up v1) (.single (vr_shut (k := .i64) (x := ⟨[120],1,0⟩) (by decide)) rfl) rfl (Nat.le_refl _) (by decide)) (Rep.mk (n := 1) (c := 1) (m16.up v7) (.single (Rep.mk (n := 1) (c := 1) (m15.up v6) (.single (hd_shut (k := .i64) (x := ⟨[104],[[121]],aw8b⟩) (by decide) (m6.up v2) (Rep.mk (n := 2) (c := 2) (m13.up v5) (RepZ.app (RepZ.single (sm_shut (k := .i64) (kd := 1) (nm := [120]) (hd := []) (ex := [.mk 5 [121] 0 []]) (th := []) (el := []) (by decide) (by decide) (Rep.mk (n := 1) (c := 1) (m8.up v3) (.single (ex_shut (k := .i64) (op := 5) (nm := [121]) (n := 0) (args := []) (by decide) (Rep.empty (p := none) (c := 0) (by decide))) rfl) rfl (Nat.le_refl _) (by decide)) (Rep.empty (p := none) (c := 0) (by decide)) (Rep.empty (p := none) (c := 0) (by decide))) rfl) (RepZ.single (sm_shut (k := .i64) (kd := 1) (nm := [120]) (hd := []) (ex := [.mk 2 [] 0 []]) (th := []) (el := []) (by decide) (by decide) (Rep.mk (n := 1) (c := 1) (m11.up v4) (.single (ex_shut (k := .i64) (op := 2) (nm := []) (n := 0) (args := []) (by decide) (Rep.empty (p := none) (c := 0) (by decide))) rfl) rfl (Nat.le_refl _) (by decide)) (Rep.empty (p := none) (c := 0) (by decide)) (Rep.empty (p := none) (c := 0) (by decide))) rfl)) rfl (Nat.le_refl _) (by decide))) rfl) rfl (Nat.le_refl _) (by decide)) rfl) rfl (Nat.le_refl _) (by decide))) rfl) rfl (Nat.le_refl _) (by decide));refine .ns<|.yv (.loadW Z Fx.agg31 (.head _) Z) Z<|.ct (X := List Value) Fx.call8 Z (fun W t => syntax_any 100 (by decide) H8 aw8 aw8_ok _ W rF t.agr) Z fun x2 H9 hx2 u9 => .yv (.cast (v' := .tuple #[.agg (pbV aw8p).toArray,.int .i64 10]) (.call Fx.call9 Z (fun W t => typesCheck_any H9 (G.up (v0.trans u9.up)) aw8 x2 hx2 (evH_ok (by decide) aw8_ok) aw8_sm W t.agr)) (by rw [aw8_pb];rfl)) Z<|.m Z Z<|.yv (.extract Z Z) Z<|.yv (.extract Z Z) Z<|.al Fx.zero41 Z fun b2 => .sW .head Z Z Fx.size41 (by simp [pbV,Value.oneCell',strV]) Z<|.a Z Z<|.ns<|.m Z Z<|.yv (.cast (v' := .bool true) (.eql Z Z) Z) Z<|.m Z Z<|.gd Z Z<|.yv (.loadW Z Fx.agg41 (.head _) Z) Z<|.gd Z Z<|.yv (.build Z (Fx.bld41_0_2 _ _)) Z<|.gd Z Z<|.yv (.eqA Fx.eqt41 Z Z (pbEq aw8p aw8p Z Z)) Z<|.yv (.pickT Z Z) Z<|.a Z Z<|.nt<|.rt<|?_
 exact Sx.ret1 (.inl rfl) rfl (.tmp rfl) fun W t => ⟨rfl,((u1.trans<|u2.trans<|u3.trans<|u4.trans<|u5.trans<|u6.trans<|u7.trans<|u8.trans u9) |>.grow t).ext⟩
abbrev rV (r : Tr) : List Value := [.int .i64 r.ty.toNat,.int .i64 (r.er : Nat),strV r.nm]
end Go.Proofs.YtohfacbajcenoaaGreatDoor
namespace Go.Proofs.YtohfacbajcenoaaGreatDoor
open Go.RowKit Go.Par Go.Sx
end Go.Proofs.YtohfacbajcenoaaGreatDoor
namespace Go.Proofs.YtohfacbajcenoaaGreatDoor
open Go.RowKit Go.Par Go.Sx
def atN (n m : Nat) : Nat := if m = 0 then 0 else n % m
theorem atN_lt {n m : Nat} (h : 0 < m) : atN n m < m := by rw [atN,if_neg (by omega)];exact Nat.mod_lt _ h
set_option maxRecDepth 100000 in
theorem at8_any (H : Hp) (n : UInt8) (m : Nat) (w : World) (hA : Agr H w) : Calls Tryz.prog 42 #[.int .u8 n.toNat,.int .i64 (m : Nat)] w fun r w' => r = .returned (.int .i64 (atN n.toNat m : Nat)) ∧ Ext w w' := by
 refine Sx.enter (H := H) Tryz.func42 rfl Tryz.ntmps42 rfl hA ?_;refine .sr<|.a Z Z<|.nt<|.sq<|.sr<|.m Z Z<|.yv (.eql Z Z) Z<|.nt<|.cd Z (fun h6 => ?_) (fun h6 => ?_)
 ·have hz : m = 0 := by have := of_decide_eq_true h6;omega
  refine .sr<|.a Z Z<|.nt<|.rt<|.tR<|?_
  refine Sx.ret1 (.inl rfl) rfl (.tmp rfl) fun W s => ⟨?_,s.ext⟩
  first
   | (rw [hz];rfl)
   | (rw [atN,if_neg hz])
 have hz : ¬ m = 0 := by have := of_decide_eq_false h6;omega
 refine .sk<|.tN<|.sr<|.m Z Z<|.yv (.conv Z Fx.int5 Fx.int3 (c := (n.toNat : Nat)) (by have := n.toNat_lt;simp only [IntKind.wrap,IntKind.signed,IntKind.bits];simp;omega)) Z<|.m Z Z<|.yv (.rem Z Z (by omega) (c := ((n.toNat % m : Nat) : Int)) (tm2 _ _)) Z<|.a Z Z<|.nt<|.rt<|?_
 refine Sx.ret1 (.inl rfl) rfl (.tmp rfl) fun W s => ⟨?_,s.ext⟩
 first
  | (rw [hz];rfl)
  | (rw [atN,if_neg hz])
theorem qu8 (a : Nat) {b : Nat} (h : a < 256) (hb : 0 < b) : IntKind.u8.wrap (Int.tdiv (a : Int) (b : Int)) = ((a / b : Nat) : Int) := by
 rw [Int.tdiv_eq_ediv_of_nonneg (Int.natCast_nonneg _),show (a : Int) / (b : Int) = ((a / b : Nat) : Int) from rfl]
 have h3 : ∀ n : Nat,n < 256 → IntKind.u8.wrap (n : Int) = (n : Int) := fun n hn => by
  have key : ∀ i ∈ List.range 256,IntKind.u8.wrap (i : Int) = (i : Int) := by decide +kernel
  exact key n (List.mem_range.2 hn)
 exact h3 _ (Nat.lt_of_le_of_lt (Nat.div_le_self _ _) h)
theorem u8q9 {n : UInt8} : (UInt8.ofNat (n.toNat / 9)).toNat = n.toNat / 9 := by
 have := n.toNat_lt;simp;omega
end Go.Proofs.YtohfacbajcenoaaGreatDoor
namespace Go.Sx
open Go.RowKit Go.Par
def PsS (w0 : World) (v : ByteArray) (H H' : Hp) : Prop := ∃ b arr' t,w0.heap.size ≤ b ∧ H' = putH H b (.cells arr' t (0,0)) ∧ (H b = none ∨ ∃ arr,H b = some (.cells arr t (0,0)) ∧ arr'.size = arr.size ∧ (∀ u ∈ arr.toList,∃ s : ByteArray,u = .string s ∧ s.size ≤ 1000000) ∧ v.size ≤ 1000000 ∧ ∀ (j : Nat) x,arr'[j]? = some x → arr[j]? = some x ∨ x = .string v)
section
variable {P : Program} {H : Hp} {w0 W : World} {bs : List Res}
theorem run_pss {T ty e : TypeId} {bytes m c cy : Nat} {p : Option Addr} {xs : List Value} {u : ByteArray} {a : Addr} (s : St H w0 bs W) (hT : rowN P T = some (e,1,bytes)) (hz0 : zeroN P e = some [.string ⟨#[]⟩]) (hr : Rep H (.ps xs) [.slice p m c]) (hlo : w0.heap.size ≤ H.lo)
 (hc : W.cell? a = some (.string u)) (hsu : u.size ≤ 1000000) (h63 : xs.length + 1 ≤ maxLen) (hb : (xs.length + 1) * bytes ≤ 140737488355328) :
 ∃ r' H' W',(Builtin.append_ #[T,T] ty #[.slice p m c,.slice (some a) 1 cy]).run P W = .ok r' W' ∧ St H' w0 bs W' ∧ PsS w0 u H H' ∧ Rep H' (.ps (xs ++ [.string u])) [r'] := by
 obtain ⟨hu,i,z,hi,hz,hsz,hby,hzs,h0⟩ := rowN_spec hT
 have hzc : z.cells = #[.string ⟨#[]⟩] := by
  simp only [zeroN,hi,Option.bind_some,hz,Option.map_some,Option.some.injEq] at hz0;apply Array.ext';rw [hz0]
 subst hby;unfold Rep at hr;obtain ⟨p',c',e1,h1,h2,h3⟩ := hr;simp only [List.cons.injEq,Value.slice.injEq,and_true] at e1;obtain ⟨rfl,rfl,rfl⟩ := e1;have hlen : (xs ++ [Value.string u]).length = xs.length + 1 := by simp
 have new : ∀ (v' : Value) (W' : World),ownsPs W' w0.heap.size e v' (xs ++ [.string u]) → v'.ownBlock = some W.heap.size → Ext W W' → ∃ H',St H' w0 bs W' ∧ PsS w0 u H H' ∧ Rep H' (.ps (xs ++ [.string u])) [v'] := by
  intro v' W' ho hv hx;rcases ho with ⟨rfl,_⟩ | ⟨g,cap,cur,rfl,hg,hcg,k1,k2,k3,k4,k5⟩
  ·cases hv
  ·obtain rfl : g = W.heap.size := Option.some.inj hv;refine ⟨_,s.newPs hx hcg,⟨_,_,_,s.ext.size,rfl,.inl (s.agr.lt (Nat.le_refl _))⟩,?_⟩;unfold Rep;exact ⟨_,cap,rfl,k1,k2,.inr ⟨W.heap.size,cur,e,rfl,putH_at,s.agr.lo,k3,k5,k4⟩⟩
 rcases h3 with ⟨rfl,rfl⟩ | ⟨b,arr,t,rfl,h4,h5,h6,h7,h8⟩
 ·obtain rfl : xs = [] := List.eq_nil_of_length_eq_zero (by omega);obtain ⟨v',W',q1,q2,q3,q4⟩ := run_append_ps (P := P) W w0.heap.size T ty e i z hu hi hz hsz hzc (v := .slice none 0 0) (xs := []) (.inl ⟨rfl,rfl⟩) a cy u hc hsu h63 hb s.ext.size;have hx : Ext W W' := Ext.of_below ⟨q3.os,q3.tape,q3.output,q3.size,fun k hk => q3.block k hk (by simp [Value.ownBlock])⟩;rcases q2 with ⟨_,e2⟩ | ⟨g,cap,cur,rfl,k0,k1,k2⟩
  ·simp at e2
  ·have hg : g = W.heap.size := by
    have hg1 := (q4 g rfl).resolve_left (by simp [Value.ownBlock])
    have hg2 := run_append_nil (P := P) W T ty e i z hu hi hz a 1 cy [.string u] (by rw [hsz];rfl) (fun j x ex => by
     cases j with
     | zero => simp at ex;subst ex;rw [show a.add 0 = a by simp [Addr.add]];exact hc
     | succ j => simp at ex) (by decide) (by decide) (by simp only [List.length_nil,Nat.zero_add] at hb;omega)
    rw [hg2] at q1;injection q1 with e3 _
    injection e3 with e3 _ _
    injection e3 with e3
    injection e3 with e3
    exact e3.symm
   subst hg;obtain ⟨H',r1,r2,r3⟩ := new _ _ (.inr ⟨_,cap,cur,rfl,k0,k1,k2⟩) rfl hx;exact ⟨_,H',W',q1,r1,r2,r3⟩
 ·have hW := s.agr b _ h4;have hbw : w0.heap.size ≤ b := Nat.le_trans hlo h5
  by_cases hroom : xs.length + 1 ≤ c
  ·have q1 := run_room2 (P := P) W T ty e t i hu hi hsz b xs.length c arr hW a cy (.string u) hc rfl hroom (by omega);refine ⟨_,putH H b (.cells (arr.toList.take xs.length ++ [Value.string u] ++ arr.toList.drop (xs.length + 1)).toArray t (0,0)),_,q1,?_,⟨b,_,t,hbw,rfl,.inr ⟨arr,h4,?_,h7,?_⟩⟩,?_⟩
   ·have hh := setRow_heap W b arr (arr.toList.take xs.length ++ [Value.string u] ++ arr.toList.drop (xs.length + 1)).toArray t _ hW;refine ⟨?_,⟨fun q o eq => ?_,?_⟩,fun x hx => ⟨?_,fun q eq => ?_⟩,s.apart,s.lo⟩
    ·refine Ext.of_below ⟨s.ext.below.os,s.ext.below.tape,s.ext.below.output,by simpa using s.ext.below.size,fun k hk => ?_⟩;rw [setRow_other W b k _ (by omega)];exact s.ext.below.block k hk
    ·by_cases hq : q = b
     ·subst hq;rw [putH_at] at eq;cases eq;exact hh
     ·rw [putH_ne hq] at eq;rw [setRow_other W b q _ hq];exact s.agr q o eq
    ·show H.lo ≤ _;simpa using s.agr.lo
    ·refine (s.own x hx).1.keep (by simp) fun q eq => setRow_other W b q _ ?_;intro e3;subst e3;rw [(s.own x hx).2 _ eq] at h4;cases h4
    ·have : q ≠ b := fun e3 => by subst e3;rw [(s.own x hx).2 _ eq] at h4;cases h4
     rw [putH_ne this];exact (s.own x hx).2 q eq
   ·simp only [List.size_toArray,List.length_append,List.length_take,List.length_drop,Array.length_toList,List.length_cons,List.length_nil];omega
   ·refine ⟨hsu,fun j x hx => ?_⟩
    have hlt : xs.length < arr.toList.length := by
     have h0 : arr.toList.length = arr.size := Array.length_toList;omega
    have e : arr.toList.take xs.length ++ [Value.string u] ++ arr.toList.drop (xs.length + 1) = arr.toList.set xs.length (.string u) := by
     rw [List.append_assoc,List.set_eq_take_append_cons_drop,if_pos hlt];rfl
    rw [e] at hx;simp only [List.getElem?_toArray] at hx
    by_cases hj : xs.length = j
    ·subst hj;rw [List.getElem?_set_self hlt] at hx;exact .inr (Option.some.inj hx).symm
    ·rw [List.getElem?_set_ne hj] at hx;exact .inl (by rw [← Array.getElem?_toList];exact hx)
   ·unfold Rep;refine ⟨_,c,by rw [hlen],by rw [hlen];exact hroom,h2,.inr ⟨b,_,t,rfl,putH_at,h5,?_,?_,?_⟩⟩
    ·simp only [List.size_toArray,List.length_append,List.length_take,List.length_drop,Array.length_toList,List.length_cons,List.length_nil];omega
    ·intro x hx;simp only [List.mem_append] at hx;rcases hx with (hx | hx) | hx
     ·exact h7 x (List.mem_of_mem_take hx)
     ·rw [List.mem_singleton.1 hx];exact ⟨u,rfl,hsu⟩
     ·exact h7 x (List.mem_of_mem_drop hx)
    ·rw [h8];exact List.take_left
  ·have hxs : ∀ x ∈ xs,∃ s : ByteArray,x = .string s ∧ s.size ≤ 1000000 := fun x hx => h7 x (by rw [← h8] at hx;exact List.mem_of_mem_take hx)
   have holds : ∀ (j : Nat) x,xs[j]? = some x → W.cell? ((⟨b,0,none⟩ : Addr).add j) = some x := by
    intro j x ex;rw [Addr.add_lit,Nat.zero_add,cell_of_row W b j arr t (0,0) hW];have hj := (List.getElem?_eq_some_iff.1 ex).1;rw [← h8,List.getElem?_take_of_lt hj] at ex;simpa using ex
   have hn : ∀ (j : Nat) x,([.string u] : List Value)[j]? = some x → W.cell? (a.add j) = some x := by
    intro j x ex;cases j with
    | zero => simp at ex;subst ex;rw [show a.add 0 = a by simp [Addr.add]];exact hc
    | succ j => simp at ex
   have h64 : xs.length + 1 ≤ 9223372036854775807 := by simp only [maxLen] at h63;omega
   have q1 := run_append_grow (P := P) W T ty e i z hu hi hz ⟨b,0,none⟩ xs.length c xs (by rw [hsz,Nat.mul_one]) holds a 1 cy [.string u] (by rw [hsz];rfl) hn (by omega) (by omega) (growslice_fits (by omega) hb);have hge := grownCap_ge W (xs.length + 1) c e;have hcm := grownCap_le_maxLen W (xs.length + 1) c e h63;have hzl : ∀ n,(Builtin.zeroCells z.cells n).size = n := by intro n;rw [size_zeroCells,hzc];simp
   obtain ⟨H',r1,r2,r3⟩ := new (.slice (some ⟨W.heap.size,0,none⟩) (xs.length + 1) (grownCap W (xs.length + 1) c e)) _ (.inr ⟨W.heap.size,grownCap W (xs.length + 1) c e,xs.toArray ++ [Value.string u].toArray ++ Builtin.zeroCells z.cells (grownCap W (xs.length + 1) c e - (xs.length + 1)),by rw [hlen],s.ext.size,heap_alloc_new W.drew _,by simpa using hge,hcm,by
    simp only [Array.size_append,List.size_toArray,hzl,List.length_cons,List.length_nil];omega,by
    simp only [Array.toList_append];exact List.take_left,by
    intro x hx;simp only [Array.toList_append,List.mem_append] at hx;rcases hx with (hx | hx) | hx
    ·exact hxs x hx
    ·rw [List.mem_singleton.1 hx];exact ⟨u,rfl,hsu⟩
    ·rw [hzc] at hx;exact ⟨_,zero_strs _ x hx,by simp [ByteArray.size]⟩⟩) rfl (Ext.of_below ⟨rfl,rfl,rfl,by simp,fun k hk => heap_alloc_old W.drew _ hk⟩)
   exact ⟨_,H',_,q1,r1,r2,r3⟩
end
section
variable {dfs : List Deferred} {P : Program} {n N hn i : Nat} {L : Sl} {H : Hp} {w0 : World} {bs : List Res} {Q : Exit → Act → World → Prop} {ops : Array Oper} {rest : List Oper} {K : Act → World → Prop}
variable {ty : TypeId} {pos : String} {aft : Array Edge} {t : Tmp} {x y : Operand} {T : TypeId} {pa : List (Nat × Oper × Value)} {E : Sl → Hp → List Res → Prop} {fr : List (Nat × Nat × Oper)}
theorem appendPSS {e : TypeId} {bytes m c cy b off : Nat} {p : Option Addr} {xs : List Value} {u : ByteArray} (hT : rowN P T = some (e,1,bytes)) (hz0 : zeroN P e = some [.string ⟨#[]⟩]) (hx : ev L x = some (.slice p m c)) (hr : Rep H (.ps xs) [.slice p m c]) (hlo : w0.heap.size ≤ H.lo)
 (hy : ev L y = some (.slice (some ⟨b,off,none⟩) 1 cy)) (hs : Src H bs b off [.string u]) (hsu : u.size ≤ 1000000) (h63 : xs.length + 1 ≤ maxLen) (hb : (xs.length + 1) * bytes ≤ 140737488355328) (ht : Nat.blt t n = true)
 (h : ∀ r' H',PsS w0 u H H' → Rep H' (.ps (xs ++ [.string u])) [r'] → At dfs n ((t,r') :: L) H' w0 bs K) : At dfs n L H w0 bs (one P ops Q ⟨some t,.call ⟨.builtin .append,#[x,y],#[T,T]⟩,ty,pos,aft,none⟩ K) := by
 intro a W f s
 have hc : W.cell? ⟨b,off,none⟩ = some (.string u) := by
  have := hs.cell s 0 _ rfl
  rwa [show (⟨b,off,none⟩ : Addr).add 0 = ⟨b,off,none⟩ by simp [Addr.add]] at this
 obtain ⟨r',H',W',hrun,s',hp,hr'⟩ := run_pss (P := P) (ty := ty) (cy := cy) s hT hz0 hr hlo hc hsu h63 hb;refine one_plain rfl ?_;unfold Oper.wp execOp;simp only [resolve,invoke,builtin,Sem.run_bind,Sem.run_pure,Result.andThen_ok,List.map_toArray,List.map_cons,List.map_nil,f.ev hx,f.ev hy,hrun];exact h r' H' hp hr' _ _ (f.put ht _) s'
theorem FlowP.apPSS {e : TypeId} {bytes m c cy b off : Nat} {p : Option Addr} {xs : List Value} {u : ByteArray} (hT : rowN P T = some (e,1,bytes)) (hz0 : zeroN P e = some [.string ⟨#[]⟩]) (hx : ev L x = some (.slice p m c)) (hr : Rep H (.ps xs) [.slice p m c]) (hlo : w0.heap.size ≤ H.lo)
 (hy : ev L y = some (.slice (some ⟨b,off,none⟩) 1 cy)) (hs : Src H bs b off [.string u]) (hsu : u.size ≤ 1000000) (h63 : xs.length + 1 ≤ maxLen) (hb : (xs.length + 1) * bytes ≤ 140737488355328) (ht : Nat.blt t N = true)
 (hr2 : ∀ H',PsS w0 u H H' → RedoP dfs P ops hn w0 N L H' bs i pa) (h : ∀ r' H',PsS w0 u H H' → Rep H' (.ps (xs ++ [.string u])) [r'] → FlowP dfs P ops hn w0 N E fr pa ((t,r') :: L) H' bs) :
 FlowP dfs P ops hn w0 N E ((i,3,⟨some t,.call ⟨.builtin .append,#[x,y],#[T,T]⟩,ty,pos,aft,none⟩) :: fr) pa L H bs :=
 ⟨blt_of ht,appendPSS hT hz0 hx hr hlo hy hs hsu h63 hb ht fun r' H' hp hr' => FlowP.into (.inr<|.inr<|hr2 H' hp) (h r' H' hp hr')⟩
end
end Go.Sx
namespace Go.Proofs.YtohfacbajcenoaaGreatDoor
open Go.RowKit Go.Par Go.Sx
def gdN (s : Str) : Bool := nameB s && nameB (s ++ [113])
def goe (s : Str) : Bool := decide (s = []) || gdN s
theorem goe_of {s : Str} (h : gdN s = true) : goe s = true := by unfold goe;rw [h,Bool.or_true]
theorem goe_nil : goe [] = true := rfl
inductive Kin : Value → Value → Prop where
 | same (v : Value) : Kin v v
 | str (s s' : ByteArray) : s'.size ≤ 1000000 → gdN s'.data.toList = true → Kin (.string s) (.string s')
 | int (k : IntKind) (i j : Int) : 0 ≤ j → j ≤ 100 → Kin (.int k i) (.int k j)
abbrev SpT := Nat → Nat → Value → Value → Prop
structure ChgS (Sp : SpT) (H H' : Hp) : Prop where
 get : ∀ b arr t m,H b = some (.cells arr t m) → ∃ arr' m',H' b = some (.cells arr' t m') ∧ arr'.size = arr.size ∧ (m = (0,0) → m' = (0,0)) ∧ ∀ (j : Nat) u,arr[j]? = some u → ∃ u',arr'[j]? = some u' ∧ (Kin u u' ∨ Sp b j u u')
 lo : H'.lo = H.lo
def Cor (Sp : SpT) (b : Nat) : Nat → List Value → List Value → Prop
 | _,[],l => l = []
 | off,v :: r,l => ∃ v' q,l = v' :: q ∧ (Kin v v' ∨ Sp b off v v') ∧ Cor Sp b (off + 1) r q
section
variable {Sp : SpT} {H H' : Hp} {E : Prop}
theorem Cor.split {b : Nat} : ∀ {x y l : List Value} {off : Nat},Cor Sp b off (x ++ y) l → ∃ x' y',l = x' ++ y' ∧ Cor Sp b off x x' ∧ Cor Sp b (off + x.length) y y'
 | [],y,l,off,h => ⟨[],l,rfl,rfl,h⟩
 | v :: x,y,l,off,h => by
  obtain ⟨v',q,rfl,h1,h2⟩ := h;obtain ⟨x',y',rfl,h3,h4⟩ := Cor.split h2;exact ⟨v' :: x',y',rfl,⟨v',x',rfl,h1,h3⟩,by rw [List.length_cons,show off + (x.length + 1) = off + 1 + x.length by omega];exact h4⟩
theorem Cor.len {b : Nat} : ∀ {x l : List Value} {off : Nat},Cor Sp b off x l → l.length = x.length
 | [],l,off,h => by rw [show l = [] from h]
 | v :: x,l,off,h => by
  obtain ⟨v',q,rfl,h1,h2⟩ := h;simp [Cor.len h2]
theorem cor_of {b : Nat} {arr : Array Value} : ∀ (cs : List Value) (off : Nat),(∀ (j : Nat) u,cs[j]? = some u → ∃ u',arr[off + j]? = some u' ∧ (Kin u u' ∨ Sp b (off + j) u u')) → ∃ cs',Cor Sp b off cs cs' ∧ ∀ (j : Nat) u,cs'[j]? = some u → arr[off + j]? = some u
 | [],off,_ => ⟨[],rfl,fun j u e => by simp at e⟩
 | v :: r,off,h => by
  obtain ⟨v',h1,h2⟩ := h 0 v rfl
  obtain ⟨q,h3,h4⟩ := cor_of r (off + 1) fun j u e => by
   obtain ⟨u',e1,e2⟩ := h (j + 1) u (by simpa using e);have h9 : off + (j + 1) = off + 1 + j := by omega
   rw [h9] at e1 e2;exact ⟨u',e1,e2⟩
  refine ⟨v' :: q,⟨v',q,rfl,h2,h3⟩,fun j u e => ?_⟩;cases j with
  | zero => simp at e;subst e;exact h1
  | succ j => simp at e;have := h4 j u e;rw [Nat.add_assoc,Nat.add_comm 1 j] at this;exact this
theorem memAt_chgS {b off : Nat} {cs : List Value} (u : ChgS Sp H H') (h : MemAt H b off cs) : ∃ cs',Cor Sp b off cs cs' ∧ MemAt H' b off cs' := by
 obtain ⟨arr,t,m,h1,h2⟩ := h;obtain ⟨arr',m',k1,_,_,k2⟩ := u.get b arr t m h1;obtain ⟨cs',h3,h4⟩ := cor_of (arr := arr') cs off fun j u e => k2 (off + j) u (h2 j u e);exact ⟨cs',h3,arr',t,m',k1,h4⟩
theorem memAt_left {b off : Nat} {x y : List Value} (h : MemAt H b off (x ++ y)) : MemAt H b off x := by
 have := h.take x.length;simpa using this
theorem memAt_right {b off : Nat} {x y : List Value} (h : MemAt H b off (x ++ y)) : MemAt H b (off + x.length) y := by
 have := h.drop x.length;simpa using this
def A2 {α : Type} (Q : α → α → Prop) : List α → List α → Prop
 | [],l => l = []
 | x :: r,l => ∃ y q,l = y :: q ∧ Q x y ∧ A2 Q r q
theorem A2.len {α : Type} {Q : α → α → Prop} : ∀ {l l' : List α},A2 Q l l' → l'.length = l.length
 | [],l',h => by rw [show l' = [] from h]
 | x :: r,l',h => by
  obtain ⟨y,q,rfl,_,h2⟩ := h;simp [A2.len h2]
theorem A2.refl {α : Type} {Q : α → α → Prop} (hr : ∀ x,Q x x) : ∀ l : List α,A2 Q l l
 | [] => rfl
 | x :: r => ⟨x,r,rfl,hr x,A2.refl hr r⟩
theorem A2.at {α : Type} {Q : α → α → Prop} : ∀ {l l' : List α} (_ : A2 Q l l') {i : Nat} (h1 : i < l.length) (h2 : i < l'.length),Q l[i] l'[i]
 | [],l',_,i,h1,_ => by simp at h1
 | x :: r,l',h,i,h1,h2 => by
  obtain ⟨y,q,rfl,h3,h4⟩ := h;cases i with
  | zero => exact h3
  | succ i => exact A2.at h4 (by simpa using h1) (by simpa using h2)
theorem A2.mem {α : Type} {Q : α → α → Prop} : ∀ {l l' : List α},A2 Q l l' → ∀ y ∈ l',∃ x ∈ l,Q x y
 | [],l',h,y,hy => by rw [show l' = [] from h] at hy;cases hy
 | x :: r,l',h,y,hy => by
  obtain ⟨y',q,rfl,h1,h2⟩ := h;rcases List.mem_cons.1 hy with rfl | hy
  ·exact ⟨x,.head _,h1⟩
  ·obtain ⟨x',hx,hq⟩ := A2.mem h2 y hy;exact ⟨x',.tail _ hx,hq⟩
theorem repZ_chgS {α : Type} {g : α → D} {Q : α → α → Prop} {z b : Nat} {A : Prop} : ∀ {l : List α} {off : Nat} {cs cs' : List Value},(A → off % z = 0) → (∀ x ∈ l,∀ off cs cs',(A → off % z = 0) → MemAt H b off cs → Rep H (g x) cs → Cor Sp b off cs cs' → ∃ y,Q x y ∧ Rep H' (g y) cs') →
 MemAt H b off cs → RepZ H z (l.map g) cs → Cor Sp b off cs cs' → ∃ l',A2 Q l l' ∧ RepZ H' z (l'.map g) cs'
 | [],off,cs,cs',_,_,_,h,hc => by
  unfold List.map RepZ at h;subst h;obtain rfl : cs' = [] := hc;exact ⟨[],rfl,RepZ.nil⟩
 | x :: r,off,cs,cs',ha,hg,hm,h,hc => by
  rw [List.map_cons] at h;unfold RepZ at h;obtain ⟨a,c,rfl,h1,h2,h3⟩ := h;obtain ⟨a',c',rfl,k1,k2⟩ := hc.split;obtain ⟨y,q1,q2⟩ := hg x (.head _) off a a' ha (memAt_left hm) h2 k1;obtain ⟨l',q3,q4⟩ := repZ_chgS (A := A) (fun e => by rw [h1,Nat.add_mod_right];exact ha e) (fun z hz => hg z (.tail _ hz)) (memAt_right hm) h3 k2;refine ⟨y :: l',⟨y,l',rfl,q1,q3⟩,?_⟩;rw [List.map_cons];unfold RepZ;exact ⟨a',c',rfl,k1.len.trans h1,q2,q4⟩
theorem A2.txt {α : Type} {g : α → D} {Q : α → α → Prop} (ht : ∀ x y,Q x y → (g y).txt = true → (g x).txt = true) : ∀ {l l' : List α},A2 Q l l' → D.txtL (l'.map g) = true → D.txtL (l.map g) = true
 | [],l',h,k => by rw [show l' = [] from h] at k;exact k
 | x :: r,l',h,k => by
  obtain ⟨y,q,rfl,h1,h2⟩ := h;rw [List.map_cons,D.txtL,Bool.or_eq_true] at k ⊢;exact k.imp (ht x y h1) (A2.txt ht h2)
theorem seq_chgS {α : Type} {g : α → D} {Q : α → α → Prop} {z : Nat} {l : List α} {v : Value} (u : ChgS Sp H H') (hg : ∀ x ∈ l,∀ b off cs cs',((g x).txt = true → off % z = 0) → MemAt H b off cs → Rep H (g x) cs → Cor Sp b off cs cs' → ∃ y,Q x y ∧ Rep H' (g y) cs')
 (ht : ∀ x y,Q x y → (g y).txt = true → (g x).txt = true) (h : Rep H (.seq z (l.map g)) [v]) : ∃ l',A2 Q l l' ∧ Rep H' (.seq z (l'.map g)) [v] := by
 unfold Rep at h;obtain ⟨p,c,h1,h2,h3,h4⟩ := h;injection h1 with h1 _
 subst h1;rcases h4 with h4 | ⟨b,off,cs,rfl,h7,h8,h9⟩
 ·obtain rfl : l = [] := by simpa using h4
  exact ⟨[],rfl,.empty h3⟩
 ·obtain ⟨cs',k1,k2⟩ := memAt_chgS u h7;obtain ⟨l',k3,k4⟩ := repZ_chgS (A := D.txtL (l.map g) = true) (fun e => (h9 e).2) (fun x hx off cs cs' ha => hg x hx b off cs cs' fun e => ha (by rw [D.txtL_any,List.any_eq_true];exact ⟨g x,List.mem_map_of_mem hx,e⟩)) h7 h8 k1;have hl := k3.len;refine ⟨l',k3,.mkM k2 k4 (by simp [hl]) h2 h3 fun e => u.lo ▸ h9 (k3.txt ht e)⟩
/-! ### Bounds -/
theorem alls_eq {q : Ex → Bool} : ∀ l,Ex.alls q l = l.all (Ex.all q)
 | [] => rfl
 | e :: r => by rw [Ex.alls,List.all_cons,alls_eq r]
def okSD (N D : Nat) : Sm → Bool
 | .mk _ _ _ ex _ _ => decide (ex.length ≤ N) && decide (Ex.deeps ex ≤ D) && ex.all (Ex.all narrow)
def gdE : Ex → Bool
 | .mk _ nm _ _ => goe nm
def gdS : Sm → Bool
 | .mk _ nm hd ex _ _ => goe nm && goe hd && Ex.alls gdE ex
def gdH (h : Hd) : Bool := gdN h.nm && h.ps.all gdN
def EB (e e' : Ex) : Prop := e'.depth ≤ 2 * e.depth ∧ (Ex.all narrow e = true → Ex.all narrow e' = true) ∧ (Ex.all gdE e = true → Ex.all gdE e' = true)
def AB (l l' : List Ex) : Prop := Ex.deeps l' ≤ 2 * Ex.deeps l + 1 ∧ (l.length ≤ 3 → Ex.alls narrow l = true → l'.length ≤ 3 ∧ Ex.alls narrow l' = true)
def XB (l l' : List Ex) : Prop := l'.length ≤ l.length ∧ Ex.deeps l' ≤ 2 * Ex.deeps l ∧ (Ex.alls narrow l = true → Ex.alls narrow l' = true) ∧ (Ex.alls gdE l = true → Ex.alls gdE l' = true)
def LB (l l' : List Sm) : Prop := Sm.counts l' ≤ Sm.counts l ∧ Sm.deeps l' ≤ Sm.deeps l ∧ (∀ N D,Sm.alls (okSD N D) l = true → Sm.alls (okSD N (2 * D)) l' = true) ∧ (Sm.alls gdS l = true → Sm.alls gdS l' = true)
def SB (s s' : Sm) : Prop := LB [s] [s']
def HB (h h' : Hd) : Prop := h'.ps.length ≤ h.ps.length + 1 ∧ (gdH h = true → gdH h' = true) ∧ LB h.body h'.body
def VB (E : Prop) (v v' : List Hd) : Prop := A2 HB v v' ∨ E ∧ v' = []
def VrB (x y : Vr) : Prop := (0 ≤ x.init.toInt → 0 ≤ y.init.toInt) ∧ (gdN x.nm = true → gdN y.nm = true)
def CB (E : Prop) (c c' : Cp) : Prop := (A2 VrB c.vars c'.vars ∨ E ∧ c'.vars = []) ∧ (A2 (VB E) c.vers c'.vers ∨ E ∧ c'.vers = []) ∧ (gdN c.nm = true → gdN c'.nm = true)
def GF (x y : Fg) : Prop := gdN x.nm = true → gdN y.nm = true
def GL (x y : Lk) : Prop := (gdN x.fr = true → gdN y.fr = true) ∧ (gdN x.to = true → gdN y.to = true)
def FB (E : Prop) (f f' : Ft) : Prop := f'.nm = f.nm ∧ A2 GF f.flags f'.flags ∧ A2 GL f.links f'.links ∧ A2 (CB E) f.comps f'.comps
theorem A2.xb : ∀ {l l' : List Ex},A2 EB l l' → XB l l'
 | [],l',h => by rw [show l' = [] from h];exact ⟨Nat.le_refl _,by simp [Ex.deeps],fun h => h,fun h => h⟩
 | x :: r,l',h => by
  obtain ⟨y,q,rfl,h1,h2⟩ := h;obtain ⟨k1,k2,k3,k4⟩ := A2.xb h2;refine ⟨by simp [k1],by simp only [Ex.deeps];have := h1.1;omega,fun hh => ?_,fun hh => ?_⟩
  ·rw [Ex.alls,Bool.and_eq_true] at hh ⊢;exact ⟨h1.2.1 hh.1,k3 hh.2⟩
  ·rw [Ex.alls,Bool.and_eq_true] at hh ⊢;exact ⟨h1.2.2 hh.1,k4 hh.2⟩
theorem A2.ab {l l' : List Ex} (h : A2 EB l l') : AB l l' := by
 obtain ⟨_,k2,k3,k4⟩ := h.xb;exact ⟨by omega,fun h1 h2 => ⟨by rw [h.len];exact h1,k3 h2⟩⟩
theorem lb_nil {l : List Sm} : LB l [] := ⟨by simp [Sm.counts],by simp [Sm.deeps],fun _ _ _ => rfl,fun _ => rfl⟩
theorem sms_cons {s : Sm} {l : List Sm} : s :: l = [s] ++ l := rfl
theorem A2.lb : ∀ {l l' : List Sm},A2 SB l l' → LB l l'
 | [],l',h => by rw [show l' = [] from h];exact lb_nil
 | x :: r,l',h => by
  obtain ⟨y,q,rfl,h1,h2⟩ := h;obtain ⟨k1,k2,k3,k4⟩ := A2.lb h2;obtain ⟨j1,j2,j3,j4⟩ := h1;rw [sms_cons,sms_cons (s := y)];refine ⟨by rw [scounts_app,scounts_app];omega,by rw [sdeeps_app,sdeeps_app];omega,fun N D hh => ?_,fun hh => ?_⟩
  ·rw [salls_app,Bool.and_eq_true] at hh ⊢;exact ⟨j3 N D hh.1,k3 N D hh.2⟩
  ·rw [salls_app,Bool.and_eq_true] at hh ⊢;exact ⟨j4 hh.1,k4 hh.2⟩
theorem sb_mk {kd kd' : UInt8} {nm hd nm' hd' : Str} {ex ex' : List Ex} {th th' el el' : List Sm} (h1 : XB ex ex') (h2 : LB th th') (h3 : LB el el') (hn : goe nm = true → goe nm' = true) (hh : goe hd = true → goe hd' = true) : SB (.mk kd nm hd ex th el) (.mk kd' nm' hd' ex' th' el') := by
 obtain ⟨a1,a2,a3,a4⟩ := h1;obtain ⟨b1,b2,b3,b4⟩ := h2;obtain ⟨c1,c2,c3,c4⟩ := h3;refine ⟨?_,?_,fun N D hh => ?_,fun k => ?_⟩
 ·simp only [Sm.counts,scount_mk];omega
 ·simp only [Sm.deeps,sdepth_mk];omega
 ·simp only [Sm.alls,sall_mk,okSD,Bool.and_eq_true,decide_eq_true_eq,← alls_eq] at hh ⊢;exact ⟨⟨⟨⟨⟨by omega,by omega⟩,a3 hh.1.1.1.2⟩,b3 N D hh.1.1.2⟩,c3 N D hh.1.2⟩,trivial⟩
 ·simp only [Sm.alls,sall_mk,gdS,Bool.and_eq_true] at k ⊢;exact ⟨⟨⟨⟨⟨hn k.1.1.1.1.1,hh k.1.1.1.1.2⟩,a4 k.1.1.1.2⟩,b4 k.1.1.2⟩,c4 k.1.2⟩,trivial⟩
/-! ### What the special cells become, where they are read -/
def posC (c : Cp) : Prop := 0 < c.vars.length ∧ 0 < c.vers.length ∧ ∀ v ∈ c.vers,v ≠ []
structure SpN (Sp : SpT) (H : Hp) : Prop where
 fg : ∀ b o s u' (q : Bool),Sp b o (strV s) u' → MemAt H b o [strV s,.bool q] → False
 l1 : ∀ b o s t w u',Sp b o (strV s) u' → MemAt H b o [strV s,strV t,w] → False
 l2 : ∀ b o s t w u',Sp b (o + 1) (strV t) u' → MemAt H b o [strV s,strV t,w] → False
 vr : ∀ b o s (k1 k2 : IntKind) (i j : Int) u',Sp b o (strV s) u' → MemAt H b o [strV s,.int k1 i,.int k2 j] → False
 sl : ∀ b o s p n c w u',Sp b o (strV s) u' → MemAt H b o [strV s,.slice p n c,w] → False
 ps : ∀ b j s u' arr t m,Sp b j (strV s) u' → H b = some (.cells arr t m) → (∀ u ∈ arr.toList,∃ s : ByteArray,u = .string s ∧ s.size ≤ 1000000) → False
theorem spn_of (h : ∀ b j u u',Sp b j u u' → ∃ p n c,u = .slice p n c) : SpN Sp H := by
 have k : ∀ b j s u',Sp b j (strV s) u' → False := fun b j s u' e => by
  obtain ⟨_,_,_,e⟩ := h _ _ _ _ e;unfold strV at e;cases e
 exact ⟨fun _ _ _ _ _ e _ => k _ _ _ _ e,fun _ _ _ _ _ _ e _ => k _ _ _ _ e,fun _ _ _ _ _ _ e _ => k _ _ _ _ e,fun _ _ _ _ _ _ _ _ e _ => k _ _ _ _ e,fun _ _ _ _ _ _ _ _ e _ => k _ _ _ _ e,fun _ _ _ _ _ _ _ e _ _ => k _ _ _ _ e⟩
structure Spc (E : Prop) (Sp : SpT) (H H' : Hp) : Prop where
 sl : ∀ b j u u',Sp b j u u' → (∃ p n c,u = .slice p n c) ∨ ((∃ s : Str,u = strV s) ∧ u' = strV [])
 no : SpN Sp H
 ar : ∀ b o (op : UInt8) nm (n : Int64) v v' (args args2 : List Ex),o % 4 = 0 → Sp b (o + 3) v v' → MemAt H b o [.int .i64 op.toNat,strV nm,.int .i64 n.toInt,v] → Rep H (.seq 4 (args.map (dEx .i64))) [v] → A2 EB args args2 → Rep H' (.seq 4 (args2.map (dEx .i64))) [v] → ∃ l,AB args l ∧ (goe nm = true → Ex.alls gdE args = true → Ex.alls gdE l = true) ∧ Rep H' (.seq 4 (l.map (dEx .i64))) [v']
 ex : ∀ b o (kd : UInt8) nm hd v w1 w2 v' (es es2 : List Ex),o % 6 = 0 → Sp b (o + 3) v v' → MemAt H b o [.int .i64 kd.toNat,strV nm,strV hd,v,w1,w2] → Rep H (.seq 4 (es.map (dEx .i64))) [v] → A2 EB es es2 → Rep H' (.seq 4 (es2.map (dEx .i64))) [v] → ∃ l,XB es l ∧ Rep H' (.seq 4 (l.map (dEx .i64))) [v']
 th : ∀ b o (kd : UInt8) nm hd w1 v w2 v' (l : List Sm),o % 6 = 0 → Sp b (o + 4) v v' → MemAt H b o [.int .i64 kd.toNat,strV nm,strV hd,w1,v,w2] → (∃ p n c,w1 = .slice p n c) → Rep H (.seq 6 (l.map (dSm .i64))) [v] → ∃ l',LB l l' ∧ Rep H' (.seq 6 (l'.map (dSm .i64))) [v']
 el : ∀ b o (kd : UInt8) nm hd w1 w2 v v' (l : List Sm),o % 6 = 0 → Sp b (o + 5) v v' → MemAt H b o [.int .i64 kd.toNat,strV nm,strV hd,w1,w2,v] → (∃ p n c,w2 = .slice p n c) → Rep H (.seq 6 (l.map (dSm .i64))) [v] → ∃ l',LB l l' ∧ Rep H' (.seq 6 (l'.map (dSm .i64))) [v']
 ps : ∀ b o nm v w v' (ps : List Str),o % 3 = 0 → Sp b (o + 1) v v' → MemAt H b o [strV nm,v,w] → Rep H (dPs .i64 ps) [v] → ∃ l : List Str,l.length ≤ ps.length + 1 ∧ (ps.all gdN = true → l.all gdN = true) ∧ Rep H' (dPs .i64 l) [v']
 bd : ∀ b o nm w v v' (l : List Sm),o % 3 = 0 → Sp b (o + 2) v v' → MemAt H b o [strV nm,w,v] → (∃ p n c,w = .slice p n c) → Rep H (.seq 6 (l.map (dSm .i64))) [v] → ∃ l',LB l l' ∧ Rep H' (.seq 6 (l'.map (dSm .i64))) [v']
 va : ∀ b o nm v w v' (c : Cp),posC c → o % 3 = 0 → Sp b (o + 1) v v' → MemAt H b o [strV nm,v,w] → Rep H (.seq 3 (c.vars.map (dVr .i64))) [v] → Rep H (.seq 1 (c.vers.map (dVs .i64))) [w] → ∃ l : List Vr,(A2 VrB c.vars l ∨ E ∧ l = []) ∧ Rep H' (.seq 3 (l.map (dVr .i64))) [v']
 ve : ∀ b o nm w v v' (c : Cp),posC c → o % 3 = 0 → Sp b (o + 2) v v' → MemAt H b o [strV nm,w,v] → Rep H (.seq 3 (c.vars.map (dVr .i64))) [w] → Rep H (.seq 1 (c.vers.map (dVs .i64))) [v] → ∃ l,(A2 (VB E) c.vers l ∨ E ∧ l = []) ∧ Rep H' (.seq 1 (l.map (dVs .i64))) [v']
 vs : ∀ b o v v' (x : List Hd),x ≠ [] → Sp b o v v' → MemAt H b o [v] → Rep H (.seq 3 (x.map (dHd .i64))) [v] → ∃ l,VB E x l ∧ Rep H' (.seq 3 (l.map (dHd .i64))) [v']
theorem Spc.u (S : Spc E Sp H H') {b o : Nat} {k : IntKind} {n : UInt8} {v : Value} (h : Kin (.int k n.toNat) v ∨ Sp b o (.int k n.toNat) v) : ∃ m : UInt8,v = .int k m.toNat := by
 rcases h with h | h
 ·generalize hv : Value.int k n.toNat = w at h;cases h with
  | same => exact ⟨n,hv.symm⟩
  | str => cases hv
  | int k2 i j h0 h1 =>
   cases hv;refine ⟨UInt8.ofNat j.toNat,?_⟩;have : (UInt8.ofNat j.toNat).toNat = j.toNat := by rw [UInt8.toNat_ofNat'];omega
   rw [this,Int.toNat_of_nonneg h0]
 ·rcases S.sl _ _ _ _ h with ⟨p,n,c,e⟩ | ⟨⟨s,e⟩,_⟩
  ·cases e
  ·unfold strV at e;cases e
theorem Spc.i (S : Spc E Sp H H') {b o : Nat} {n : Int64} {v : Value} (h : Kin (.int .i64 n.toInt) v ∨ Sp b o (.int .i64 n.toInt) v) : ∃ m : Int64,v = .int .i64 m.toInt ∧ (0 ≤ n.toInt → 0 ≤ m.toInt) := by
 rcases h with h | h
 ·generalize hv : Value.int .i64 n.toInt = w at h;cases h with
  | same => exact ⟨n,hv.symm,fun h => h⟩
  | str => cases hv
  | int k2 i j h0 h1 =>
   cases hv;refine ⟨Int64.ofInt j,?_⟩;rw [Int64.toInt_ofInt_of_le (by omega) (by omega)];exact ⟨rfl,fun _ => h0⟩
 ·rcases S.sl _ _ _ _ h with ⟨p,n,c,e⟩ | ⟨⟨s,e⟩,_⟩
  ·cases e
  ·unfold strV at e;cases e
theorem Spc.g (S : Spc E Sp H H') {b o : Nat} {s : Str} {v : Value} (hs : s.length ≤ 1000000) (hno : Sp b o (strV s) v → False) (h : Kin (strV s) v ∨ Sp b o (strV s) v) : ∃ m : Str,v = strV m ∧ m.length ≤ 1000000 ∧ (m = s ∨ gdN m = true) := by
 rcases h with h | h
 ·unfold strV at h;cases h with
  | same => exact ⟨s,rfl,hs,.inl rfl⟩
  | str _ s' hs' hg => exact ⟨s'.data.toList,by unfold strV;simp,by rw [Array.length_toList];exact hs',.inr hg⟩
 ·exact (hno h).elim
theorem gd_or {m s : Str} (h : m = s ∨ gdN m = true) (k : gdN s = true) : gdN m = true := by
 rcases h with rfl | h
 ·exact k
 ·exact h
theorem Spc.s (S : Spc E Sp H H') {b o : Nat} {s : Str} {v : Value} (hs : s.length ≤ 1000000) (h : Kin (strV s) v ∨ Sp b o (strV s) v) : ∃ m : Str,v = strV m ∧ m.length ≤ 1000000 ∧ (goe s = true → goe m = true) := by
 rcases h with h | h
 ·unfold strV at h;cases h with
  | same => exact ⟨s,rfl,hs,fun h => h⟩
  | str _ s' hs' hg => exact ⟨s'.data.toList,by unfold strV;simp,by rw [Array.length_toList];exact hs',fun _ => goe_of hg⟩
 ·rcases S.sl _ _ _ _ h with ⟨p,n,c,e⟩ | ⟨_,e⟩
  ·unfold strV at e;cases e
  ·exact ⟨[],e,by decide,fun _ => goe_nil⟩
theorem Spc.b (S : Spc E Sp H H') {b o : Nat} {q : Bool} {v : Value} (h : Kin (.bool q) v ∨ Sp b o (.bool q) v) : v = .bool q := by
 rcases h with h | h
 ·cases h;rfl
 ·rcases S.sl _ _ _ _ h with ⟨p,n,c,e⟩ | ⟨⟨s,e⟩,_⟩
  ·cases e
  ·unfold strV at e;cases e
theorem kin_l {p : Option Addr} {n c : Nat} {v : Value} (h : Kin (.slice p n c) v) : v = .slice p n c := by cases h;rfl
theorem txt_ex {k : IntKind} (e : Ex) : (dEx k e).txt = true := by
 obtain ⟨op,nm,n,a⟩ := e;rw [dEx_mk];rfl
theorem txt_sm {k : IntKind} (s : Sm) : (dSm k s).txt = true := by
 obtain ⟨kd,nm,hd,ex,th,el⟩ := s;rw [dSm_mk];rfl
theorem ex_chgS (u : ChgS Sp H H') (S : Spc E Sp H H') (e : Ex) : ∀ b off cs cs',off % 4 = 0 → MemAt H b off cs → Rep H (dEx .i64 e) cs → Cor Sp b off cs cs' → ∃ e',EB e e' ∧ Rep H' (dEx .i64 e') cs' := by
 induction e using Ex.ind with | _ op nm nn args ih
 intro b off cs cs' hof hm h hc;obtain ⟨p,c,rfl,ha,hn⟩ := ex_open h;obtain ⟨v1,q1,rfl,c1,hc⟩ := hc;obtain ⟨v2,q2,rfl,c2,hc⟩ := hc;obtain ⟨v3,q3,rfl,c3,hc⟩ := hc;obtain ⟨v4,q4,rfl,c4,hc⟩ := hc;obtain rfl : q4 = [] := hc;obtain ⟨op',rfl⟩ := S.u c1;obtain ⟨nm',rfl,hn',hg'⟩ := S.s hn c2;obtain ⟨nn',rfl,_⟩ := S.i c3;obtain ⟨a2,h2,r2⟩ := seq_chgS u (fun x hx b off cs cs' h => ih x hx b off cs cs' (h (txt_ex x))) (fun x y _ _ => txt_ex x) ha
 obtain ⟨a3,h3,h3g,r3⟩ : ∃ l,AB args l ∧ (goe nm = true → Ex.alls gdE args = true → Ex.alls gdE l = true) ∧ Rep H' (.seq 4 (l.map (dEx .i64))) [v4] := by
  rcases c4 with c4 | c4
  ·rw [kin_l c4];exact ⟨a2,h2.ab,fun _ => h2.xb.2.2.2,r2⟩
  ·exact S.ar b off op nm nn _ _ args a2 hof c4 hm ha h2 r2
 refine ⟨.mk op' nm' nn' a3,⟨?_,fun hh => ?_,fun hh => ?_⟩,ex_shut hn' r3⟩
 ·rw [depth_mk,depth_mk];have := h3.1;omega
 ·rw [all_mk,Bool.and_eq_true,narrow_mk,decide_eq_true_eq] at hh ⊢;exact h3.2 hh.1 hh.2
 ·rw [all_mk,Bool.and_eq_true] at hh ⊢;exact ⟨hg' hh.1,h3g hh.1 hh.2⟩
theorem exs_chgS (u : ChgS Sp H H') (S : Spc E Sp H H') {l : List Ex} {v : Value} (h : Rep H (.seq 4 (l.map (dEx .i64))) [v]) : ∃ l',A2 EB l l' ∧ Rep H' (.seq 4 (l'.map (dEx .i64))) [v] :=
 seq_chgS u (fun x _ b off cs cs' k => ex_chgS u S x b off cs cs' (k (txt_ex x))) (fun x y _ _ => txt_ex x) h
theorem sm_chgS (u : ChgS Sp H H') (S : Spc E Sp H H') (s : Sm) : ∀ b off cs cs',off % 6 = 0 → MemAt H b off cs → Rep H (dSm .i64 s) cs → Cor Sp b off cs cs' → ∃ s',SB s s' ∧ Rep H' (dSm .i64 s') cs' := by
 induction s using Sm.ind with | _ kd nm hd ex th el iht ihe
 intro b off cs cs' hof hm h hc;obtain ⟨p,c,p1,c1,p2,c2,rfl,hx,ht,he,hn,hh⟩ := sm_open h;obtain ⟨v1,q1,rfl,k1,hc⟩ := hc;obtain ⟨v2,q2,rfl,k2,hc⟩ := hc;obtain ⟨v3,q3,rfl,k3,hc⟩ := hc;obtain ⟨v4,q4,rfl,k4,hc⟩ := hc;obtain ⟨v5,q5,rfl,k5,hc⟩ := hc;obtain ⟨v6,q6,rfl,k6,hc⟩ := hc;obtain rfl : q6 = [] := hc;obtain ⟨kd',rfl⟩ := S.u k1;obtain ⟨nm',rfl,hn',hg1⟩ := S.s hn k2;obtain ⟨hd',rfl,hh',hg2⟩ := S.s hh k3;obtain ⟨e2,h2,r2⟩ := exs_chgS u S hx
 obtain ⟨e3,h3,r3⟩ : ∃ l,XB ex l ∧ Rep H' (.seq 4 (l.map (dEx .i64))) [v4] := by
  rcases k4 with k4 | k4
  ·rw [kin_l k4];exact ⟨e2,h2.xb,r2⟩
  ·exact S.ex b off kd nm hd _ _ _ _ ex e2 hof k4 hm hx h2 r2
 obtain ⟨t3,h4,r4⟩ : ∃ l,LB th l ∧ Rep H' (.seq 6 (l.map (dSm .i64))) [v5] := by
  rcases k5 with k5 | k5
  ·rw [kin_l k5];obtain ⟨l,a,r⟩ := seq_chgS u (fun x hx b off cs cs' h => iht x hx b off cs cs' (h (txt_sm x))) (fun x y _ _ => txt_sm x) ht;exact ⟨l,a.lb,r⟩
  ·exact S.th b off kd nm hd _ _ _ _ th hof k5 hm ⟨_,_,_,rfl⟩ ht
 obtain ⟨l3,h5,r5⟩ : ∃ l,LB el l ∧ Rep H' (.seq 6 (l.map (dSm .i64))) [v6] := by
  rcases k6 with k6 | k6
  ·rw [kin_l k6];obtain ⟨l,a,r⟩ := seq_chgS u (fun x hx b off cs cs' h => ihe x hx b off cs cs' (h (txt_sm x))) (fun x y _ _ => txt_sm x) he;exact ⟨l,a.lb,r⟩
  ·exact S.el b off kd nm hd _ _ _ _ el hof k6 hm ⟨_,_,_,rfl⟩ he
 exact ⟨.mk kd' nm' hd' e3 t3 l3,sb_mk h3 h4 h5 hg1 hg2,sm_shut hn' hh' r3 r4 r5⟩
theorem sms_chgS (u : ChgS Sp H H') (S : Spc E Sp H H') {l : List Sm} {v : Value} (h : Rep H (.seq 6 (l.map (dSm .i64))) [v]) : ∃ l',LB l l' ∧ Rep H' (.seq 6 (l'.map (dSm .i64))) [v] := by
 obtain ⟨l',a,r⟩ := seq_chgS u (fun x _ b off cs cs' k => sm_chgS u S x b off cs cs' (k (txt_sm x))) (fun x y _ _ => txt_sm x) h;exact ⟨l',a.lb,r⟩
theorem strs_of : ∀ {vs : List Value},(∀ u ∈ vs,∃ s : ByteArray,u = .string s ∧ s.size ≤ 1000000) → ∃ l : List Str,vs = l.map strV
 | [],_ => ⟨[],rfl⟩
 | u :: r,h => by
  obtain ⟨s,rfl,_⟩ := h u (.head _);obtain ⟨l,rfl⟩ := strs_of fun x hx => h x (.tail _ hx);exact ⟨s.data.toList :: l,by rw [List.map_cons,strV]⟩
theorem strs_gd : ∀ {l m : List Str},(∀ (j : Nat) s s',l[j]? = some s → m[j]? = some s' → s' = s ∨ gdN s' = true) → l.length = m.length → l.all gdN = true → m.all gdN = true
 | [],[],_,_,_ => rfl
 | s :: l,s' :: m,h,hl,k => by
  rw [List.all_cons,Bool.and_eq_true] at k ⊢;exact ⟨gd_or (h 0 s s' rfl rfl) k.1,strs_gd (fun j a b e1 e2 => h (j + 1) a b (by simpa using e1) (by simpa using e2)) (by simpa using hl) k.2⟩
 | [],_ :: _,_,hl,_ => by simp at hl
 | _ :: _,[],_,hl,_ => by simp at hl
theorem strVj {a b : Str} (h : strV a = strV b) : a = b := by
 unfold strV at h;injection h with h
 injection h with h
 exact congrArg Array.toList h
theorem ps_chgS (u : ChgS Sp H H') (S : Spc E Sp H H') {ps : List Str} {v : Value} (h : Rep H (dPs .i64 ps) [v]) : ∃ l : List Str,l.length = ps.length ∧ (ps.all gdN = true → l.all gdN = true) ∧ Rep H' (dPs .i64 l) [v] := by
 have e : dPs .i64 ps = .ps (ps.map strV) := rfl;rw [e] at h;unfold Rep at h;obtain ⟨p,c,h1,h2,h3,h4⟩ := h;injection h1 with h1 _
 subst h1;simp only [List.length_map] at h2 h4 ⊢;rcases h4 with ⟨rfl,rfl⟩ | ⟨b,arr,t,rfl,h5,h6,h7,h8,h9⟩
 ·obtain rfl : ps = [] := List.eq_nil_of_length_eq_zero (by omega);exact ⟨[],rfl,fun h => h,by show Rep H' (.ps []) _;unfold Rep;exact ⟨none,0,rfl,Nat.le_refl _,h3,.inl ⟨rfl,rfl⟩⟩⟩
 ·obtain ⟨arr',m',k1,k2,k3,k4⟩ := u.get b arr t _ h5
  have one : ∀ (j : Nat) (hj : j < arr.size) (hj' : j < arr'.size),∃ s s' : ByteArray,arr[j] = .string s ∧ arr'[j] = .string s' ∧ s'.size ≤ 1000000 ∧ (s' = s ∨ gdN s'.data.toList = true) := by
   intro j hj2 hj;obtain ⟨u',e1,e2⟩ := k4 j arr[j] (Array.getElem?_eq_getElem hj2);rw [Array.getElem?_eq_getElem hj] at e1;cases e1;obtain ⟨s,hs,hl⟩ := h8 arr[j] (by simp);rw [hs] at e2;rcases e2 with e2 | e2
   ·generalize arr'[j] = q at e2;cases e2 with
    | same => exact ⟨s,s,hs,rfl,hl,.inl rfl⟩
    | str _ s' hs' hg => exact ⟨s,s',hs,rfl,hs',.inr hg⟩
   ·have e3 : Value.string s = strV s.data.toList := by unfold strV;simp
    rw [e3] at e2;exact (S.no.ps _ _ _ _ _ _ _ e2 h5 h8).elim
  have hall : ∀ x ∈ arr'.toList,∃ s : ByteArray,x = .string s ∧ s.size ≤ 1000000 := by
   intro x hx;obtain ⟨j,hj,rfl⟩ := List.getElem_of_mem hx;rw [Array.length_toList] at hj;obtain ⟨_,s',_,e,hl,_⟩ := one j (by omega) hj;exact ⟨s',by rw [Array.getElem_toList];exact e,hl⟩
  obtain ⟨l,hl⟩ := strs_of (vs := arr'.toList.take ps.length) fun x hx => hall x (List.mem_of_mem_take hx)
  have hlen : l.length = ps.length := by
   have := congrArg List.length hl;rw [List.length_take,show arr'.toList.length = arr'.size from Array.length_toList,List.length_map] at this;omega
  refine ⟨l,hlen,strs_gd (fun j s s' e1 e2 => ?_) hlen.symm,?_⟩
  ·have hj : j < ps.length := (List.getElem?_eq_some_iff.1 e1).1
   have a1 : arr.toList[j]? = some (strV s) := by
    have := congrArg (fun z => z[j]?) h9;simp only [List.length_map,List.getElem?_take_of_lt hj,List.getElem?_map,e1] at this;exact this
   have a2 : arr'.toList[j]? = some (strV s') := by
    have := congrArg (fun z => z[j]?) hl;simp only [List.getElem?_take_of_lt hj,List.getElem?_map,e2] at this;exact this
   rw [Array.getElem?_toList] at a1 a2;obtain ⟨hj1,a1⟩ := Array.getElem?_eq_some_iff.1 a1;obtain ⟨hj2,a2⟩ := Array.getElem?_eq_some_iff.1 a2;obtain ⟨t1,t2,b1,b2,_,b3⟩ := one j hj1 hj2;rw [b1] at a1;rw [b2] at a2
   have c1 : s = t1.data.toList := by have : strV t1.data.toList = strV s := by rw [← a1]; unfold strV; simp
                                      exact (strVj this).symm
   have c2 : s' = t2.data.toList := by have : strV t2.data.toList = strV s' := by rw [← a2]; unfold strV; simp
                                       exact (strVj this).symm
   rw [c1,c2];exact b3.imp (fun e => by rw [e]) fun h => h
  show Rep H' (.ps (l.map strV)) _;unfold Rep;refine ⟨_,c,by rw [List.length_map,hlen],by rw [List.length_map,hlen];exact h2,h3,.inr ⟨b,arr',t,rfl,by rw [k1,k3 rfl],u.lo ▸ h6,by omega,hall,?_⟩⟩;rw [List.length_map,hlen,hl]
theorem hd_chgS (u : ChgS Sp H H') (S : Spc E Sp H H') (x : Hd) : ∀ b off cs cs',off % 3 = 0 → MemAt H b off cs → Rep H (dHd .i64 x) cs → Cor Sp b off cs cs' → ∃ y,HB x y ∧ Rep H' (dHd .i64 y) cs' := by
 intro b off cs cs' hof hm h hc;obtain ⟨p1,c1,p2,c2,rfl,hn,h1,h2⟩ := hd_openP h;obtain ⟨v1,q1,rfl,k1,hc⟩ := hc;obtain ⟨v2,q2,rfl,k2,hc⟩ := hc;obtain ⟨v3,q3,rfl,k3,hc⟩ := hc;obtain rfl : q3 = [] := hc;obtain ⟨nm',rfl,hn',hg⟩ := S.g hn (fun e => S.no.sl _ _ _ _ _ _ _ _ e hm) k1
 obtain ⟨ps',a1,ag,r1⟩ : ∃ l : List Str,l.length ≤ x.ps.length + 1 ∧ (x.ps.all gdN = true → l.all gdN = true) ∧ Rep H' (dPs .i64 l) [v2] := by
  rcases k2 with k2 | k2
  ·rw [kin_l k2];obtain ⟨l,a,g,r⟩ := ps_chgS u S h1;exact ⟨l,by omega,g,r⟩
  ·exact S.ps b off _ _ _ _ _ hof k2 hm h1
 obtain ⟨bd',a2,r2⟩ : ∃ l,LB x.body l ∧ Rep H' (.seq 6 (l.map (dSm .i64))) [v3] := by
  rcases k3 with k3 | k3
  ·rw [kin_l k3];exact sms_chgS u S h2
  ·exact S.bd b off _ _ _ _ _ hof k3 hm ⟨_,_,_,rfl⟩ h2
 exact ⟨⟨nm',ps',bd'⟩,⟨a1,fun k => by unfold gdH at k ⊢;rw [Bool.and_eq_true] at k ⊢;exact ⟨gd_or hg k.1,ag k.2⟩,a2⟩,hd_shut (x := ⟨nm',ps',bd'⟩) hn' r1 r2⟩
theorem hds_chgS (u : ChgS Sp H H') (S : Spc E Sp H H') {l : List Hd} {v : Value} (h : Rep H (.seq 3 (l.map (dHd .i64))) [v]) : ∃ l',A2 HB l l' ∧ Rep H' (.seq 3 (l'.map (dHd .i64))) [v] :=
 seq_chgS u (fun x _ b off cs cs' k => hd_chgS u S x b off cs cs' (k rfl)) (fun x y _ _ => rfl) h
theorem vb_txt {x y : List Hd} (h : VB E x y) (k : (dVs .i64 y).txt = true) : (dVs .i64 x).txt = true := by
 rcases h with h | ⟨_,rfl⟩
 ·exact h.txt (g := dHd .i64) (fun x y _ _ => rfl) k
 ·cases k
theorem vs_chgS (u : ChgS Sp H H') (S : Spc E Sp H H') (x : List Hd) (hx : x ≠ []) : ∀ b off cs cs',MemAt H b off cs → Rep H (dVs .i64 x) cs → Cor Sp b off cs cs' → ∃ y,VB E x y ∧ Rep H' (dVs .i64 y) cs' := by
 intro b off cs cs' hm h hc;obtain ⟨p,c,rfl,h1⟩ := vs_open h;obtain ⟨v1,q1,rfl,k1,hc⟩ := hc;obtain rfl : q1 = [] := hc;rcases k1 with k1 | k1
 ·rw [kin_l k1];obtain ⟨l,a,r⟩ := hds_chgS u S h1;exact ⟨l,.inl a,r⟩
 ·exact S.vs b off _ _ x hx k1 hm h1
theorem vss_chgS (u : ChgS Sp H H') (S : Spc E Sp H H') {l : List (List Hd)} {v : Value} (hp : ∀ x ∈ l,x ≠ []) (h : Rep H (.seq 1 (l.map (dVs .i64))) [v]) : ∃ l',A2 (VB E) l l' ∧ Rep H' (.seq 1 (l'.map (dVs .i64))) [v] :=
 seq_chgS u (fun x hx b off cs cs' _ => vs_chgS u S x (hp x hx) b off cs cs') (fun x y h k => vb_txt h k) h
theorem vars_chgS (u : ChgS Sp H H') (S : Spc E Sp H H') {l : List Vr} {v : Value} (h : Rep H (.seq 3 (l.map (dVr .i64))) [v]) : ∃ l' : List Vr,A2 VrB l l' ∧ Rep H' (.seq 3 (l'.map (dVr .i64))) [v] := by
 obtain ⟨l',a,r⟩ := seq_chgS (Q := VrB) u (fun x _ b off cs cs' _ hm h hc => by
  obtain ⟨rfl,hx⟩ := vr_open h;obtain ⟨v1,q1,rfl,k1,hc⟩ := hc;obtain ⟨v2,q2,rfl,k2,hc⟩ := hc;obtain ⟨v3,q3,rfl,k3,hc⟩ := hc;obtain rfl : q3 = [] := hc;obtain ⟨s,rfl,hs,hg⟩ := S.g hx (fun e => S.no.vr _ _ _ _ _ _ _ _ e hm) k1;obtain ⟨t,rfl⟩ := S.u k2;obtain ⟨i,rfl,hi⟩ := S.i k3;exact ⟨⟨s,t,i⟩,⟨hi,gd_or hg⟩,vr_shut (x := ⟨s,t,i⟩) hs⟩) (fun x y _ _ => rfl) h
 exact ⟨l',a,r⟩
theorem fgs_chgS (u : ChgS Sp H H') (S : Spc E Sp H H') {l : List Fg} {v : Value} (h : Rep H (.seq 2 (l.map dFg)) [v]) : ∃ l' : List Fg,A2 GF l l' ∧ Rep H' (.seq 2 (l'.map dFg)) [v] := by
 obtain ⟨l',a,r⟩ := seq_chgS (Q := GF) u (fun x _ b off cs cs' _ hm h hc => by
  obtain ⟨rfl,hx⟩ := fg_open h;obtain ⟨v1,q1,rfl,k1,hc⟩ := hc;obtain ⟨v2,q2,rfl,k2,hc⟩ := hc;obtain rfl : q2 = [] := hc;obtain ⟨s,rfl,hs,hg⟩ := S.g hx (fun e => S.no.fg _ _ _ _ _ e hm) k1;rw [S.b k2];exact ⟨⟨s,x.init⟩,gd_or hg,fg_shut (x := ⟨s,x.init⟩) hs⟩) (fun x y _ _ => rfl) h
 exact ⟨l',a,r⟩
theorem lks_chgS (u : ChgS Sp H H') (S : Spc E Sp H H') {l : List Lk} {v : Value} (h : Rep H (.seq 3 (l.map dLk)) [v]) : ∃ l' : List Lk,A2 GL l l' ∧ Rep H' (.seq 3 (l'.map dLk)) [v] := by
 obtain ⟨l',a,r⟩ := seq_chgS (Q := GL) u (fun x _ b off cs cs' _ hm h hc => by
  obtain ⟨rfl,hx,hy⟩ := lk_open h;obtain ⟨v1,q1,rfl,k1,hc⟩ := hc;obtain ⟨v2,q2,rfl,k2,hc⟩ := hc;obtain ⟨v3,q3,rfl,k3,hc⟩ := hc;obtain rfl : q3 = [] := hc;obtain ⟨s,rfl,hs,hg1⟩ := S.g hx (fun e => S.no.l1 _ _ _ _ _ _ e hm) k1;obtain ⟨t,rfl,ht,hg2⟩ := S.g hy (fun e => S.no.l2 _ _ _ _ _ _ e hm) k2;obtain ⟨i,rfl,hi⟩ := S.i k3;exact ⟨⟨s,t,i⟩,⟨gd_or hg1,gd_or hg2⟩,lk_shut (x := ⟨s,t,i⟩) hs ht⟩) (fun x y _ _ => rfl) h
 exact ⟨l',a,r⟩
theorem cp_chgS (u : ChgS Sp H H') (S : Spc E Sp H H') (x : Cp) (hp : posC x) : ∀ b off cs cs',off % 3 = 0 → MemAt H b off cs → Rep H (dCp .i64 x) cs → Cor Sp b off cs cs' → ∃ y,CB E x y ∧ Rep H' (dCp .i64 y) cs' := by
 intro b off cs cs' hof hm h hc;obtain ⟨p1,c1,p2,c2,rfl,hn,h1,h2⟩ := cp_open h;obtain ⟨v1,q1,rfl,k1,hc⟩ := hc;obtain ⟨v2,q2,rfl,k2,hc⟩ := hc;obtain ⟨v3,q3,rfl,k3,hc⟩ := hc;obtain rfl : q3 = [] := hc;obtain ⟨nm',rfl,hn',hg⟩ := S.g hn (fun e => S.no.sl _ _ _ _ _ _ _ _ e hm) k1
 obtain ⟨vr',a1,r1⟩ : ∃ l : List Vr,(A2 VrB x.vars l ∨ E ∧ l = []) ∧ Rep H' (.seq 3 (l.map (dVr .i64))) [v2] := by
  rcases k2 with k2 | k2
  ·rw [kin_l k2];obtain ⟨l,a,r⟩ := vars_chgS u S h1;exact ⟨l,.inl a,r⟩
  ·exact S.va b off _ _ _ _ x hp hof k2 hm h1 h2
 obtain ⟨vs',a2,r2⟩ : ∃ l,(A2 (VB E) x.vers l ∨ E ∧ l = []) ∧ Rep H' (.seq 1 (l.map (dVs .i64))) [v3] := by
  rcases k3 with k3 | k3
  ·rw [kin_l k3];obtain ⟨l,a,r⟩ := vss_chgS u S hp.2.2 h2;exact ⟨l,.inl a,r⟩
  ·exact S.ve b off _ _ _ _ x hp hof k3 hm h1 h2
 exact ⟨⟨nm',vr',vs'⟩,⟨a1,a2,gd_or hg⟩,cp_shut (x := ⟨nm',vr',vs'⟩) hn' r1 r2⟩
theorem ft_chgS (u : ChgS Sp H H') (S : Spc E Sp H H') {f : Ft} {cs : List Value} (hp : ∀ c ∈ f.comps,posC c) (h : Rep H (dFt .i64 f) cs) : ∃ f',FB E f f' ∧ Rep H' (dFt .i64 f') cs := by
 obtain ⟨p1,c1,p2,c2,p3,c3,rfl,hn,h1,h2,h3⟩ := ft_open h;obtain ⟨l1,a1,r1⟩ := fgs_chgS u S h1;obtain ⟨l2,a2,r2⟩ := lks_chgS u S h2;obtain ⟨l3,a3,r3⟩ := seq_chgS u (fun x hx b off cs cs' k => cp_chgS u S x (hp x hx) b off cs cs' (k rfl)) (fun x y _ _ => rfl) h3;exact ⟨⟨f.nm,l1,l2,l3⟩,⟨rfl,a1,a2,a3⟩,ft_shut (x := ⟨f.nm,l1,l2,l3⟩) hn r1 r2 r3⟩
end
structure bndH (M D : Nat) (h : Hd) : Prop where
 ps : h.ps.length ≤ M
 cnt : Sm.counts h.body ≤ 100
 dep : Sm.deeps h.body ≤ 100
 all : Sm.alls (okSD 100 D) h.body = true
structure bndC (M D : Nat) (c : Cp) : Prop where
 vars : c.vars.length ≤ 100
 vers : c.vers.length < 99
 ini : ∀ v ∈ c.vars,0 ≤ v.init.toInt
 all : ∀ v ∈ c.vers,v.length ≤ 100 ∧ ∀ h ∈ v,bndH M D h
structure bndF (M D : Nat) (f : Ft) : Prop where
 flags : f.flags.length ≤ 100
 links : f.links.length ≤ 100
 comps : f.comps.length ≤ 100
 all : ∀ c ∈ f.comps,bndC M D c
theorem deeps_le {D : Nat} : ∀ {l : List Ex},(∀ e ∈ l,e.depth ≤ D) → Ex.deeps l ≤ D
 | [],_ => by simp [Ex.deeps]
 | e :: r,h => by
  have h1 := h e (.head _);have h2 := deeps_le fun x hx => h x (.tail _ hx);simp only [Ex.deeps];omega
theorem okS2_SD {N : Nat} : ∀ s,okS2 N s = true → okSD N 64 s = true
 | .mk kd nm hd ex th el,h => by
  simp only [okS2,okSD,Bool.and_eq_true,decide_eq_true_eq,List.all_eq_true] at h ⊢;refine ⟨⟨h.1,deeps_le fun e he => ?_⟩,fun e he => ?_⟩
  ·have := h.2 e he;simp only [okE,Bool.and_eq_true,decide_eq_true_eq] at this;exact this.1
  ·have := h.2 e he;simp only [okE,Bool.and_eq_true] at this;exact this.2
theorem bndF_of {f : Ft} (h : okFt 100 f) (hv : ∀ c ∈ f.comps,c.vers.length < 99) (hi : ∀ c ∈ f.comps,∀ v ∈ c.vars,0 ≤ v.init.toInt) : bndF 100 64 f :=
 ⟨h.flags,h.links,h.comps,fun c hc => ⟨(h.all c hc).vars,hv c hc,hi c hc,fun v hm => ⟨((h.all c hc).all v hm).len,fun x hx => by
  have k := ((h.all c hc).all v hm).all x hx;exact ⟨k.ps,k.body.cnt,k.body.dep,salls_imp okS2_SD _ k.body.all⟩⟩⟩⟩
theorem HB.bnd {M D : Nat} {x y : Hd} (h : HB x y) (k : bndH M D x) : bndH (M + 1) (2 * D) y := by
 obtain ⟨h1,_,h2,h3,h4,_⟩ := h;exact ⟨by have := k.ps;omega,by have := k.cnt;omega,by have := k.dep;omega,h4 _ _ k.all⟩
theorem CB.bnd {E : Prop} {M D : Nat} {x y : Cp} (h : CB E x y) (k : bndC M D x) : bndC (M + 1) (2 * D) y := by
 obtain ⟨h1,h2,_⟩ := h;refine ⟨?_,?_,fun v hv => ?_,fun v hv => ?_⟩
 ·rcases h1 with h1 | ⟨_,h1⟩
  ·rw [h1.len];exact k.vars
  ·rw [h1];simp
 ·rcases h2 with h2 | ⟨_,h2⟩
  ·rw [h2.len];exact k.vers
  ·rw [h2];simp
 ·rcases h1 with h1 | ⟨_,h1⟩
  ·obtain ⟨x,hx,e⟩ := h1.mem v hv;exact e.1 (k.ini x hx)
  ·rw [h1] at hv;cases hv
 ·rcases h2 with h2 | ⟨_,h2⟩
  ·obtain ⟨w,hw,h3⟩ := h2.mem v hv;have k2 := k.all w hw;rcases h3 with h3 | ⟨_,rfl⟩
   ·refine ⟨by rw [h3.len];exact k2.1,fun q hq => ?_⟩;obtain ⟨q0,h5,h6⟩ := h3.mem q hq;exact h6.bnd (k2.2 q0 h5)
   ·exact ⟨by simp,fun q hq => by cases hq⟩
  ·rw [h2] at hv;cases hv
theorem FB.bnd {E : Prop} {M D : Nat} {f g : Ft} (h : FB E f g) (k : bndF M D f) : bndF (M + 1) (2 * D) g := by
 obtain ⟨_,h1,h2,h3⟩ := h;refine ⟨by rw [h1.len];exact k.flags,by rw [h2.len];exact k.links,by rw [h3.len];exact k.comps,fun c hc => ?_⟩;obtain ⟨c0,hc0,h4⟩ := h3.mem c hc;exact h4.bnd (k.all c0 hc0)
theorem okSD_1 {N D : Nat} (hD : D ≤ 1000000) : ∀ s,okSD N D s = true → okS1 s = true
 | .mk kd nm hd ex th el,h => by
  simp only [okS1,okSD,Bool.and_eq_true,decide_eq_true_eq,List.all_eq_true] at h ⊢;intro x hx;have := deeps_mem hx;omega
theorem okSD_3 {N D : Nat} : ∀ s,okSD N D s = true → okS3 1000 s = true ∨ 1000 < N
 | .mk kd nm hd ex th el,h => by
  simp only [okS3,okSD,Bool.and_eq_true,decide_eq_true_eq,List.all_eq_true] at h ⊢
  by_cases hn : 1000 < N
  ·exact .inr hn
  ·exact .inl ⟨by omega,h.2⟩
theorem bndF.sy {M D : Nat} {f : Ft} (k : bndF M D f) (hM : M ≤ 1000) : syFt 1000 f :=
 ⟨by have := k.flags;omega,by have := k.links;omega,by have := k.comps;omega,fun c hc => by
  have kc := k.all c hc;refine ⟨by have := kc.vars;omega,by have := kc.vers;omega,fun v hv => ?_⟩;have kv := kc.all v hv;refine ⟨by have := kv.1;omega,fun h hh => ?_⟩;have kh := kv.2 h hh;exact ⟨by have := kh.ps;omega,by have := kh.cnt;omega,by have := kh.dep;omega,salls_imp (fun s hs => (okSD_3 s hs).resolve_right (by decide)) _ kh.all⟩⟩
theorem bndF.ev {M D : Nat} {f : Ft} (k : bndF M D f) (hD : D ≤ 1000000) : evH okH f = true := by
 simp only [evH,List.all_eq_true];intro c hc v hv h hh;have kh := ((k.all c hc).all v hv).2 h hh;simp only [okH,Bool.and_eq_true,decide_eq_true_eq];exact ⟨⟨by have := kh.cnt;omega,by have := kh.dep;omega⟩,salls_imp (okSD_1 hD) _ kh.all⟩
theorem ft_names {H : Hp} {k : IntKind} {f : Ft} {cs : List Value} (h : Rep H (dFt k f) cs) : ∀ c ∈ f.comps,c.nm.length ≤ 1000000 := by
 intro c hc;obtain ⟨p1,c1,p2,c2,p3,c3,rfl,hn,h1,h2,h3⟩ := ft_open h;obtain ⟨i,hi,rfl⟩ := List.getElem_of_mem hc;obtain ⟨b,o,cs,_,r,_⟩ := h3.elem (map_at hi);obtain ⟨_,_,_,_,_,hm,_⟩ := cp_open r;exact hm
/-! ### Names -/
def gdC (c : Cp) : Prop := gdN c.nm = true ∧ (∀ v ∈ c.vars,gdN v.nm = true) ∧ ∀ v ∈ c.vers,∀ h ∈ v,gdH h = true ∧ Sm.alls gdS h.body = true
def gdF (f : Ft) : Prop := gdN f.nm = true ∧ (∀ x ∈ f.flags,gdN x.nm = true) ∧ (∀ x ∈ f.links,gdN x.fr = true ∧ gdN x.to = true) ∧ ∀ c ∈ f.comps,gdC c
theorem CB.gd {E : Prop} {c d : Cp} (h : CB E c d) (k : gdC c) : gdC d := by
 obtain ⟨h1,h2,h3⟩ := h;refine ⟨h3 k.1,fun v hv => ?_,fun v hv x hx => ?_⟩
 ·rcases h1 with h1 | ⟨_,h1⟩
  ·obtain ⟨x,hx,e⟩ := h1.mem v hv;exact e.2 (k.2.1 x hx)
  ·rw [h1] at hv;cases hv
 ·rcases h2 with h2 | ⟨_,h2⟩
  ·obtain ⟨w,hw,h4⟩ := h2.mem v hv;rcases h4 with h4 | ⟨_,rfl⟩
   ·obtain ⟨y,hy,h5⟩ := h4.mem x hx;obtain ⟨_,h6,_,_,_,h7⟩ := h5;exact ⟨h6 (k.2.2 w hw y hy).1,h7 (k.2.2 w hw y hy).2⟩
   ·cases hx
  ·rw [h2] at hv;cases hv
theorem FB.gd {E : Prop} {f g : Ft} (h : FB E f g) (k : gdF f) : gdF g := by
 obtain ⟨h0,h1,h2,h3⟩ := h;refine ⟨by rw [h0];exact k.1,fun x hx => ?_,fun x hx => ?_,fun c hc => ?_⟩
 ·obtain ⟨y,hy,e⟩ := h1.mem x hx;exact e (k.2.1 y hy)
 ·obtain ⟨y,hy,e⟩ := h2.mem x hx;exact ⟨e.1 (k.2.2.1 y hy).1,e.2 (k.2.2.1 y hy).2⟩
 ·obtain ⟨y,hy,e⟩ := h3.mem c hc;exact e.gd (k.2.2.2 y hy)
/-! ### One cell -/
theorem chgS_put {Sp : SpT} {H : Hp} {b off : Nat} {arr : Array Value} {t : TypeId} {m : Nat × Nat} {v : Value} (hH : H b = some (.cells arr t m)) (h : ∀ u,arr[off]? = some u → Kin u v ∨ Sp b off u v) : ChgS Sp H (putH H b (.cells (arr.setIfInBounds off v) t (0,0))) := by
 refine ⟨fun c a t' k e => ?_,rfl⟩
 by_cases hc : c = b
 ·subst hc;rw [hH] at e;cases e;refine ⟨arr.setIfInBounds off v,_,putH_at,by simp,fun _ => rfl,fun j u hu => ?_⟩
  by_cases hj : off = j
  ·subst hj
   have hl : off < arr.size := by
    rcases Nat.lt_or_ge off arr.size with h1 | h1
    ·exact h1
    ·rw [Array.getElem?_eq_none h1] at hu;cases hu
   exact ⟨v,by rw [Array.getElem?_setIfInBounds_self_of_lt hl],h u hu⟩
  ·exact ⟨u,by rw [Array.getElem?_setIfInBounds_ne hj];exact hu,.inl (.same u)⟩
 ·exact ⟨a,k,by rw [putH_ne hc];exact e,rfl,fun h => h,fun j u hu => ⟨u,hu,.inl (.same u)⟩⟩
theorem memAt_in {H : Hp} {b off : Nat} {x y : List Value} (h : MemAt H b off x) (k : MemAt H b off y) (hl : x.length = y.length) : x = y := by
 obtain ⟨arr,t,m,h1,h2⟩ := h;obtain ⟨arr',t',m',k1,k2⟩ := k;rw [h1] at k1;cases k1;apply List.ext_getElem? ;intro j;cases e : x[j]? with
 | none =>
  have := List.getElem?_eq_none_iff.1 e;exact (List.getElem?_eq_none_iff.2 (by omega)).symm
 | some u =>
  have hj := (List.getElem?_eq_some_iff.1 e).1;have h3 := h2 j u e;have h4 : y[j]? = some y[j] := List.getElem?_eq_getElem (by omega);have h5 := k2 j _ h4;rw [h3] at h5;rw [h4];exact h5
theorem memAt_one {H : Hp} {b off : Nat} {cs : List Value} (h : MemAt H b off cs) {j : Nat} {u : Value} (e : cs[j]? = some u) : MemAt H b (off + j) [u] := by
 obtain ⟨arr,t,m,h1,h2⟩ := h;refine ⟨arr,t,m,h1,fun i w k => ?_⟩;cases i with
 | zero => simp at k;subst k;exact h2 j u e
 | succ i => simp at k
theorem memAt_lt {H : Hp} {b off : Nat} {cs : List Value} {arr : Array Value} {t : TypeId} {m : Nat × Nat} (h : MemAt H b off cs) (k : H b = some (.cells arr t m)) {j : Nat} (hj : j < cs.length) : off + j < arr.size := by
 obtain ⟨arr',t',m',h1,h2⟩ := h;rw [h1] at k;cases k;have := h2 j _ (List.getElem?_eq_getElem hj);exact (Array.getElem?_eq_some_iff.1 this).1
theorem CB.pos {c d : Cp} (h : CB False c d) (k : posC c) : posC d := by
 obtain ⟨h1,h2,_⟩ := h;obtain ⟨k1,k2,k3⟩ := k;have h1 := h1.resolve_right fun e => e.1;have h2 := h2.resolve_right fun e => e.1;refine ⟨by rw [h1.len];exact k1,by rw [h2.len];exact k2,fun v hv => ?_⟩;obtain ⟨w,hw,h3⟩ := h2.mem v hv;have h4 := (h3.resolve_right fun e => e.1).len;have := k3 w hw;intro e;rw [e] at h4;exact this (List.eq_nil_of_length_eq_zero h4.symm)
def posF (f : Ft) : Prop := 0 < f.comps.length ∧ ∀ c ∈ f.comps,posC c
theorem FB.pos {f g : Ft} (h : FB False f g) (k : posF f) : posF g := by
 refine ⟨by rw [h.2.2.2.len];exact k.1,fun c hc => ?_⟩;obtain ⟨c0,hc0,h4⟩ := h.2.2.2.mem c hc;exact h4.pos (k.2 c0 hc0)
theorem hdsP_pos {M : Mk} {k : Nat} : ∀ {l : List Cd},0 < l.length → hdsP M k l ≠ []
 | c :: r,_ => by simp [hdsP]
theorem vssP_pos (M : Mk) (x : Prt) : ∀ v ∈ vssP M x,v ≠ [] := by
 intro v hv;unfold vssP at hv;rcases List.mem_cons.1 hv with rfl | hv
 ·refine hdsP_pos ?_;unfold fstP
  split
  ·simp
  ·rw [List.length_take];omega
 ·split at hv
  ·rw [List.mem_singleton.1 hv];refine hdsP_pos ?_;rw [List.length_take];omega
  ·cases hv
theorem ini_vars (x : Prt) : ∀ v ∈ varsP x,0 ≤ v.init.toInt := by
 intro v hv;simp only [varsP,List.mem_append,List.mem_singleton] at hv;rcases hv with (hv | rfl) | hv
 ·obtain ⟨k,hk,rfl⟩ := List.mem_map.1 hv;have hk := List.mem_range.1 hk;have : intsP x ≤ 3 := by unfold intsP;omega
  show 0 ≤ (Int64.ofNat k).toInt;rw [Int64.toInt_ofNat_of_lt (by omega)];omega
 ·decide
 ·obtain ⟨k,hk,rfl⟩ := List.mem_map.1 hv;show 0 ≤ (0 : Int64).toInt
  decide
theorem ini_build (p : Pln) : ∀ c ∈ (buildF p).comps,∀ v ∈ c.vars,0 ≤ v.init.toInt := by
 intro c hc;simp only [buildF,cmpsP] at hc;obtain ⟨i,hi,rfl⟩ := List.mem_mapIdx.1 hc;show ∀ v ∈ varsP _,_;exact ini_vars _
theorem posF_build (p : Pln) : posF (buildF p) := by
 refine ⟨(buildF_ok p).pos,fun c hc => ?_⟩;simp only [buildF,cmpsP] at hc;obtain ⟨i,hi,rfl⟩ := List.mem_mapIdx.1 hc;refine ⟨?_,?_,?_⟩
 ·show 0 < (varsP _).length;simp only [varsP,List.length_append,List.length_cons];omega
 ·show 0 < (vssP _ _).length;unfold vssP;simp
 ·show ∀ v ∈ vssP _ _,v ≠ [];exact vssP_pos _ _
def noS : SpT := fun _ _ _ _ => False
theorem noS_spc {H H' : Hp} : Spc False noS H H' := by
 refine ⟨fun _ _ _ _ h => h.elim,spn_of fun _ _ _ _ h => h.elim,?_,?_,?_,?_,?_,?_,?_,?_,?_⟩ <;> (intros;rename noS _ _ _ _ => h;exact h.elim)
theorem strV_inj {a b : Str} (h : strV a = strV b) : a = b := by
 unfold strV at h;injection h with h
 injection h with h
 exact congrArg Array.toList h
structure Inv (w0 : World) (H0 H : Hp) : Prop where
 up : HUp w0 H0 H
 agr : Agr H0 w0
 lo : H0.lo = w0.heap.size
section
variable {w0 : World} {H0 H H' : Hp} {b o : Nat}
theorem Inv.base (I : Inv w0 H0 H) : w0.heap.size = H.lo := by rw [I.up.up.lo,I.lo]
theorem Inv.tgt (I : Inv w0 H0 H) {cs : List Value} (hb : H.lo ≤ b) (hm : MemAt H b o cs) (hl : 0 < cs.length) : ∃ arr t,H b = some (.cells arr t (0,0)) ∧ w0.heap.size ≤ b ∧ o + cs.length ≤ arr.size := by
 have h1 : w0.heap.size ≤ b := by rw [I.base];exact hb
 obtain ⟨arr,t,m,h2,h3⟩ := id hm;refine ⟨arr,t,I.up.cells (I.agr.lt h1) h2,h1,?_⟩;have := memAt_lt hm h2 (j := cs.length - 1) (by omega);omega
theorem Inv.put (I : Inv w0 H0 H) {arr : Array Value} {t : TypeId} (hb : w0.heap.size ≤ b) : Inv w0 H0 (putH H b (.cells arr t (0,0))) := ⟨I.up.put (I.agr.lt hb) hb,I.agr,I.lo⟩
theorem Inv.grow (I : Inv w0 H0 H) (u : HUp w0 H H') : Inv w0 H0 H' := ⟨I.up.trans u,I.agr,I.lo⟩
def Trf (H H' : Hp) : Prop := ∀ f cs,posF f → Rep H (dFt .i64 f) cs → ∃ g,FB False f g ∧ Rep H' (dFt .i64 g) cs
theorem tr_of {Sp : SpT} (u : ChgS Sp H H') (S : Spc False Sp H H') : Trf H H' := fun f cs hp h => ft_chgS u S hp.2 h
theorem memAt_cell {o1 o2 i j : Nat} {x y : List Value} {u v : Value} (h1 : MemAt H b o1 x) (h2 : MemAt H b o2 y) (e : o1 + i = o2 + j) (e1 : x[i]? = some u) (e2 : y[j]? = some v) : u = v := by
 have k1 := memAt_one h1 e1;have k2 := memAt_one h2 e2;rw [e] at k1;exact (List.cons.inj (memAt_in k1 k2 rfl)).1
theorem old_cell {arr : Array Value} {t : TypeId} {m : Nat × Nat} {x : List Value} {i : Nat} {u v : Value} (hm : MemAt H b o x) (hH : H b = some (.cells arr t m)) (e : x[i]? = some u) (h : arr[o + i]? = some v) : v = u := by
 obtain ⟨arr',t',m',k1,k2⟩ := hm;rw [hH] at k1;cases k1;have := k2 i u e;rw [h] at this;exact Option.some.inj this
theorem tr_str {arr : Array Value} {t : TypeId} {x : List Value} {i : Nat} {s s' : Str} (hm : MemAt H b o x) (e : x[i]? = some (strV s)) (hH : H b = some (.cells arr t (0,0))) (hs : s'.length ≤ 1000000) (hg : gdN s' = true) : Trf H (putH H b (.cells (arr.setIfInBounds (o + i) (strV s')) t (0,0))) :=
 tr_of (chgS_put (Sp := noS) hH fun u hu => by rw [old_cell hm hH e hu];exact .inl (.str _ _ (okS.2 hs) hg)) noS_spc
theorem tr_int {arr : Array Value} {t : TypeId} {x : List Value} {i : Nat} {k : IntKind} {n m : Int} (hm : MemAt H b o x) (e : x[i]? = some (.int k n)) (hH : H b = some (.cells arr t (0,0))) (h0 : 0 ≤ m) (h1 : m ≤ 100) : Trf H (putH H b (.cells (arr.setIfInBounds (o + i) (.int k m)) t (0,0))) :=
 tr_of (chgS_put (Sp := noS) hH fun u hu => by rw [old_cell hm hH e hu];exact .inl (.int _ _ _ h0 h1)) noS_spc
/-! ### The first cells of rows that are not empty -/
theorem fst_at {α : Type} {g : α → D} {z : Nat} {l : List α} {v : Value} (h : Rep H (.seq z (l.map g)) [v]) (hl : 0 < l.length) : ∃ b o c cs,v = .slice (some ⟨b,o,none⟩) l.length c ∧ MemAt H b o cs ∧ Rep H (g l[0]) cs := by
 obtain ⟨p,c,e,_⟩ := h.sl;rw [List.length_map] at e;cases e;obtain ⟨b,o,cs,rfl,r,_,m⟩ := h.elem (map_at hl);rw [Nat.zero_mul,Nat.add_zero] at m;exact ⟨b,o,c,cs,rfl,m,r⟩
theorem len_of {α β : Type} {f : α → D} {g : β → D} {z y : Nat} {l : List α} {m : List β} {v : Value} (h : Rep H (.seq z (l.map f)) [v]) (k : Rep H (.seq y (m.map g)) [v]) : m.length = l.length := by
 obtain ⟨p,c,e,_⟩ := h.sl;obtain ⟨q,d,e',_⟩ := k.sl;rw [List.length_map] at e e';rw [e] at e';simp only [List.cons.injEq,Value.slice.injEq,and_true] at e';exact e'.2.1.symm
theorem str_ne_int {s : Str} {k : IntKind} {n : Int} (h : strV s = .int k n) : False := by unfold strV at h;cases h
theorem str_ne_sl {s : Str} {p : Option Addr} {n c : Nat} (h : strV s = .slice p n c) : False := by unfold strV at h;cases h
theorem int_ne_sl {k : IntKind} {i : Int} {p : Option Addr} {n c : Nat} (h : Value.int k i = .slice p n c) : False := by cases h
theorem two_at {α β : Type} {f : α → D} {g : β → D} {z y : Nat} {l : List α} {m : List β} {v : Value} (h : Rep H (.seq z (l.map f)) [v]) (k : Rep H (.seq y (m.map g)) [v]) (hl : 0 < l.length) : ∃ b o x w,∃ h2 : 0 < m.length,MemAt H b o x ∧ MemAt H b o w ∧ Rep H (f l[0]) x ∧ Rep H (g m[0]) w := by
 have hm : 0 < m.length := by rw [len_of h k];exact hl
 obtain ⟨b,o,c,x,e,m1,r1⟩ := fst_at h hl;obtain ⟨b',o',c',w,e',m2,r2⟩ := fst_at k hm;rw [e] at e';simp only [Value.slice.injEq,Option.some.injEq,Addr.mk.injEq,and_true] at e';obtain ⟨⟨rfl,rfl⟩,-,-⟩ := e';exact ⟨b,o,x,w,hm,m1,m2,r1,r2⟩
theorem ex_cells {e : Ex} {cs : List Value} (h : Rep H (dEx .i64 e) cs) : ∃ (op : UInt8) (nm : Str) (n : Int64) (p : Option Addr) (k c : Nat),cs = [.int .i64 op.toNat,strV nm,.int .i64 n.toInt,.slice p k c] := by
 obtain ⟨op,nm,n,a⟩ := e;obtain ⟨p,c,rfl,_⟩ := ex_open h;exact ⟨_,_,_,_,_,_,rfl⟩
theorem sm_cells {e : Sm} {cs : List Value} (h : Rep H (dSm .i64 e) cs) : ∃ (kd : UInt8) (nm hd : Str) (p : Option Addr) (k c : Nat) (p1 : Option Addr) (k1 c1 : Nat) (p2 : Option Addr) (k2 c2 : Nat),cs = [.int .i64 kd.toNat,strV nm,strV hd,.slice p k c,.slice p1 k1 c1,.slice p2 k2 c2] := by
 obtain ⟨kd,nm,hd,ex,th,el⟩ := e;obtain ⟨p,c,p1,c1,p2,c2,rfl,_⟩ := sm_open h;exact ⟨_,_,_,_,_,_,_,_,_,_,_,_,rfl⟩
theorem ex_sm {l : List Ex} {m : List Sm} {v : Value} (h : Rep H (.seq 4 (l.map (dEx .i64))) [v]) (k : Rep H (.seq 6 (m.map (dSm .i64))) [v]) (hl : 0 < l.length) : False := by
 obtain ⟨b,o,x,w,_,m1,m2,r1,r2⟩ := two_at h k hl;obtain ⟨_,_,_,_,_,_,rfl⟩ := ex_cells r1;obtain ⟨_,_,_,_,_,_,_,_,_,_,_,_,rfl⟩ := sm_cells r2;exact str_ne_int (memAt_cell m2 m1 (i := 2) (j := 2) rfl rfl rfl)
theorem ex_ps {l : List Ex} {m : List Str} {v : Value} (h : Rep H (.seq 4 (l.map (dEx .i64))) [v]) (k : Rep H (dPs .i64 m) [v]) (hl : 0 < l.length) : False := by
 obtain ⟨b,o,x,w,_,m1,m2,r1,r2⟩ := two_at h (dPs_seq k) hl;obtain ⟨_,_,_,_,_,_,rfl⟩ := ex_cells r1;obtain ⟨rfl,_⟩ := str_open r2;exact str_ne_int (memAt_cell m2 m1 (i := 0) (j := 0) rfl rfl rfl)
theorem ex_vr {l : List Ex} {m : List Vr} {v : Value} (h : Rep H (.seq 4 (l.map (dEx .i64))) [v]) (k : Rep H (.seq 3 (m.map (dVr .i64))) [v]) (hl : 0 < l.length) : False := by
 obtain ⟨b,o,x,w,_,m1,m2,r1,r2⟩ := two_at h k hl;obtain ⟨_,_,_,_,_,_,rfl⟩ := ex_cells r1;obtain ⟨rfl,_⟩ := vr_open r2;exact str_ne_int (memAt_cell m2 m1 (i := 0) (j := 0) rfl rfl rfl)
theorem ex_vs {l : List Ex} {m : List (List Hd)} {v : Value} (h : Rep H (.seq 4 (l.map (dEx .i64))) [v]) (k : Rep H (.seq 1 (m.map (dVs .i64))) [v]) (hl : 0 < l.length) : False := by
 obtain ⟨b,o,x,w,_,m1,m2,r1,r2⟩ := two_at h k hl;obtain ⟨_,_,_,_,_,_,rfl⟩ := ex_cells r1;obtain ⟨_,_,rfl,_⟩ := vs_open r2;exact int_ne_sl (memAt_cell m1 m2 (i := 0) (j := 0) rfl rfl rfl)
theorem ex_hd {l : List Ex} {m : List Hd} {v : Value} (h : Rep H (.seq 4 (l.map (dEx .i64))) [v]) (k : Rep H (.seq 3 (m.map (dHd .i64))) [v]) (hl : 0 < l.length) : False := by
 obtain ⟨b,o,x,w,_,m1,m2,r1,r2⟩ := two_at h k hl;obtain ⟨_,_,_,_,_,_,rfl⟩ := ex_cells r1;obtain ⟨_,_,_,_,rfl,_⟩ := hd_open r2;exact str_ne_int (memAt_cell m2 m1 (i := 0) (j := 0) rfl rfl rfl)
theorem sm_vs {l : List Sm} {m : List (List Hd)} {v : Value} (h : Rep H (.seq 6 (l.map (dSm .i64))) [v]) (k : Rep H (.seq 1 (m.map (dVs .i64))) [v]) (hm : 0 < m.length) : False := by
 obtain ⟨b,o,x,w,_,m1,m2,r1,r2⟩ := two_at k h hm;obtain ⟨_,_,rfl,_⟩ := vs_open r1;obtain ⟨_,_,_,_,_,_,_,_,_,_,_,_,rfl⟩ := sm_cells r2;exact int_ne_sl (memAt_cell m2 m1 (i := 0) (j := 0) rfl rfl rfl)
/-! ### A statement's expressions lose the first -/
def oneS (b o : Nat) (v v' : Value) : SpT := fun b' j u u' => b' = b ∧ j = o ∧ u = v ∧ u' = v'
theorem deeps_drop1 (l : List Ex) : Ex.deeps (l.drop 1) ≤ Ex.deeps l := by
 cases l with
 | nil => simp
 | cons x r => simp only [List.drop_one,List.tail_cons,Ex.deeps];omega
theorem alls_drop1 {q : Ex → Bool} {l : List Ex} (h : Ex.alls q l = true) : Ex.alls q (l.drop 1) = true := by
 cases l with
 | nil => exact h
 | cons x r => rw [Ex.alls,Bool.and_eq_true] at h;exact h.2
theorem tr_drop {arr : Array Value} {t : TypeId} {i : Nat} {x : List Value} {ex : List Ex} {v v' : Value} (hm : MemAt H b o x) (e : x[i]? = some v) (hH : H b = some (.cells arr t (0,0))) (hx : Rep H (.seq 4 (ex.map (dEx .i64))) [v]) (hp : 0 < ex.length)
 (hv : ∀ (G : Hp) (l : List Ex),Rep G (.seq 4 (l.map (dEx .i64))) [v] → Rep G (.seq 4 ((l.drop 1).map (dEx .i64))) [v']) : Trf H (putH H b (.cells (arr.setIfInBounds (o + i) v') t (0,0))) := by
 have hvs : ∃ p n c,v = .slice p n c := by obtain ⟨p,c,e,_⟩ := hx.sl;exact ⟨p,_,c,(List.cons.inj e).1⟩
 refine tr_of (chgS_put (Sp := oneS b (o + i) v v') hH fun u hu => by rw [old_cell hm hH e hu];exact .inr ⟨rfl,rfl,rfl,rfl⟩) ?_;refine ⟨fun _ _ _ _ h => .inl (by rw [h.2.2.1];exact hvs),spn_of fun _ _ _ _ h => by rw [h.2.2.1];exact hvs,?_,?_,?_,?_,?_,?_,?_,?_,?_⟩
 ·rintro _ _ _ _ _ _ _ args args2 _ ⟨-,-,rfl,rfl⟩ _ _ a2 r2;obtain ⟨d1,d2,d3,d4⟩ := a2.xb;refine ⟨args2.drop 1,⟨by have := deeps_drop1 args2;omega,fun k1 k2 => ⟨by rw [List.length_drop];omega,alls_drop1 (d3 k2)⟩⟩,fun _ k => alls_drop1 (d4 k),hv _ _ r2⟩
 ·rintro _ _ _ _ _ _ _ _ _ es es2 _ ⟨-,-,rfl,rfl⟩ _ _ a2 r2;obtain ⟨d1,d2,d3,d4⟩ := a2.xb;exact ⟨es2.drop 1,⟨by rw [List.length_drop];omega,by have := deeps_drop1 es2;omega,fun k => alls_drop1 (d3 k),fun k => alls_drop1 (d4 k)⟩,hv _ _ r2⟩
 ·rintro _ _ _ _ _ _ _ _ _ l _ ⟨-,-,rfl,rfl⟩ _ _ hl;exact (ex_sm hx hl hp).elim
 ·rintro _ _ _ _ _ _ _ _ _ l _ ⟨-,-,rfl,rfl⟩ _ _ hl;exact (ex_sm hx hl hp).elim
 ·rintro _ _ _ _ _ _ l _ ⟨-,-,rfl,rfl⟩ _ hl;exact (ex_ps hx hl hp).elim
 ·rintro _ _ _ _ _ _ l _ ⟨-,-,rfl,rfl⟩ _ _ hl;exact (ex_sm hx hl hp).elim
 ·rintro _ _ _ _ _ _ c _ _ ⟨-,-,rfl,rfl⟩ _ hl _;exact (ex_vr hx hl hp).elim
 ·rintro _ _ _ _ _ _ c _ _ ⟨-,-,rfl,rfl⟩ _ _ hl;exact (ex_vs hx hl hp).elim
 ·rintro _ _ _ _ x _ ⟨-,-,rfl,rfl⟩ _ hl;exact (ex_hd hx hl hp).elim
/-! ### An expression is put around another one -/
def patC (ce : List Value) (l : List (Option (UInt8 × Int64))) : List Value := l.flatMap fun
 | none => ce
 | some (k,n) => [.int .i64 k.toNat,strV [],.int .i64 n.toInt,.slice none 0 0]
def patE (e : Ex) (l : List (Option (UInt8 × Int64))) : List Ex := l.map fun
 | none => e
 | some (k,n) => .mk k [] n []
theorem patE_rep {G : Hp} {e : Ex} {ce : List Value} (h : Rep G (dEx .i64 e) ce) (hc : ce.length = 4) : ∀ l,RepZ G 4 ((patE e l).map (dEx .i64)) (patC ce l)
 | [] => RepZ.nil
 | none :: r => by
  show RepZ G 4 (dEx .i64 e :: (patE e r).map (dEx .i64)) (ce ++ patC ce r);unfold RepZ;exact ⟨ce,_,rfl,hc,h,patE_rep h hc r⟩
 | some (k,n) :: r => by
  show RepZ G 4 (dEx .i64 (.mk k [] n []) :: (patE e r).map (dEx .i64)) ([.int .i64 k.toNat,strV [],.int .i64 n.toInt,.slice none 0 0] ++ patC ce r);unfold RepZ;exact ⟨_,_,rfl,rfl,ex_shut (by decide) (.empty (by decide)),patE_rep h hc r⟩
theorem patE_deeps (e : Ex) : ∀ l,Ex.deeps (patE e l) ≤ e.depth
 | [] => by simp [patE,Ex.deeps]
 | none :: r => by
  have := patE_deeps e r;show max (Ex.depth e) (Ex.deeps (patE e r)) ≤ _;omega
 | some (k,n) :: r => by
  have := patE_deeps e r;show max (Ex.depth (.mk k [] n [])) (Ex.deeps (patE e r)) ≤ _;rw [depth_mk];obtain ⟨op,nm,n,a⟩ := e;rw [depth_mk] at this ⊢;simp only [Ex.deeps];omega
theorem patE_narrow {e : Ex} (h : Ex.all narrow e = true) : ∀ l,Ex.alls narrow (patE e l) = true
 | [] => rfl
 | none :: r => by
  show (Ex.all narrow e && Ex.alls narrow (patE e r)) = true;rw [h,patE_narrow h r];rfl
 | some (k,n) :: r => by
  show (Ex.all narrow (.mk k [] n []) && Ex.alls narrow (patE e r)) = true;rw [patE_narrow h r,all_mk];rfl
theorem patE_gd {e : Ex} (h : Ex.all gdE e = true) : ∀ l,Ex.alls gdE (patE e l) = true
 | [] => rfl
 | none :: r => by
  show (Ex.all gdE e && Ex.alls gdE (patE e r)) = true;rw [h,patE_gd h r];rfl
 | some (k,n) :: r => by
  show (Ex.all gdE (.mk k [] n []) && Ex.alls gdE (patE e r)) = true;rw [patE_gd h r,all_mk];rfl
def xprS (b o : Nat) (v v' : Value) : SpT := fun b' j u u' => (b' = b ∧ j = o + 3 ∧ u = v ∧ u' = v') ∨ (b' = b ∧ j = o + 1 ∧ (∃ s : Str,u = strV s) ∧ u' = strV [])
def PatAt (H : Hp) (b : Nat) (v' : Value) (ce : List Value) (l : List (Option (UInt8 × Int64))) : Prop := (v' = .slice none 0 0 ∧ l = []) ∨ ∃ nb,v' = .slice (some ⟨nb,0,none⟩) l.length l.length ∧ nb ≠ b ∧ MemN H nb 0 (patC ce l)
theorem chgS_puts {Sp : SpT} {arr : Array Value} {t : TypeId} {m : Nat × Nat} {vs : List Value} (hH : H b = some (.cells arr t m)) (h : ∀ j u v,arr[o + j]? = some u → vs[j]? = some v → Kin u v ∨ Sp b (o + j) u v) : ChgS Sp H (putH H b (.cells (setsA arr o vs) t (0,0))) := by
 refine ⟨fun c a t' k e => ?_,rfl⟩
 by_cases hc : c = b
 ·subst hc;rw [hH] at e;cases e;refine ⟨setsA arr o vs,_,putH_at,setsA_size,fun _ => rfl,fun j u hu => ?_⟩;have hj : j < arr.size := (Array.getElem?_eq_some_iff.1 hu).1;rw [setsA_at hj]
  by_cases h1 : o ≤ j ∧ j < o + vs.length
  ·rw [if_pos h1];have h2 : vs[j - o]? = some vs[j - o] := List.getElem?_eq_getElem (by omega);refine ⟨_,h2,?_⟩;have := h (j - o) u _ (by rw [show o + (j - o) = j by omega];exact hu) h2
   rwa [show o + (j - o) = j by omega] at this
  ·rw [if_neg h1];exact ⟨u,hu,.inl (.same u)⟩
 ·exact ⟨a,k,by rw [putH_ne hc];exact e,rfl,fun h => h,fun j u hu => ⟨u,hu,.inl (.same u)⟩⟩
theorem tr_expr {arr : Array Value} {t : TypeId} {op op' : UInt8} {nm nm' : Str} {n n' : Int64} {v v' : Value} {args : List Ex} {l : List (Option (UInt8 × Int64))} (hm : MemAt H b o [.int .i64 op.toNat,strV nm,.int .i64 n.toInt,v]) (hn : nm.length ≤ 1000000) (hH : H b = some (.cells arr t (0,0)))
 (ha : Rep H (.seq 4 (args.map (dEx .i64))) [v]) (hn' : nm'.length ≤ 1000000) (hg' : nm' = [] ∨ gdN nm' = true) (ho' : op' ≤ 100) (hi' : 0 ≤ n'.toInt ∧ n'.toInt ≤ 100) (hp : PatAt H b v' [.int .i64 op.toNat,strV nm,.int .i64 n.toInt,v] l) (hl : l.length ≤ 2) :
 Trf H (putH H b (.cells (setsA arr o [.int .i64 op'.toNat,strV nm',.int .i64 n'.toInt,v']) t (0,0))) := by
 have hvs : ∃ p n c,v = .slice p n c := by obtain ⟨p,c,e,_⟩ := ha.sl;exact ⟨p,_,c,(List.cons.inj e).1⟩
 refine tr_of (chgS_puts (Sp := xprS b o v v') hH fun j u w hu hw => ?_) ?_
 ·match j,hw with
  | 0,hw => simp at hw;subst hw;rw [old_cell hm hH (i := 0) rfl hu];exact .inl (.int _ _ _ (by omega) (by have : op'.toNat ≤ 100 := ho';omega))
  | 1,hw => simp at hw;subst hw;rw [old_cell hm hH (i := 1) rfl hu];exact hg'.elim (fun e => .inr (.inr ⟨rfl,rfl,⟨_,rfl⟩,by rw [e]⟩)) (fun hg => .inl (.str _ _ (okS.2 hn') hg))
  | 2,hw => simp at hw;subst hw;rw [old_cell hm hH (i := 2) rfl hu];exact .inl (.int _ _ _ hi'.1 hi'.2)
  | 3,hw => simp at hw;subst hw;rw [old_cell hm hH (i := 3) rfl hu];exact .inr (.inl ⟨rfl,rfl,rfl,rfl⟩)
  | j + 4,hw => simp at hw
 generalize hH' : putH H b (.cells (setsA arr o [.int .i64 op'.toNat,strV nm',.int .i64 n'.toInt,v']) t (0,0)) = H';obtain ⟨pv,nv,cv,evs⟩ := id hvs;have nosl : ∀ s : Str,strV s = v → False := fun s e => str_ne_sl (e.trans evs);have slst : ∀ {p n c} {s : Str},Value.slice p n c = strV s → False := fun e => str_ne_sl e.symm
 have mid : ∀ {b' o' : Nat} {x : List Value} {i j : Nat} {u w : Value},b' = b → MemAt H b' o' x → o' + i = o + j → x[i]? = some u → [.int .i64 op.toNat,strV nm,.int .i64 n.toInt,v][j]? = some w → u = w := by
  rintro _ _ _ _ _ _ _ rfl h1 h2 h3 h4;exact memAt_cell h1 hm h2 h3 h4
 have hno : SpN (xprS b o v v') H := by
  refine ⟨fun b' o' s u' q h hm1 => ?_,fun b' o' s s2 w u' h hm1 => ?_,fun b' o' s s2 w u' h hm1 => ?_,fun b' o' s k1 k2 i j u' h hm1 => ?_,fun b' o' s p n c w u' h hm1 => ?_,fun b' j s u' arr' t' m' h h1 h2 => ?_⟩
  ·rcases h with ⟨_,_,e,_⟩ | ⟨hb,e,_,_⟩
   ·exact nosl _ e
   ·have := mid hb hm1 (i := 1) (j := 2) (by omega) rfl rfl;cases this
  ·rcases h with ⟨_,_,e,_⟩ | ⟨hb,e,_,_⟩
   ·exact nosl _ e
   ·exact str_ne_int (mid hb hm1 (i := 1) (j := 2) (by omega) rfl rfl)
  ·rcases h with ⟨_,_,e,_⟩ | ⟨hb,e,_,_⟩
   ·exact nosl _ e
   ·exact str_ne_int (mid hb hm1 (i := 0) (j := 0) (by omega) rfl rfl)
  ·rcases h with ⟨_,_,e,_⟩ | ⟨hb,e,_,_⟩
   ·exact nosl _ e
   ·exact int_ne_sl ((mid hb hm1 (i := 2) (j := 3) (by omega) rfl rfl).trans evs)
  ·rcases h with ⟨_,_,e,_⟩ | ⟨hb,e,_,_⟩
   ·exact nosl _ e
   ·exact int_ne_sl (mid hb hm1 (i := 1) (j := 2) (by omega) rfl rfl).symm
  ·rcases h with ⟨_,_,e,_⟩ | ⟨hb,e,_,_⟩
   ·exact nosl _ e
   ·subst hb;obtain ⟨a2,t2,m2,q1,q2⟩ := hm;rw [h1] at q1;cases q1;obtain ⟨s,e,_⟩ := h2 _ (by rw [Array.mem_toList_iff];exact Array.mem_of_getElem? (q2 0 _ rfl));cases e
 have sl : ∀ {b' j : Nat} {u u' : Value},xprS b o v v' b' j u u' → (∃ p n c,u = .slice p n c) → b' = b ∧ j = o + 3 ∧ u = v ∧ u' = v' := by
  rintro b' j u u' (h | ⟨_,_,⟨s,e⟩,_⟩) ⟨p,n,c,e2⟩
  ·exact h
  ·exact (str_ne_sl (e.symm.trans e2)).elim
 have sq : ∀ {z : Nat} {ds : List D} {u : Value},Rep H (.seq z ds) [u] → ∃ p n c,u = .slice p n c := fun h => by
  obtain ⟨p,c,e,_⟩ := h.sl;exact ⟨p,_,c,(List.cons.inj e).1⟩
 refine ⟨fun _ _ _ _ h => h.elim (fun h => .inl (by rw [h.2.2.1];exact hvs)) (fun h => .inr h.2.2),hno,?_,?_,?_,?_,?_,?_,?_,?_,?_⟩
 ·intro b' o' op1 nm1 n1 u1 u2 args1 args2 _ hsp hm1 ha1 a2 r2;obtain ⟨hb1,e,hu1,hu2⟩ := sl hsp (sq ha1);obtain rfl := hb1.symm;obtain rfl := hu1.symm;obtain rfl := hu2.symm;obtain rfl : o' = o := by omega
  obtain ⟨d1,d2,d3,d4⟩ := a2.xb;have re : Rep H' (dEx .i64 (.mk op nm n args2)) [.int .i64 op.toNat,strV nm,.int .i64 n.toInt,v] := ex_shut hn r2;refine ⟨patE (.mk op nm n args2) l,⟨?_,fun k1 k2 => ⟨by simp only [patE,List.length_map];omega,patE_narrow ?_ l⟩⟩,fun kn k => patE_gd ?_ l,?_⟩
  ·have := patE_deeps (.mk op nm n args2) l;rw [depth_mk] at this;omega
  ·rw [all_mk,narrow_mk,Bool.and_eq_true,decide_eq_true_eq];exact ⟨by omega,d3 k2⟩
  ·have e2 : nm1 = nm := strV_inj (memAt_cell hm1 hm (i := 1) (j := 1) rfl rfl rfl);rw [all_mk,Bool.and_eq_true];exact ⟨by rw [← e2];exact kn,d4 k⟩
  ·rcases hp with ⟨rfl,rfl⟩ | ⟨nb,rfl,hne,hmn⟩
   ·exact .empty (by decide)
   ·have hm' : MemN H' nb 0 (patC [.int .i64 op.toNat,strV nm,.int .i64 n.toInt,v] l) := by
     subst hH';obtain ⟨⟨arr2,t2,m2,q1,q2⟩,q3⟩ := hmn;exact ⟨⟨arr2,t2,m2,by rw [putH_ne hne];exact q1,q2⟩,q3⟩
    exact Rep.mk hm' (patE_rep re rfl l) (by simp [patE]) (Nat.le_refl _) (by simp only [maxLen];omega)
 ·intro b' o' kd1 nm1 hd1 _ _ _ _ _ _ _ hsp hm1 hx _ _;obtain ⟨rfl,e,rfl,rfl⟩ := sl hsp (sq hx);exact (str_ne_int (memAt_cell hm1 hm (i := 2) (j := 2) (by omega) rfl rfl)).elim
 ·rintro b' o' kd1 nm1 hd1 w1 _ w2 _ _ _ hsp hm1 ⟨_,_,_,rfl⟩ hx;obtain ⟨rfl,e,rfl,rfl⟩ := sl hsp (sq hx);exact (int_ne_sl (memAt_cell hm hm1 (i := 2) (j := 3) (by omega) rfl rfl)).elim
 ·rintro b' o' kd1 nm1 hd1 w1 w2 _ _ _ _ hsp hm1 ⟨_,_,_,rfl⟩ hx;obtain ⟨rfl,e,rfl,rfl⟩ := sl hsp (sq hx);exact (int_ne_sl (memAt_cell hm hm1 (i := 2) (j := 4) (by omega) rfl rfl)).elim
 ·intro b' o' nm1 _ w _ _ _ hsp hm1 hx;obtain ⟨rfl,e,rfl,rfl⟩ := sl hsp (sq (dPs_seq hx));exact (str_ne_int (memAt_cell hm1 hm (i := 0) (j := 2) (by omega) rfl rfl)).elim
 ·rintro b' o' nm1 w _ _ _ _ hsp hm1 ⟨_,_,_,rfl⟩ hx;obtain ⟨rfl,e,rfl,rfl⟩ := sl hsp (sq hx);exact (int_ne_sl (memAt_cell hm hm1 (i := 2) (j := 1) (by omega) rfl rfl)).elim
 ·intro b' o' nm1 _ w _ c _ _ hsp hm1 hx _;obtain ⟨rfl,e,rfl,rfl⟩ := sl hsp (sq hx);exact (str_ne_int (memAt_cell hm1 hm (i := 0) (j := 2) (by omega) rfl rfl)).elim
 ·intro b' o' nm1 w _ _ c _ _ hsp hm1 hw hx;obtain ⟨rfl,e,rfl,rfl⟩ := sl hsp (sq hx);obtain ⟨p,c',e2,_⟩ := hw.sl;cases e2;exact (int_ne_sl (memAt_cell hm hm1 (i := 2) (j := 1) (by omega) rfl rfl)).elim
 ·intro b' o' _ _ x hx hsp hm1 hl;obtain ⟨rfl,e,rfl,rfl⟩ := sl hsp (sq hl)
  have : 0 < args.length := by
   rw [len_of hl ha];exact List.length_pos_iff.2 hx
  exact (ex_hd ha hl this).elim
/-! ### Parameters -/
theorem ps_put {arr : Array Value} {t : TypeId} {ps : List Str} {v u : Value} {i : Nat} (h : Rep H (dPs .i64 ps) [v]) (hm : MemAt H b i [u]) (hu : ∃ p n c,u = .slice p n c) : Rep (putH H b (.cells arr t (0,0))) (dPs .i64 ps) [v] := by
 have e : dPs .i64 ps = .ps (ps.map strV) := rfl;rw [e] at h ⊢;unfold Rep at h ⊢;obtain ⟨p,c,h1,h2,h3,h4⟩ := h;refine ⟨p,c,h1,h2,h3,h4.imp id ?_⟩;rintro ⟨b',arr',t',rfl,k1,k2,k3,k4,k5⟩
 have hne : b' ≠ b := by
  intro e;subst e;obtain ⟨a2,t2,m2,j1,j2⟩ := hm;rw [k1] at j1;cases j1;have j3 := j2 0 u rfl;obtain ⟨_,_,_,rfl⟩ := hu;obtain ⟨s,e,_⟩ := k4 _ (by rw [Array.mem_toList_iff];exact Array.mem_of_getElem? j3);cases e
 exact ⟨b',arr',t',rfl,by rw [putH_ne hne];exact k1,k2,k3,k4,k5⟩
theorem step_chg {s0 : ByteArray} (hg : gdN s0.data.toList = true) (h : PsS w0 s0 H H') : ChgS noS H H' := by
 obtain ⟨b,arr',t,hb,rfl,h⟩ := h;refine ⟨fun c a t' k e => ?_,rfl⟩
 by_cases hc : c = b
 ·subst hc;rcases h with h | ⟨arr,h1,h2,h3,hs,h4⟩
  ·rw [h] at e;cases e
  ·rw [h1] at e;cases e;refine ⟨arr',_,putH_at,h2,fun _ => rfl,fun j u hu => ?_⟩;have hj := (Array.getElem?_eq_some_iff.1 hu).1;obtain ⟨s,rfl,_⟩ := h3 u (by rw [Array.mem_toList_iff];exact Array.mem_of_getElem? hu);have h5 : arr'[j]? = some arr'[j] := Array.getElem?_eq_getElem (by omega);refine ⟨_,h5,.inl ?_⟩;rcases h4 j _ h5 with e2 | e2
   ·rw [hu] at e2;rw [← Option.some.inj e2];exact .same _
   ·rw [e2];exact .str _ _ hs hg
 ·exact ⟨a,k,by rw [putH_ne hc];exact e,rfl,fun h => h,fun j u hu => ⟨u,hu,.inl (.same u)⟩⟩
theorem tr_step {s0 : ByteArray} (hg : gdN s0.data.toList = true) (h : PsS w0 s0 H H') : Trf H H' := tr_of (step_chg hg h) noS_spc
theorem step_keep {u : Value} {s0 : ByteArray} {m : Nat × Nat} {arr : Array Value} {t : TypeId} (h : PsS w0 s0 H H') (hH : H b = some (.cells arr t m)) (hm : MemAt H b o [u]) (hu : ∃ p n c,u = .slice p n c) : H' b = H b := by
 obtain ⟨b',arr',t',hb,rfl,h⟩ := h;refine putH_ne fun e => ?_;subst e;rcases h with h | ⟨a2,h1,h2,h3,_,h4⟩
 ·rw [h] at hH;cases hH
 ·obtain ⟨a3,t3,m3,j1,j2⟩ := hm;rw [h1] at j1;cases j1;have j3 := j2 0 u rfl;obtain ⟨_,_,_,rfl⟩ := hu;obtain ⟨s,e,_⟩ := h3 _ (by rw [Array.mem_toList_iff];exact Array.mem_of_getElem? j3);cases e
theorem memAt_keep {cs : List Value} (h : H' b = H b) (hm : MemAt H b o cs) : MemAt H' b o cs := by
 obtain ⟨arr,t,m,h1,h2⟩ := hm;exact ⟨arr,t,m,by rw [h];exact h1,h2⟩
theorem Inv.step {s0 : ByteArray} (I : Inv w0 H0 H) (h : PsS w0 s0 H H') : Inv w0 H0 H' := by
 obtain ⟨b,arr',t,hb,rfl,_⟩ := h;exact I.put hb
theorem memAt_put_ne {arr : Array Value} {t : TypeId} {m : Nat × Nat} {x : List Value} {i j : Nat} {u v : Value} (hm : MemAt H b o x) (hH : H b = some (.cells arr t m)) (e : x[j]? = some u) (hij : i ≠ j) : MemAt (putH H b (.cells (arr.setIfInBounds (o + i) v) t (0,0))) b (o + j) [u] := by
 obtain ⟨a2,t2,m2,k1,k2⟩ := hm;rw [hH] at k1;cases k1;refine ⟨_,t,_,putH_at,fun q w k => ?_⟩;cases q with
 | zero => simp at k;subst k;rw [Nat.add_zero,Array.getElem?_setIfInBounds_ne (by omega)];exact k2 j u e
 | succ q => simp at k
theorem tr_ps {arr : Array Value} {t : TypeId} {nm : Str} {v v' w : Value} {ps ps' : List Str} {body : List Sm} (hm : MemAt H b o [strV nm,v,w]) (ho : o % 3 = 0) (hH : H b = some (.cells arr t (0,0))) (hps : Rep H (dPs .i64 ps) [v]) (hbd : Rep H (.seq 6 (body.map (dSm .i64))) [w])
 (hps' : Rep H (dPs .i64 ps') [v']) (hl : ps'.length ≤ ps.length + 1) (hpg : ps'.all gdN = true) : Trf H (putH H b (.cells (arr.setIfInBounds (o + 1) v') t (0,0))) := by
 have hvs : ∃ p n c,v = .slice p n c := by obtain ⟨p,c,e,_⟩ := (dPs_seq hps).sl;exact ⟨p,_,c,(List.cons.inj e).1⟩
 refine tr_of (chgS_put (Sp := oneS b (o + 1) v v') hH fun u hu => by rw [old_cell hm hH (i := 1) rfl hu];exact .inr ⟨rfl,rfl,rfl,rfl⟩) ?_;generalize hH' : putH H b (.cells (arr.setIfInBounds (o + 1) v') t (0,0)) = H';have hr' : Rep H' (dPs .i64 ps') [v'] := by subst hH';exact ps_put hps' (memAt_one hm (j := 1) rfl) hvs
 refine ⟨fun _ _ _ _ h => .inl (by rw [h.2.2.1];exact hvs),spn_of fun _ _ _ _ h => by rw [h.2.2.1];exact hvs,?_,?_,?_,?_,?_,?_,?_,?_,?_⟩
 ·rintro b' o' op1 nm1 n1 _ _ args1 args2 _ ⟨rfl,e,rfl,rfl⟩ hm1 _ _ _;exact (str_ne_int (memAt_cell hm hm1 (i := 0) (j := 2) (by omega) rfl rfl)).elim
 ·rintro b' o' kd1 nm1 hd1 _ _ _ _ _ _ h6 ⟨rfl,e,rfl,rfl⟩ _ _ _ _;omega
 ·rintro b' o' kd1 nm1 hd1 w1 _ w2 _ _ _ ⟨rfl,e,rfl,rfl⟩ hm1 ⟨_,_,_,rfl⟩ _;exact (str_ne_sl (memAt_cell hm hm1 (i := 0) (j := 3) (by omega) rfl rfl)).elim
 ·rintro b' o' kd1 nm1 hd1 w1 w2 _ _ _ _ ⟨rfl,e,rfl,rfl⟩ hm1 ⟨_,_,_,rfl⟩ _;exact (str_ne_sl (memAt_cell hm hm1 (i := 0) (j := 4) (by omega) rfl rfl)).elim
 ·rintro b' o' nm1 _ w1 _ qs _ ⟨rfl,e,rfl,rfl⟩ hm1 hq;have hlq := len_of (dPs_seq hps) (dPs_seq hq);refine ⟨ps',?_,fun _ => hpg,hr'⟩;rw [hlq];exact hl
 ·rintro b' o' nm1 w1 _ _ _ _ ⟨rfl,e,rfl,rfl⟩ hm1 ⟨_,_,_,rfl⟩ _;exact (str_ne_sl (memAt_cell hm hm1 (i := 0) (j := 1) (by omega) rfl rfl)).elim
 ·rintro b' o' nm1 _ w1 _ c hc _ ⟨rfl,e,rfl,rfl⟩ hm1 _ hvers;obtain rfl : o' = o := by omega
  have e2 := memAt_cell hm1 hm (i := 2) (j := 2) rfl rfl rfl;subst e2;exact (sm_vs hbd hvers hc.2.1).elim
 ·rintro b' o' nm1 w1 _ _ c _ _ ⟨rfl,e,rfl,rfl⟩ hm1 hw _;obtain ⟨p,c',e2,_⟩ := hw.sl;cases e2;exact (str_ne_sl (memAt_cell hm hm1 (i := 0) (j := 1) (by omega) rfl rfl)).elim
 ·rintro b' o' _ _ x hx ⟨rfl,e,rfl,rfl⟩ hm1 hhd
  exfalso
  have hxl : 0 < x.length := List.length_pos_iff.2 hx;obtain ⟨b2,o2,c2,cs,e1,m1,r1⟩ := fst_at hhd hxl;obtain ⟨_,_,_,_,rfl,_⟩ := hd_open r1;have e : dPs .i64 ps = .ps (ps.map strV) := rfl;rw [e] at hps;unfold Rep at hps;obtain ⟨p,c,h1,h2,h3,h4⟩ := hps;rw [e1] at h1;simp only [List.cons.injEq,Value.slice.injEq,and_true] at h1;obtain ⟨rfl,h5,rfl⟩ := h1;rcases h4 with ⟨h4,_⟩ | ⟨b3,arr3,t3,h6,k1,k2,k3,k4,k5⟩
  ·cases h4
  ·simp only [Option.some.injEq,Addr.mk.injEq,and_true] at h6;obtain ⟨rfl,rfl⟩ := h6;obtain ⟨a2,t2,m2,j1,j2⟩ := m1;rw [k1] at j1;cases j1;have j3 := j2 1 _ rfl;obtain ⟨s,e5,_⟩ := k4 _ (by rw [Array.mem_toList_iff];exact Array.mem_of_getElem? j3);cases e5
def Tr2 (H H' : Hp) : Prop := ∃ H1,Trf H H1 ∧ Trf H1 H'
theorem tr_ps2 {arr : Array Value} {t : TypeId} {nm : Str} {p1 p2 : Option Addr} {n1 c1 n2 c2 : Nat} {v' : Value} {ps ps' : List Str} {body : List Sm} {s0 : ByteArray} (hsg : gdN s0.data.toList = true) (hs : PsS w0 s0 H H') (hm : MemAt H b o [strV nm,.slice p1 n1 c1,.slice p2 n2 c2]) (ho : o % 3 = 0) (hH : H b = some (.cells arr t (0,0))) (hps : Rep H (dPs .i64 ps) [.slice p1 n1 c1]) (hbd : Rep H (.seq 6 (body.map (dSm .i64))) [.slice p2 n2 c2])
 (hps' : Rep H' (dPs .i64 ps') [v']) (hl : ps' = ps ++ [s0.data.toList]) (hpg : ps.all gdN = true) : Tr2 H (putH H' b (.cells (arr.setIfInBounds (o + 1) v') t (0,0))) := by
 have hk := step_keep hs hH (memAt_one hm (j := 1) rfl) ⟨_,_,_,rfl⟩;obtain ⟨q,q1,q3,q2⟩ := ps_chgS (step_chg hsg hs) noS_spc hps;obtain ⟨l,_,l2⟩ := sms_chgS (step_chg hsg hs) noS_spc hbd;refine ⟨H',tr_step hsg hs,tr_ps (memAt_keep hk hm) ho (hk.trans hH) q2 l2 hps' (by rw [hl,List.length_append,q1];simp) (by rw [hl,List.all_append,hpg];simp [hsg])⟩
end
theorem nmAt_gd (n : Nat) : gdN (nmAt n) = true := by
 have key : ∀ i ∈ List.range 15,gdN (nmsL.getD i []) = true := by decide +kernel
 exact key _ (List.mem_range.2 (Nat.mod_lt _ (by omega)))
structure Xp where
 op : UInt8
 nm : Str
 n : Int64
 l : List (Option (UInt8 × Int64))
 v : Value
def Xp.c (x : Xp) : List Value := [.int .i64 x.op.toNat,strV x.nm,.int .i64 x.n.toInt,x.v]
structure XpOk (H : Hp) (ces : List Value) (x : Xp) (H' : Hp) : Prop where
 nm : x.nm.length ≤ 1000000
 gd : x.nm = [] ∨ gdN x.nm = true
 op : x.op ≤ 100
 n : 0 ≤ x.n.toInt ∧ x.n.toInt ≤ 100
 len : x.l.length ≤ 2
 at_ : (x.v = .slice none 0 0 ∧ x.l = []) ∨ ∃ nb,x.v = .slice (some ⟨nb,0,none⟩) x.l.length x.l.length ∧ H nb = none ∧ MemN H' nb 0 (patC ces x.l)
set_option maxRecDepth 100000 in
theorem xpr_raw (H : Hp) (n : UInt8) (e : Ex) (ces : List Value) (he : Rep H (dEx .i64 e) ces) (w : World) (hA : Agr H w) :
 Calls Tryz.prog 17 #[.int .u8 n.toNat,.agg ces.toArray] w fun r w' => ∃ (x : Xp) (H' : Hp),XpOk H ces x H' ∧ r = .returned (.agg x.c.toArray) ∧ Grow H w H' w' := by
 obtain ⟨op,nm,nn,args⟩ := e;obtain ⟨pe,ce,rfl,_,_⟩ := ex_open he;refine Sx.enter (H := H) Tryz.func17 rfl Tryz.ntmps17 rfl hA ?_;refine .sr<|.bx Z Z Z fun b3 => .al Fx.zero58 Z fun b4 => .nt<|.sq<|.sr<|.m Z Z<|.yv (.rem Z Z (by decide) (c := ((n.toNat % 9 : Nat) : Int)) (tm2 _ 9)) Z<|.nt<|.bk<|.sr<|.yv (.eql Z Z) Z<|.a Z Z<|.nt<|.cd Z (fun h7 => ?_) (fun h7 => ?_)
 ·have q0 : n.toNat % 9 = 0 := by have := of_decide_eq_true h7;omega
  refine .sr<|.yv (.loadW Z Fx.agg58 (.tail _<|.head _) Z) Z<|.bl Z (Fx.bsl56_1 _ _ _ _) Z fun b10 => .yv (.build Z (Fx.bld58_0_3 _ _ _ _)) Z<|.sW (.tail<|.head) Z Z Fx.size58 (by simp [Value.oneCell',strV]) Z<|.nt<|.rt<|.bR<|.tR<|?_
  refine At.pm [0,1,2] [_,_,_] rfl rfl ?_;refine Sx.freezeBoxM fun H1 u1 m1 hn1 => ?_;refine Sx.ret1 (.inl rfl) rfl (.cell rfl Fx.agg58 (.head _) rfl) fun W s => ⟨⟨10,[],0,[none],_⟩,H1,⟨(show ([] : Str).length ≤ 1000000 by decide),(.inl rfl),(show (10 : UInt8) ≤ 100 by decide),(show 0 ≤ (0 : Int64).toInt ∧ (0 : Int64).toInt ≤ 100 by decide),by simp,.inr ⟨_,rfl,hn1,m1⟩⟩,rfl,u1.grow s⟩
 have q0 : ¬ n.toNat % 9 = 0 := by have := of_decide_eq_false h7;omega
 refine .sr<|.yv (.eql Z Z) Z<|.a Z Z<|.nt<|.cd Z (fun h12 => ?_) (fun h12 => ?_)
 ·have q1 : n.toNat % 9 = 1 := by have := of_decide_eq_true h12;omega
  refine .sr<|.yv (.loadW Z Fx.agg58 (.tail _<|.head _) Z) Z<|.bl Z (Fx.bsl56_1 _ _ _ _) Z fun b15 => .yv (.build Z (Fx.bld58_0_3 _ _ _ _)) Z<|.sW (.tail<|.head) Z Z Fx.size58 (by simp [Value.oneCell',strV]) Z<|.nt<|.rt<|.bR<|.tR<|?_
  refine At.pm [0,1,2] [_,_,_] rfl rfl ?_;refine Sx.freezeBoxM fun H1 u1 m1 hn1 => ?_;refine Sx.ret1 (.inl rfl) rfl (.cell rfl Fx.agg58 (.head _) rfl) fun W s => ⟨⟨9,[],0,[none],_⟩,H1,⟨(show ([] : Str).length ≤ 1000000 by decide),(.inl rfl),(show (9 : UInt8) ≤ 100 by decide),(show 0 ≤ (0 : Int64).toInt ∧ (0 : Int64).toInt ≤ 100 by decide),by simp,.inr ⟨_,rfl,hn1,m1⟩⟩,rfl,u1.grow s⟩
 have q1 : ¬ n.toNat % 9 = 1 := by have := of_decide_eq_false h12;omega
 refine .sr<|.yv (.eql Z Z) Z<|.a Z Z<|.nt<|.cd Z (fun h17 => ?_) (fun h17 => ?_)
 ·have q2 : n.toNat % 9 = 2 := by have := of_decide_eq_true h17;omega
  refine .sr<|.yv (.loadW Z Fx.agg58 (.tail _<|.head _) Z) Z<|.yv (.build Z (Fx.bld58_0 _)) Z<|.bl Z (Fx.bsl56_2 _ _ _ _ _ _ _ _) Z fun b21 => .yv (.build Z (Fx.bld58_0_3 _ _ _ _)) Z<|.sW (.tail<|.head) Z Z Fx.size58 (by simp [Value.oneCell',strV]) Z<|.nt<|.rt<|.bR<|.tR<|?_
  refine At.pm [0,1,2] [_,_,_] rfl rfl ?_;refine Sx.freezeBoxM fun H1 u1 m1 hn1 => ?_;refine Sx.ret1 (.inl rfl) rfl (.cell rfl Fx.agg58 (.head _) rfl) fun W s => ⟨⟨16,[],0,[none,some (2,0)],_⟩,H1,⟨(show ([] : Str).length ≤ 1000000 by decide),(.inl rfl),(show (16 : UInt8) ≤ 100 by decide),(show 0 ≤ (0 : Int64).toInt ∧ (0 : Int64).toInt ≤ 100 by decide),by simp,.inr ⟨_,rfl,hn1,m1⟩⟩,rfl,u1.grow s⟩
 have q2 : ¬ n.toNat % 9 = 2 := by have := of_decide_eq_false h17;omega
 refine .sr<|.yv (.eql Z Z) Z<|.a Z Z<|.nt<|.cd Z (fun h23 => ?_) (fun h23 => ?_)
 ·have q3 : n.toNat % 9 = 3 := by have := of_decide_eq_true h23;omega
  refine .sr<|.yv (.build Z (Fx.bld58_0_2 _ _)) Z<|.yv (.loadW Z Fx.agg58 (.tail _<|.head _) Z) Z<|.bl Z (Fx.bsl56_2 _ _ _ _ _ _ _ _) Z fun b27 => .yv (.build Z (Fx.bld58_0_3 _ _ _ _)) Z<|.sW (.tail<|.head) Z Z Fx.size58 (by simp [Value.oneCell',strV]) Z<|.nt<|.rt<|.bR<|.tR<|?_
  refine At.pm [0,1,2] [_,_,_] rfl rfl ?_;refine Sx.freezeBoxM fun H1 u1 m1 hn1 => ?_;refine Sx.ret1 (.inl rfl) rfl (.cell rfl Fx.agg58 (.head _) rfl) fun W s => ⟨⟨17,[],0,[some (1,1),none],_⟩,H1,⟨(show ([] : Str).length ≤ 1000000 by decide),(.inl rfl),(show (17 : UInt8) ≤ 100 by decide),(show 0 ≤ (0 : Int64).toInt ∧ (0 : Int64).toInt ≤ 100 by decide),by simp,.inr ⟨_,rfl,hn1,m1⟩⟩,rfl,u1.grow s⟩
 have q3 : ¬ n.toNat % 9 = 3 := by have := of_decide_eq_false h23;omega
 refine .sr<|.yv (.eql Z Z) Z<|.a Z Z<|.nt<|.cd Z (fun h29 => ?_) (fun h29 => ?_)
 ·have q4 : n.toNat % 9 = 4 := by have := of_decide_eq_true h29;omega
  refine .sr<|.yv (.loadW Z Fx.agg58 (.tail _<|.head _) Z) Z<|.yv (.loadW Z Fx.agg58 (.tail _<|.head _) Z) Z<|.bl Z (Fx.bsl56_2 _ _ _ _ _ _ _ _) Z fun b33 => .yv (.build Z (Fx.bld58_0_3 _ _ _ _)) Z<|.sW (.tail<|.head) Z Z Fx.size58 (by simp [Value.oneCell',strV]) Z<|.nt<|.rt<|.bR<|.tR<|?_
  refine At.pm [0,1,2] [_,_,_] rfl rfl ?_;refine Sx.freezeBoxM fun H1 u1 m1 hn1 => ?_;refine Sx.ret1 (.inl rfl) rfl (.cell rfl Fx.agg58 (.head _) rfl) fun W s => ⟨⟨22,[],0,[none,none],_⟩,H1,⟨(show ([] : Str).length ≤ 1000000 by decide),(.inl rfl),(show (22 : UInt8) ≤ 100 by decide),(show 0 ≤ (0 : Int64).toInt ∧ (0 : Int64).toInt ≤ 100 by decide),by simp,.inr ⟨_,rfl,hn1,m1⟩⟩,rfl,u1.grow s⟩
 have q4 : ¬ n.toNat % 9 = 4 := by have := of_decide_eq_false h29;omega
 refine .sr<|.yv (.eql Z Z) Z<|.a Z Z<|.nt<|.cd Z (fun h35 => ?_) (fun h35 => ?_)
 ·have q5 : n.toNat % 9 = 5 := by have := of_decide_eq_true h35;omega
  refine .sr<|.yv (.loadW Z Fx.agg58 (.tail _<|.head _) Z) Z<|.yv (.build Z (Fx.bld58_0 _)) Z<|.bl Z (Fx.bsl56_2 _ _ _ _ _ _ _ _) Z fun b39 => .yv (.build Z (Fx.bld58_0_3 _ _ _ _)) Z<|.sW (.tail<|.head) Z Z Fx.size58 (by simp [Value.oneCell',strV]) Z<|.nt<|.rt<|.bR<|.tR<|?_
  refine At.pm [0,1,2] [_,_,_] rfl rfl ?_;refine Sx.freezeBoxM fun H1 u1 m1 hn1 => ?_;refine Sx.ret1 (.inl rfl) rfl (.cell rfl Fx.agg58 (.head _) rfl) fun W s => ⟨⟨14,[],0,[none,some (4,0)],_⟩,H1,⟨(show ([] : Str).length ≤ 1000000 by decide),(.inl rfl),(show (14 : UInt8) ≤ 100 by decide),(show 0 ≤ (0 : Int64).toInt ∧ (0 : Int64).toInt ≤ 100 by decide),by simp,.inr ⟨_,rfl,hn1,m1⟩⟩,rfl,u1.grow s⟩
 have q5 : ¬ n.toNat % 9 = 5 := by have := of_decide_eq_false h35;omega
 refine .sr<|.yv (.eql Z Z) Z<|.a Z Z<|.nt<|.cd Z (fun h41 => ?_) (fun h41 => ?_)
 ·have q6 : n.toNat % 9 = 6 := by have := of_decide_eq_true h41;omega
  refine .sq<|.fl (trip := [(_,_,_),(_,_,_),(_,_,_),(_,_,_),(_,_,_),(_,_,_)]) 6 [(0,0),(1,0),(2,0),(3,0),(4,1),(5,0)] (by kernel_rfl) (by kernel_rfl) Z<|.m Z Z<|.yv (.quo Z Z (by decide) (c := ((n.toNat / 9 : Nat) : Int)) (qu8 _ n.toNat_lt (by decide))) Z<|.yv (.cast (v' := strV (nmAt (n.toNat / 9))) (.call Fx.call43 Z (fun W s => by have := name8_any H (UInt8.ofNat (n.toNat / 9)) W s.agr;rw [u8q9] at this;exact this)) Z) Z<|.yv (.loadW Z Fx.agg58 (.tail _<|.head _) Z) Z<|.bl Z (Fx.bsl56_1 _ _ _ _) Z fun b47 => .yv (.build Z (Fx.bld58_0_1_3 _ _ _ _ _)) Z<|.fn (tl := [_]) Z<|.sW (.tail<|.head) Z Z Fx.size58 (by simp [Value.oneCell',strV]) Z<|.nt<|.rt<|.bR<|.tR<|?_
  refine At.pm [0,1,2] [_,_,_] rfl rfl ?_;refine Sx.freezeBoxM fun H1 u1 m1 hn1 => ?_;refine Sx.ret1 (.inl rfl) rfl (.cell rfl Fx.agg58 (.head _) rfl) fun W s => ⟨⟨6,(nmAt (n.toNat / 9)),0,[none],_⟩,H1,⟨(show (nmAt (n.toNat / 9)).length ≤ 1000000 by have := nmAt_len (n.toNat / 9);omega),(.inr (nmAt_gd _)),(show (6 : UInt8) ≤ 100 by decide),(show 0 ≤ (0 : Int64).toInt ∧ (0 : Int64).toInt ≤ 100 by decide),by simp,.inr ⟨_,rfl,hn1,m1⟩⟩,rfl,u1.grow s⟩
 have q6 : ¬ n.toNat % 9 = 6 := by have := of_decide_eq_false h41;omega
 refine .sr<|.yv (.eql Z Z) Z<|.a Z Z<|.nt<|.cd Z (fun h49 => ?_) (fun h49 => ?_)
 ·have q7 : n.toNat % 9 = 7 := by have := of_decide_eq_true h49;omega
  refine .sq<|.fl (trip := [(_,_,_),(_,_,_),(_,_,_),(_,_,_),(_,_,_),(_,_,_)]) 6 [(0,0),(1,0),(2,0),(3,0),(4,1),(5,0)] (by kernel_rfl) (by kernel_rfl) Z<|.m Z Z<|.yv (.quo Z Z (by decide) (c := ((n.toNat / 9 : Nat) : Int)) (qu8 _ n.toNat_lt (by decide))) Z<|.yv (.cast (v' := strV (nmAt (n.toNat / 9))) (.call Fx.call43 Z (fun W s => by have := name8_any H (UInt8.ofNat (n.toNat / 9)) W s.agr;rw [u8q9] at this;exact this)) Z) Z<|.yv (.loadW Z Fx.agg58 (.tail _<|.head _) Z) Z<|.bl Z (Fx.bsl56_1 _ _ _ _) Z fun b55 => .yv (.build Z (Fx.bld58_0_1_3 _ _ _ _ _)) Z<|.fn (tl := [_]) Z<|.sW (.tail<|.head) Z Z Fx.size58 (by simp [Value.oneCell',strV]) Z<|.nt<|.rt<|.bR<|.tR<|?_
  refine At.pm [0,1,2] [_,_,_] rfl rfl ?_;refine Sx.freezeBoxM fun H1 u1 m1 hn1 => ?_;refine Sx.ret1 (.inl rfl) rfl (.cell rfl Fx.agg58 (.head _) rfl) fun W s => ⟨⟨7,(nmAt (n.toNat / 9)),0,[none],_⟩,H1,⟨(show (nmAt (n.toNat / 9)).length ≤ 1000000 by have := nmAt_len (n.toNat / 9);omega),(.inr (nmAt_gd _)),(show (7 : UInt8) ≤ 100 by decide),(show 0 ≤ (0 : Int64).toInt ∧ (0 : Int64).toInt ≤ 100 by decide),by simp,.inr ⟨_,rfl,hn1,m1⟩⟩,rfl,u1.grow s⟩
 have q7 : ¬ n.toNat % 9 = 7 := by have := of_decide_eq_false h49;omega
 refine .sk<|.bN<|.tN<|.sr<|.m Z Z<|.yv (.quo Z Z (by decide) (c := ((n.toNat / 9 : Nat) : Int)) (qu8 _ n.toNat_lt (by decide))) Z<|.yv (.cast (v' := strV (nmAt (n.toNat / 9))) (.call Fx.call43 Z (fun W s => by have := name8_any H (UInt8.ofNat (n.toNat / 9)) W s.agr;rw [u8q9] at this;exact this)) Z) Z<|.yv (.build Z (Fx.bld58_0_1 _ _)) Z<|.sW .head Z Z Fx.size58 (by simp [Value.oneCell',strV]) Z<|.nt<|.rt<|?_
 refine Sx.ret1 (.inl rfl) rfl (.cell rfl Fx.agg58 (.head _) rfl) fun W s => ⟨⟨8,(nmAt (n.toNat / 9)),0,[],.slice none 0 0⟩,H,⟨(show (nmAt (n.toNat / 9)).length ≤ 1000000 by have := nmAt_len (n.toNat / 9);omega),(.inr (nmAt_gd _)),(show (8 : UInt8) ≤ 100 by decide),(show 0 ≤ (0 : Int64).toInt ∧ (0 : Int64).toInt ≤ 100 by decide),by simp,.inl ⟨rfl,rfl⟩⟩,rfl,HUp.refl.grow s⟩
def FlatFn (l : List Sm) : Prop := Sm.counts l ≤ 1000000 → ∀ (H : Hp) (v : Value) (w : World),Rep H (.seq 6 (l.map (dSm .i64))) [v] → Agr H w →
 Calls Tryz.prog 22 #[v] w fun e w' => ∃ (r : Value) (H' : Hp),Rep H' (.seq 6 ((Sm.flats l).map (dSm .i64))) [r] ∧ e = .returned r ∧ Grow H w H' w'
set_option maxHeartbeats 1000000 in
set_option maxRecDepth 100000 in
theorem flat_walk (l : List Sm) (hall : ∀ x ∈ l,match x with | .mk _ _ _ _ th el => FlatFn th ∧ FlatFn el) : FlatFn l := by
 intro hn H v w hs hA;obtain ⟨p,c,e,_⟩ := hs.sl;simp only [List.cons.injEq,and_true,List.length_map] at e;subst e;have hcap := hs.cap;refine Sx.enter (H := H) Tryz.func22 rfl Tryz.ntmps22 rfl hA ?_;refine .sr<|.a Z Z<|.ns<|.a Z Z<|?_
 refine Sx.row0 85 6 ?_;refine .nt<|.sq<|.sr<|.m Z Z<|.yv (.lenSl Fx.sl80 Z) Z<|.m Z Z<|.nt<|.bk<|.lp (X := Nat × Hp × Value × List Value) [(6,_),(7,_)] ⟨rfl,rfl,trivial⟩ [] (fun z => [(8,.int .i64 (z.1 : Nat)),(3,z.2.2.1)]) (fun z => z.2.1) (fun z => [.row 85 6 z.2.2.1 (Sm.flats (l.take z.1)).length z.2.2.2]) (fun z => z.1 ≤ l.length ∧ HUp w H z.2.1 ∧ RepZ z.2.1 6 ((Sm.flats (l.take z.1)).map (dSm .i64)) z.2.2.2) (fun z => l.length - z.1) (0,H,.slice none 0 0,[]) (fun _ s => s) ⟨rfl,rfl,trivial⟩ ⟨by simp,.refl,RepZ.nil⟩ fun z hC => ?_
 obtain ⟨k,Ha,r,xs⟩ := z;dsimp only at hC ⊢;obtain ⟨hk0,ua,hz⟩ := hC;refine .sr<|.yv (.lss Z Z) Z<|.nt<|.sq<|.cd Z (fun h9 => ?_) (fun h9 => ?_)
 ·try simp only [dt] at h9
  have hk : k < l.length := by omega
  obtain ⟨bE,oE,cE,hpE,rE,lE,mE⟩ := (hs.up ua.up).elem (map_at (f := dSm .i64) hk);cases hpE;have hIH := hall l[k] (List.getElem_mem hk);generalize hxE : l[k] = xE at rE hIH;obtain ⟨kd,nm,hd,ex,th,el⟩ := xE;obtain ⟨e1,f1,e2,f2,e3,f3,rfl,r1,r2,r3,_,_⟩ := sm_open rE;obtain ⟨ih1,ih2⟩ := hIH;have hcn := scs_le hk hxE;rw [scount_mk] at hcn;have eL := sflats_len (l.take k);have eT := sflats_len th;have eE := sflats_len el;have eN : (Sm.flats (l.take (k + 1))).length = (Sm.flats (l.take k)).length + 1 + (Sm.flats th).length + (Sm.flats el).length := by rw [sflats_succ hk,hxE,sflat_mk,List.length_append,List.length_cons,List.length_append];omega
  refine .sk<|.tN<|.sq<|.bk<|.sr<|.yv (.indexSl Fx.sl80 Z Z Z (by omega) (q := oE + k * 6) Z) Z<|.yv (.loadMW Z Fx.agg85 mE Z) Z<|.al Fx.zero85 Z fun b5 => .sW .head Z Z Fx.size85 (by simp [Value.oneCell',strV]) Z<|.ns<|.m Z Z<|.yv (.loadW Z Fx.agg85 (.head _) Z) Z<|.bl Z (Fx.bsl80_1 _ _ _ _ _ _) Z fun b14 => .ap (news := [.int .i64 kd.toNat,strV nm,strV hd,.slice e1 ex.length f1,.slice e2 th.length f2,.slice e3 el.length f3]) Fx.row80 Z (fun _ => (.tail<|.tail<|.head)) Z (.box (.head _) z0) Z (by simp [Value.oneCell',strV]) (by simp [maxLen];omega) (by omega) Z fun r15 _ => .a Z Z<|.ns<|.m Z Z<|.yv (.fieldAddr Z Fx.field85_4) Z<|.yv (.load Z Fx.agg80 (.tail _<|.head _) Z) Z<|.ct (X := Value) Fx.call22 Z (fun W t => ih1 (by omega) Ha _ W r2 t.agr) Z fun xu Hu hcxu uxu => ?_
  obtain ⟨pxu,cxu,exu,_⟩ := hcxu.sl;simp only [List.cons.injEq,and_true,List.length_map] at exu;subst exu;refine .apD Fx.row80 Z (fun _ _ => (.tail<|.tail<|.head)) Z hcxu (by simp [maxLen];omega) (by omega) Z fun xs20 r20 hz20 => .a Z Z<|.nt<|.rg<|.m Z Z<|.yv (.fieldAddr Z Fx.field85_5) Z<|.yv (.load Z Fx.agg80 (.tail _<|.head _) Z) Z<|.ct (X := Value) Fx.call22 Z (fun W t => ih2 (by omega) Hu _ W (r3.up uxu.up) t.agr) Z fun xv Hv hcxv uxv => ?_
  obtain ⟨pxv,cxv,exv,_⟩ := hcxv.sl;simp only [List.cons.injEq,and_true,List.length_map] at exv;subst exv;exact .apD Fx.row80 Z (fun _ _ => (.tail<|.tail<|.head)) Z hcxv (by simp [maxLen];omega) (by omega) Z fun xs25 r25 hz25 => .a Z Z<|.nl<|.bN<|.tN<|.rg<|.yv (.add Z Z (w6 (by omega))) Z<|.m Z Z<|.nt<|.ag (x := (k,Ha,r,xs)) (k + 1,Hv,r25,xs ++ [.int .i64 kd.toNat,strV nm,strV hd,.slice e1 ex.length f1,.slice e2 th.length f2,.slice e3 el.length f3] ++ xs20 ++ xs25) ⟨rfl,rfl,trivial⟩ ⟨rfl,rfl,trivial⟩ (fun _ s => by have s2 := s.pick [2] [_] Z Z;rw [← eN] at s2;exact s2) ⟨by dsimp only;omega,ua.trans (uxu.trans uxv),by dsimp only;rw [sflats_succ hk,hxE,sflat_mk,List.map_append,List.map_cons,List.map_append,List.append_assoc,List.append_assoc];exact (hz.up (uxu.trans uxv).up).app (RepZ.app (ds := [_]) (RepZ.single (rE.up (uxu.trans uxv).up) Z) ((hz20.up uxv.up).app hz25))⟩ (by dsimp only;omega)
 try simp only [df] at h9
 obtain rfl : k = l.length := by omega
 rw [List.take_length] at hz ⊢

 refine .ex<|.tE<|.tE<|.bE<|.tN<|.sr<|.m Z Z<|.a Z Z<|.nt<|.rt<|?_
 refine Sx.freezeSeq (ds := (Sm.flats l).map (dSm .i64)) (by simp) hz fun HZ pz cz uz ez hZ => ?_;refine Sx.ret1 (.inl rfl) rfl (.tmp rfl) fun W t => ⟨_,HZ,hZ,rfl,(ua.trans uz).grow t⟩
theorem flat_any (l : List Sm) : FlatFn l := by
 have key : ∀ x : Sm,match x with | .mk _ _ _ _ th el => FlatFn th ∧ FlatFn el := by
  intro x;induction x using Sm.ind with
  | _ kd nm hd ex th el i1 i2 => exact ⟨flat_walk th fun x hx => i1 x hx,flat_walk el fun x hx => i2 x hx⟩
 exact flat_walk l fun x _ => key x
structure Chg where
 wh : UInt8
 i : UInt8
 j : UInt8
 k : UInt8
 nm : UInt8
def dChg (x : Chg) : D := .str [.val (.int .u8 x.wh.toNat),.val (.int .u8 x.i.toNat),.val (.int .u8 x.j.toNat),.val (.int .u8 x.k.toNat),.val (.int .u8 x.nm.toNat)]
def cChg (x : Chg) : List Value := [.int .u8 x.wh.toNat,.int .u8 x.i.toNat,.int .u8 x.j.toNat,.int .u8 x.k.toNat,.int .u8 x.nm.toNat]
theorem u8q4 {n : UInt8} : (UInt8.ofNat (n.toNat / 4)).toNat = n.toNat / 4 := by
 have := n.toNat_lt;simp;omega
theorem Fx.call50 : callN Tryz.prog 50 = Bool.true := by kernel_rfl
theorem Fx.size56 : sizeN Tryz.prog 56 = Option.some 1 := by kernel_rfl
theorem XpOk.one {H H' : Hp} {ces : List Value} {x : Xp} (h : XpOk H ces x H') : ∀ u ∈ x.c,u.oneCell' = true := by
 have hv : x.v.oneCell' = true := by rcases h.at_ with ⟨e,_⟩ | ⟨_,e,_⟩ <;> rw [e] <;> rfl
 intro u hu;simp only [Xp.c,List.mem_cons,List.not_mem_nil,or_false] at hu;rcases hu with rfl | rfl | rfl | rfl <;> first | rfl | exact hv
theorem trf_refl {H : Hp} : Trf H H := fun f cs _ h => ⟨f,⟨rfl,A2.refl (fun _ h => h) _,A2.refl (fun _ => ⟨fun h => h,fun h => h⟩) _,A2.refl (fun c => ⟨.inl (A2.refl (fun _ => ⟨fun h => h,fun h => h⟩) _),.inl (A2.refl (fun v => .inl (A2.refl (fun h => ⟨by omega,fun h => h,Nat.le_refl _,Nat.le_refl _,fun N D k => salls_imp (fun s => by
 obtain ⟨kd,nm,hd,ex,th,el⟩ := s;simp only [okSD,Bool.and_eq_true,decide_eq_true_eq];intro k;exact ⟨⟨k.1.1,by omega⟩,k.2⟩) _ k,fun h => h⟩) _)) _),fun h => h⟩) _⟩,h⟩
theorem trf_up {H H1 H2 : Hp} (u : Up H H1) (t : Trf H1 H2) : Trf H H2 := fun f cs hp h => t f cs hp (h.up u)
theorem drop_rep {b o n c : Nat} {G : Hp} {l : List Ex} (hn : 1 ≤ n) (h : Rep G (.seq 4 (l.map (dEx .i64))) [.slice (some ⟨b,o,none⟩) n c]) : Rep G (.seq 4 ((l.drop 1).map (dEx .i64))) [.slice (some (if c = 1 then ⟨b,o,none⟩ else ⟨b,o + 1 * 4,none⟩)) (n - 1) (c - 1)] := by
 have := rep_drop h (lo := 1) hn;rw [← List.map_drop] at this;exact this
def StC (w0 : World) (H0 H : Hp) (k : Nat) (z : Hp × Int) : Prop := (z.2 = -1 ∧ Trf H z.1 ∧ Inv w0 H0 z.1) ∨ (0 ≤ z.2 ∧ z.2 ≤ k ∧ z.1 = H)
set_option maxHeartbeats 4000000 in
set_option maxRecDepth 100000 in
theorem statement8_st {w0 : World} {H0 : Hp} : ∀ (l : List Sm) (H : Hp) (W : World) (bs : List Res) (v : Value) (k0 : Nat) (c : Chg),Inv w0 H0 H → Rep H (.seq 6 (l.map (dSm .i64))) [v] → k0 ≤ 1000000 → St H w0 bs W →
 Calls Tryz.prog 50 #[v,.int .i64 (k0 : Nat),.agg (cChg c).toArray] W fun e W' => ∃ z : Hp × Int,StC w0 H0 H k0 z ∧ e = .returned (.int .i64 z.2) ∧ St z.1 w0 bs W' := by
 refine Sm.lists fun l ih => ?_;intro H W bs v k0 c I hs hk00 s;obtain ⟨p,cp,e,hlen,_⟩ := hs.sl;simp only [List.cons.injEq,and_true,List.length_map] at e;subst e;rw [List.length_map] at hlen;have hcap := hs.cap;refine Sx.enterS Tryz.func50 rfl Tryz.ntmps50 rfl s ?_;refine .sr<|.bx Z Z Z fun b5 => .a Z Z<|.nt<|.sq<|.sr<|.m Z Z<|.yv (.lenSl Fx.sl80 Z) Z<|.m Z Z<|.nt<|.bk<|.lp (X := Nat × Nat) [(0,_),(5,_),(10,_)] ⟨rfl,rfl,rfl,trivial⟩ (_ :: bs) (fun z => [(11,.int .i64 (z.1 : Nat)),(1,.int .i64 (z.2 : Nat))]) (fun z => H) (fun z => []) (fun z => z.1 ≤ l.length ∧ z.2 ≤ k0) (fun z => l.length - z.1) (0,k0) (fun _ s => s) ⟨rfl,rfl,trivial⟩ ⟨by simp,Nat.le_refl _⟩ fun z hC => ?_
 obtain ⟨i,k⟩ := z;dsimp only at hC ⊢;obtain ⟨hi0,hk0⟩ := hC;refine .sr<|.yv (.lss Z Z) Z<|.nt<|.sq<|.cd Z (fun h12 => ?_) (fun h12 => ?_)
 ·try simp only [dt] at h12
  have hi : i < l.length := by omega
  obtain ⟨bS,oS,csS,eS,rS,lS,mS,loS⟩ := hs.elemT (map_at hi) (txt_sm _);cases eS;have ihx := ih _ (List.getElem_mem hi);generalize hx : l[i] = x at rS ihx;obtain ⟨kd,nm,hd,ex,th,el⟩ := x;obtain ⟨p4,c4,p5,c5,p6,c6,rfl,hex,hth,hel,hn1,hn2⟩ := sm_open rS;obtain ⟨arS,tS,hHS,hbS,hoS⟩ := I.tgt loS mS (by simp);have hoS : oS + i * 6 + 6 ≤ arS.size := hoS;have hexc := hex.len;refine .sk<|.tN<|.sq<|.bk<|.sr<|.m Z Z<|.a Z Z<|.nt<|.sq<|.sr<|.m Z Z<|.yv (.eql Z Z) Z<|.nt<|.cd Z (fun h15 => ?_) (fun h15 => ?_)
  ·try simp only [dt] at h15
   have hk : k = 0 := by omega
   refine .sr<|.m Z Z<|.m Z Z<|.yv (.indexSl Fx.sl80 Z Z Z (by omega) (q := oS + i * 6) Z) Z<|.a Z Z<|.nt<|.sq<|.sr<|.yv (.fieldAddr Z Fx.field53_2) Z<|.yv (.load Z Fx.agg5 (.head _) Z) Z<|.yv (.quo Z Z (by decide) (c := ((c.j.toNat / 16 : Nat) : Int)) (qu8 _ c.j.toNat_lt (by decide))) Z<|.yv (.rem Z Z (by decide) (c := ((c.j.toNat / 16 % 5 : Nat) : Int)) (tm2 _ 5)) Z<|.nt<|.bk<|.sr<|.yv (.eql Z Z) Z<|.a Z Z<|.nt<|.cd Z (fun h61 => ?_) (fun h61 => ?_)
   ·try simp only [dt] at h61
    refine .sr<|.m Z Z<|.yv (.nilCheck Z) Z<|.yv (.fieldAddr Z Fx.field85_1) Z<|.yv (.loadM Z Fx.agg9 mS (k := 1) Z Z) Z<|.yv (.neS Z Z) Z<|.nt<|.cd Z (fun h67 => ?_) (fun h67 => ?_)
    ·try simp only [dt] at h67
     refine .rg<|.m Z Z<|.yv (.fieldAddr Z Fx.field53_4) Z<|.yv (.load Z Fx.agg5 (.head _) Z) Z<|.yv (.call Fx.call43 Z (fun W t => name8_any H c.nm W t.agr)) Z<|.yv (.nilCheck Z) Z<|.yv (.fieldAddr Z Fx.field85_1) Z<|.stH Z Z Fx.size9 Z hHS hbS (show oS + i * 6 + 1 < arS.size by omega) fun H3 e3 => ?_
     have tr : Trf H H3 := by rw [e3];exact tr_str mS (i := 1) rfl hHS (show (nmAt c.nm.toNat).length ≤ 1000000 by have := nmAt_len c.nm.toNat;omega) (nmAt_gd _)
     have I3 : Inv w0 H0 H3 := by rw [e3];exact I.put hbS
     refine .nl<|.bN<|.tN<|.sr<|.a Z Z<|.nt<|.rt<|.tR<|.bR<|.tR<|.tR<|.bR<|.tR<|?_
     exact Sx.ret1 (.inl rfl) rfl (.tmp rfl) fun W t => ⟨(H3,-1),.inl ⟨rfl,tr,I3⟩,rfl,t.drop⟩
    try simp only [df] at h67
    refine .sk<|.bN<|.tN<|.sr<|.a Z Z<|.nt<|.rt<|.tR<|.bR<|.tR<|.tR<|.bR<|.tR<|?_
    exact Sx.ret1 (.inl rfl) rfl (.tmp rfl) fun W t => ⟨(H,-1),.inl ⟨rfl,trf_refl,I⟩,rfl,t.drop⟩
   try simp only [df] at h61
   refine .sr<|.yv (.eql Z Z) Z<|.a Z Z<|.nt<|.cd Z (fun h74 => ?_) (fun h74 => ?_)
   ·try simp only [dt] at h74
    refine .sr<|.m Z Z<|.yv (.nilCheck Z) Z<|.yv (.fieldAddr Z Fx.field85_2) Z<|.yv (.loadM Z Fx.agg9 mS (k := 2) Z Z) Z<|.yv (.neS Z Z) Z<|.nt<|.cd Z (fun h80 => ?_) (fun h80 => ?_)
    ·try simp only [dt] at h80
     refine .rg<|.m Z Z<|.yv (.fieldAddr Z Fx.field53_4) Z<|.yv (.load Z Fx.agg5 (.head _) Z) Z<|.yv (.call Fx.call43 Z (fun W t => name8_any H c.nm W t.agr)) Z<|.yv (.nilCheck Z) Z<|.yv (.fieldAddr Z Fx.field85_2) Z<|.stH Z Z Fx.size9 Z hHS hbS (show oS + i * 6 + 2 < arS.size by omega) fun H3 e3 => ?_
     have tr : Trf H H3 := by rw [e3];exact tr_str mS (i := 2) rfl hHS (show (nmAt c.nm.toNat).length ≤ 1000000 by have := nmAt_len c.nm.toNat;omega) (nmAt_gd _)
     have I3 : Inv w0 H0 H3 := by rw [e3];exact I.put hbS
     refine .nl<|.bN<|.tN<|.sr<|.a Z Z<|.nt<|.rt<|.tR<|.bR<|.tR<|.tR<|.bR<|.tR<|?_
     exact Sx.ret1 (.inl rfl) rfl (.tmp rfl) fun W t => ⟨(H3,-1),.inl ⟨rfl,tr,I3⟩,rfl,t.drop⟩
    try simp only [df] at h80
    refine .sk<|.bN<|.tN<|.sr<|.a Z Z<|.nt<|.rt<|.tR<|.bR<|.tR<|.tR<|.bR<|.tR<|?_
    exact Sx.ret1 (.inl rfl) rfl (.tmp rfl) fun W t => ⟨(H,-1),.inl ⟨rfl,trf_refl,I⟩,rfl,t.drop⟩
   try simp only [df] at h74
   refine .sr<|.yv (.eql Z Z) Z<|.a Z Z<|.nt<|.cd Z (fun h87 => ?_) (fun h87 => ?_)
   ·try simp only [dt] at h87
    refine .sr<|.m Z Z<|.yv (.nilCheck Z) Z<|.yv (.fieldAddr Z Fx.field85_0) Z<|.yv (.loadM Z Fx.agg3 mS (k := 0) Z Z) Z<|.yv (.eql Z Z) Z<|.m Z Z<|.b2 (fun h94 => ?_) (fun h94 => ?_)
    ·try simp only [dt] at h94
     refine .gd Z Z<|.yv (.move Z) Z<|.gd Z Z<|.yv (.nilCheck Z) Z<|.gd Z Z<|.yv (.fieldAddr Z Fx.field85_3) Z<|.gd Z Z<|.yv (.loadM Z Fx.agg56 mS (k := 3) Z Z) Z<|.gd Z Z<|.yv (.lenSl Fx.sl56 Z) Z<|.gd Z Z<|.yv (.gtr Z Z) Z<|.yv (.pickT Z Z) Z<|.m Z Z<|.b2 (fun h102 => ?_) (fun h102 => ?_)
     ·try simp only [dt] at h102
      have hp : 0 < ex.length := by omega
      refine .gF Z Z Z Z<|.gF Z Z Z Z<|.gF Z Z Z Z<|.gF Z Z Z Z<|.gF Z Z Z Z<|.gF Z Z Z Z<|.gU Z Z Z<|.gU Z Z Z<|.gU Z Z Z<|.gU Z Z Z<|.gU Z Z Z<|.gU Z Z Z<|.gF Z Z Z Z<|.yv (.pickT Z Z) Z<|.nt<|.cT Z<|?_
      obtain ⟨bX,oX,csX,eX,rX,lX,mX,loX⟩ := hex.elemT (map_at hp) (txt_ex _);cases eX;refine .rg<|.m Z Z<|.m Z Z<|.yv (.nilCheck Z) Z<|.yv (.fieldAddr Z Fx.field85_3) Z<|.yv (.loadM Z Fx.agg56 mS (k := 3) Z Z) Z<|.yv (.cutLo Fx.sl56 Z Z (lo := 1) Z hp hexc.2.1) Z<|.yv (.nilCheck Z) Z<|.yv (.fieldAddr Z Fx.field85_3) Z<|.stH Z Z Fx.size56 Z hHS hbS (show oS + i * 6 + 3 < arS.size by omega) fun H3 e3 => ?_
      have tr : Trf H H3 := by rw [e3];exact tr_drop mS (i := 3) rfl hHS hex hp (fun G l2 h => drop_rep hp h)
      have I3 : Inv w0 H0 H3 := by rw [e3];exact I.put hbS
      refine .nl<|.bN<|.tN<|.sr<|.a Z Z<|.nt<|.rt<|.tR<|.bR<|.tR<|.tR<|.bR<|.tR<|?_
      exact Sx.ret1 (.inl rfl) rfl (.tmp rfl) fun W t => ⟨(H3,-1),.inl ⟨rfl,tr,I3⟩,rfl,t.drop⟩
     try simp only [df] at h102
     refine .gd Z Z<|.yv (.move Z) Z<|.gd Z Z<|.yv (.nilCheck Z) Z<|.gd Z Z<|.yv (.fieldAddr Z Fx.field85_0) Z<|.gd Z Z<|.yv (.loadM Z Fx.agg3 mS (k := 0) Z Z) Z<|.gd Z Z<|.yv (.eql Z Z) Z<|.gd Z Z<|.yv (.move Z) Z<|.b2 (fun h108 => ?_) (fun h108 => ?_)
     ·try simp only [dt] at h108
      refine .gd Z Z<|.yv (.move Z) Z<|.gd Z Z<|.yv (.nilCheck Z) Z<|.gd Z Z<|.yv (.fieldAddr Z Fx.field85_3) Z<|.gd Z Z<|.yv (.loadM Z Fx.agg56 mS (k := 3) Z Z) Z<|.gd Z Z<|.yv (.lenSl Fx.sl56 Z) Z<|.gd Z Z<|.yv (.gtr Z Z) Z<|.gd Z Z<|.yv (.pickT Z Z) Z<|.yv (.pickF Z Z) Z<|.nt<|.cd Z (fun h116 => ?_) (fun h116 => ?_)
      ·try simp only [dt] at h116
       have hp : 0 < ex.length := by omega
       obtain ⟨bX,oX,csX,eX,rX,lX,mX,loX⟩ := hex.elemT (map_at hp) (txt_ex _);cases eX;refine .rg<|.m Z Z<|.m Z Z<|.yv (.nilCheck Z) Z<|.yv (.fieldAddr Z Fx.field85_3) Z<|.yv (.loadM Z Fx.agg56 mS (k := 3) Z Z) Z<|.yv (.cutLo Fx.sl56 Z Z (lo := 1) Z hp hexc.2.1) Z<|.yv (.nilCheck Z) Z<|.yv (.fieldAddr Z Fx.field85_3) Z<|.stH Z Z Fx.size56 Z hHS hbS (show oS + i * 6 + 3 < arS.size by omega) fun H3 e3 => ?_
       have tr : Trf H H3 := by rw [e3];exact tr_drop mS (i := 3) rfl hHS hex hp (fun G l2 h => drop_rep hp h)
       have I3 : Inv w0 H0 H3 := by rw [e3];exact I.put hbS
       refine .nl<|.bN<|.tN<|.sr<|.a Z Z<|.nt<|.rt<|.tR<|.bR<|.tR<|.tR<|.bR<|.tR<|?_
       exact Sx.ret1 (.inl rfl) rfl (.tmp rfl) fun W t => ⟨(H3,-1),.inl ⟨rfl,tr,I3⟩,rfl,t.drop⟩
      try simp only [df] at h116
      refine .sk<|.bN<|.tN<|.sr<|.a Z Z<|.nt<|.rt<|.tR<|.bR<|.tR<|.tR<|.bR<|.tR<|?_
      exact Sx.ret1 (.inl rfl) rfl (.tmp rfl) fun W t => ⟨(H,-1),.inl ⟨rfl,trf_refl,I⟩,rfl,t.drop⟩
     try simp only [df] at h108
     refine .gF Z Z Z Z<|.gF Z Z Z Z<|.gF Z Z Z Z<|.gF Z Z Z Z<|.gF Z Z Z Z<|.gF Z Z Z Z<|.gd Z Z<|.yv (.pickF Z Z) Z<|.yv (.pickF Z Z) Z<|.nt<|.cF Z<|.sk<|.bN<|.tN<|.sr<|.a Z Z<|.nt<|.rt<|.tR<|.bR<|.tR<|.tR<|.bR<|.tR<|?_
     exact Sx.ret1 (.inl rfl) rfl (.tmp rfl) fun W t => ⟨(H,-1),.inl ⟨rfl,trf_refl,I⟩,rfl,t.drop⟩
    try simp only [df] at h94
    refine .gF Z Z Z Z<|.gF Z Z Z Z<|.gF Z Z Z Z<|.gF Z Z Z Z<|.gF Z Z Z Z<|.gF Z Z Z Z<|.yv (.pickF Z Z) Z<|.m Z Z<|.gd Z Z<|.yv (.move Z) Z<|.gd Z Z<|.yv (.nilCheck Z) Z<|.gd Z Z<|.yv (.fieldAddr Z Fx.field85_0) Z<|.gd Z Z<|.yv (.loadM Z Fx.agg3 mS (k := 0) Z Z) Z<|.gd Z Z<|.yv (.eql Z Z) Z<|.gd Z Z<|.yv (.move Z) Z<|.b2 (fun h108 => ?_) (fun h108 => ?_)
    ·try simp only [dt] at h108
     refine .gd Z Z<|.yv (.move Z) Z<|.gd Z Z<|.yv (.nilCheck Z) Z<|.gd Z Z<|.yv (.fieldAddr Z Fx.field85_3) Z<|.gd Z Z<|.yv (.loadM Z Fx.agg56 mS (k := 3) Z Z) Z<|.gd Z Z<|.yv (.lenSl Fx.sl56 Z) Z<|.gd Z Z<|.yv (.gtr Z Z) Z<|.gd Z Z<|.yv (.pickT Z Z) Z<|.yv (.pickF Z Z) Z<|.nt<|.cd Z (fun h116 => ?_) (fun h116 => ?_)
     ·try simp only [dt] at h116
      have hp : 0 < ex.length := by omega
      obtain ⟨bX,oX,csX,eX,rX,lX,mX,loX⟩ := hex.elemT (map_at hp) (txt_ex _);cases eX;refine .rg<|.m Z Z<|.m Z Z<|.yv (.nilCheck Z) Z<|.yv (.fieldAddr Z Fx.field85_3) Z<|.yv (.loadM Z Fx.agg56 mS (k := 3) Z Z) Z<|.yv (.cutLo Fx.sl56 Z Z (lo := 1) Z hp hexc.2.1) Z<|.yv (.nilCheck Z) Z<|.yv (.fieldAddr Z Fx.field85_3) Z<|.stH Z Z Fx.size56 Z hHS hbS (show oS + i * 6 + 3 < arS.size by omega) fun H3 e3 => ?_
      have tr : Trf H H3 := by rw [e3];exact tr_drop mS (i := 3) rfl hHS hex hp (fun G l2 h => drop_rep hp h)
      have I3 : Inv w0 H0 H3 := by rw [e3];exact I.put hbS
      refine .nl<|.bN<|.tN<|.sr<|.a Z Z<|.nt<|.rt<|.tR<|.bR<|.tR<|.tR<|.bR<|.tR<|?_
      exact Sx.ret1 (.inl rfl) rfl (.tmp rfl) fun W t => ⟨(H3,-1),.inl ⟨rfl,tr,I3⟩,rfl,t.drop⟩
     try simp only [df] at h116
     refine .sk<|.bN<|.tN<|.sr<|.a Z Z<|.nt<|.rt<|.tR<|.bR<|.tR<|.tR<|.bR<|.tR<|?_
     exact Sx.ret1 (.inl rfl) rfl (.tmp rfl) fun W t => ⟨(H,-1),.inl ⟨rfl,trf_refl,I⟩,rfl,t.drop⟩
    try simp only [df] at h108
    refine .gF Z Z Z Z<|.gF Z Z Z Z<|.gF Z Z Z Z<|.gF Z Z Z Z<|.gF Z Z Z Z<|.gF Z Z Z Z<|.gd Z Z<|.yv (.pickF Z Z) Z<|.yv (.pickF Z Z) Z<|.nt<|.cF Z<|.sk<|.bN<|.tN<|.sr<|.a Z Z<|.nt<|.rt<|.tR<|.bR<|.tR<|.tR<|.bR<|.tR<|?_
    exact Sx.ret1 (.inl rfl) rfl (.tmp rfl) fun W t => ⟨(H,-1),.inl ⟨rfl,trf_refl,I⟩,rfl,t.drop⟩
   try simp only [df] at h87
   refine .sr<|.yv (.eql Z Z) Z<|.a Z Z<|.nt<|.cd Z (fun h125 => ?_) (fun h125 => ?_)
   ·try simp only [dt] at h125
    refine .sr<|.m Z Z<|.yv (.nilCheck Z) Z<|.yv (.fieldAddr Z Fx.field85_3) Z<|.yv (.loadM Z Fx.agg56 mS (k := 3) Z Z) Z<|.yv (.lenSl Fx.sl56 Z) Z<|.yv (.gtr Z Z) Z<|.nt<|.cd Z (fun h132 => ?_) (fun h132 => ?_)
    ·try simp only [dt] at h132
     have hp : 0 < ex.length := by omega
     have hj : (c.k.toNat % ex.length) < ex.length := Nat.mod_lt _ hp;obtain ⟨bX,oX,csX,eX,rX,lX,mX,loX⟩ := hex.elemT (map_at hj) (txt_ex _);cases eX;generalize hxx : ex[(c.k.toNat % ex.length)] = e at rX;obtain ⟨op,nm4,n4,args⟩ := e;have rX0 := rX;obtain ⟨p7,c7,rfl,hargs,hn7⟩ := ex_open rX;obtain ⟨arX,tX,hHX,hbX,hoX⟩ := I.tgt loX mX (by simp);have hoX : oX + (c.k.toNat % ex.length) * 4 + 4 ≤ arX.size := hoX;refine .fl (trip := [(_,_,_),(_,_,_),(_,_,_),(_,_,_),(_,_,_),(_,_,_),(_,_,_),(_,_,_),(_,_,_),(_,_,_),(_,_,_),(_,_,_),(_,_,_),(_,_,_),(_,_,_),(_,_,_),(_,_,_)]) 17 [(0,0),(1,0),(2,0),(3,0),(4,0),(5,0),(6,0),(7,0),(8,0),(9,0),(10,0),(11,0),(12,0),(13,0),(14,0),(15,0),(16,0)] (by kernel_rfl) (by kernel_rfl) Z<|.m Z Z<|.yv (.nilCheck Z) Z<|.yv (.fieldAddr Z Fx.field85_3) Z<|.yv (.loadM Z Fx.agg56 mS (k := 3) Z Z) Z<|.yv (.fieldAddr Z Fx.field53_3) Z<|.yv (.load Z Fx.agg5 (.head _) Z) Z<|.yv (.conv Z Fx.int5 Fx.int3 (c := (c.k.toNat : Nat)) (by have := c.k.toNat_lt;simp only [IntKind.wrap,IntKind.signed,IntKind.bits];simp;omega)) Z<|.m Z Z<|.yv (.nilCheck Z) Z<|.yv (.fieldAddr Z Fx.field85_3) Z<|.yv (.loadM Z Fx.agg56 mS (k := 3) Z Z) Z<|.yv (.lenSl Fx.sl56 Z) Z<|.yv (.rem Z Z (by omega) (c := (((c.k.toNat % ex.length) : Nat) : Int)) (tm2 _ _)) Z<|.yv (.fieldAddr Z Fx.field53_4) Z<|.yv (.load Z Fx.agg5 (.head _) Z) Z<|.yv (.call Fx.call43 Z (fun W t => name8_any H c.nm W t.agr)) Z<|.yv (.build Z (Fx.bld58_0_1 _ _)) Z<|.fn (tl := [_,_]) Z<|.yv (.indexSl Fx.sl56 Z Z (i := (c.k.toNat % ex.length)) Z hj (q := oX + (c.k.toNat % ex.length) * 4) Z) Z<|.stHS (vs := [.int .i64 (5 : UInt8).toNat,strV (nmAt c.nm.toNat),.int .i64 (0 : Int64).toInt,.slice none 0 0]) Z Z Fx.size58 Z (by simp [Value.oneCell',strV]) hHX hbX hoX fun H3 e3 => ?_
     have tr : Trf H H3 := by rw [e3];exact tr_expr mX hn7 hHX hargs (show (nmAt c.nm.toNat).length ≤ 1000000 by have := nmAt_len c.nm.toNat;omega) (.inr (nmAt_gd _)) (by decide) (by decide) (l := []) (.inl ⟨rfl,rfl⟩) (by decide)
     have I3 : Inv w0 H0 H3 := by rw [e3];exact I.put hbX
     refine .nl<|.bN<|.tN<|.sr<|.a Z Z<|.nt<|.rt<|.tR<|.bR<|.tR<|.tR<|.bR<|.tR<|?_
     exact Sx.ret1 (.inl rfl) rfl (.tmp rfl) fun W t => ⟨(H3,-1),.inl ⟨rfl,tr,I3⟩,rfl,t.drop⟩
    try simp only [df] at h132
    refine .sk<|.bN<|.tN<|.sr<|.a Z Z<|.nt<|.rt<|.tR<|.bR<|.tR<|.tR<|.bR<|.tR<|?_
    exact Sx.ret1 (.inl rfl) rfl (.tmp rfl) fun W t => ⟨(H,-1),.inl ⟨rfl,trf_refl,I⟩,rfl,t.drop⟩
   try simp only [df] at h125
   refine .sr<|.m Z Z<|.yv (.nilCheck Z) Z<|.yv (.fieldAddr Z Fx.field85_3) Z<|.yv (.loadM Z Fx.agg56 mS (k := 3) Z Z) Z<|.yv (.lenSl Fx.sl56 Z) Z<|.yv (.gtr Z Z) Z<|.nt<|.cd Z (fun h28 => ?_) (fun h28 => ?_)
   ·try simp only [dt] at h28
    have hp : 0 < ex.length := by omega
    have hj : (c.k.toNat % ex.length) < ex.length := Nat.mod_lt _ hp;obtain ⟨bX,oX,csX,eX,rX,lX,mX,loX⟩ := hex.elemT (map_at hj) (txt_ex _);cases eX;generalize hxx : ex[(c.k.toNat % ex.length)] = e at rX;obtain ⟨op,nm4,n4,args⟩ := e;have rX0 := rX;obtain ⟨p7,c7,rfl,hargs,hn7⟩ := ex_open rX;obtain ⟨arX,tX,hHX,hbX,hoX⟩ := I.tgt loX mX (by simp);have hoX : oX + (c.k.toNat % ex.length) * 4 + 4 ≤ arX.size := hoX;refine .fl (trip := [(_,_,_),(_,_,_),(_,_,_),(_,_,_),(_,_,_),(_,_,_),(_,_,_),(_,_,_),(_,_,_),(_,_,_),(_,_,_),(_,_,_),(_,_,_),(_,_,_),(_,_,_),(_,_,_),(_,_,_),(_,_,_),(_,_,_),(_,_,_),(_,_,_),(_,_,_),(_,_,_),(_,_,_),(_,_,_),(_,_,_),(_,_,_),(_,_,_),(_,_,_),(_,_,_),(_,_,_)]) 31 [(0,0),(1,0),(2,0),(3,0),(4,0),(5,0),(6,0),(7,0),(8,0),(9,0),(10,0),(11,0),(12,0),(13,0),(14,0),(15,0),(16,0),(17,0),(18,0),(19,0),(20,0),(21,0),(22,0),(23,0),(24,0),(25,0),(26,0),(27,0),(28,0),(29,0),(30,1)] (by kernel_rfl) (by kernel_rfl) Z<|.m Z Z<|.yv (.nilCheck Z) Z<|.yv (.fieldAddr Z Fx.field85_3) Z<|.yv (.loadM Z Fx.agg56 mS (k := 3) Z Z) Z<|.yv (.fieldAddr Z Fx.field53_3) Z<|.yv (.load Z Fx.agg5 (.head _) Z) Z<|.yv (.conv Z Fx.int5 Fx.int3 (c := (c.k.toNat : Nat)) (by have := c.k.toNat_lt;simp only [IntKind.wrap,IntKind.signed,IntKind.bits];simp;omega)) Z<|.m Z Z<|.yv (.nilCheck Z) Z<|.yv (.fieldAddr Z Fx.field85_3) Z<|.yv (.loadM Z Fx.agg56 mS (k := 3) Z Z) Z<|.yv (.lenSl Fx.sl56 Z) Z<|.yv (.rem Z Z (by omega) (c := (((c.k.toNat % ex.length) : Nat) : Int)) (tm2 _ _)) Z<|.yv (.fieldAddr Z Fx.field53_4) Z<|.yv (.load Z Fx.agg5 (.head _) Z) Z<|.m Z Z<|.yv (.nilCheck Z) Z<|.yv (.fieldAddr Z Fx.field85_3) Z<|.yv (.loadM Z Fx.agg56 mS (k := 3) Z Z) Z<|.yv (.fieldAddr Z Fx.field53_3) Z<|.yv (.load Z Fx.agg5 (.head _) Z) Z<|.yv (.conv Z Fx.int5 Fx.int3 (c := (c.k.toNat : Nat)) (by have := c.k.toNat_lt;simp only [IntKind.wrap,IntKind.signed,IntKind.bits];simp;omega)) Z<|.m Z Z<|.yv (.nilCheck Z) Z<|.yv (.fieldAddr Z Fx.field85_3) Z<|.yv (.loadM Z Fx.agg56 mS (k := 3) Z Z) Z<|.yv (.lenSl Fx.sl56 Z) Z<|.yv (.rem Z Z (by omega) (c := (((c.k.toNat % ex.length) : Nat) : Int)) (tm2 _ _)) Z<|.yv (.indexSl Fx.sl56 Z Z (i := (c.k.toNat % ex.length)) Z hj (q := oX + (c.k.toNat % ex.length) * 4) Z) Z<|.yv (.loadMW Z Fx.agg58 mX Z) Z<|.ct (X := Xp) Fx.call17 Z (fun W t => xpr_raw H c.nm _ _ rX0 W t.agr) Z fun x59 H59 hx59 u59 => .fn (tl := [_,_]) Z<|.yv (.indexSl Fx.sl56 Z Z (i := (c.k.toNat % ex.length)) Z hj (q := oX + (c.k.toNat % ex.length) * 4) Z) Z<|.stHS (vs := x59.c) Z Z Fx.size58 Z hx59.one (u59.up _ _ hHX) hbX hoX fun H3 e3 => ?_
    have hne : ∀ nb,H nb = none → nb ≠ bX := fun nb h e => by subst e;rw [hHX] at h;cases h
    have tr : Trf H H3 := by
     rw [e3];refine trf_up u59.up (tr_expr (mX.up u59.up) hn7 (u59.up _ _ hHX) (hargs.up u59.up) hx59.nm hx59.gd hx59.op hx59.n ?_ hx59.len);rcases hx59.at_ with h | ⟨nb,h1,h2,h3⟩
     ·exact .inl h
     ·exact .inr ⟨nb,h1,hne nb h2,h3⟩
    have I3 : Inv w0 H0 H3 := by rw [e3];exact (I.grow u59).put hbX
    refine .nl<|.bN<|.tN<|.sr<|.a Z Z<|.nt<|.rt<|.tR<|.bR<|.tR<|.tR<|.bR<|.tR<|?_
    exact Sx.ret1 (.inl rfl) rfl (.tmp rfl) fun W t => ⟨(H3,-1),.inl ⟨rfl,tr,I3⟩,rfl,t.drop⟩
   try simp only [df] at h28
   refine .sk<|.bN<|.tN<|.sr<|.a Z Z<|.nt<|.rt<|.tR<|.bR<|.tR<|.tR<|.bR<|.tR<|?_
   exact Sx.ret1 (.inl rfl) rfl (.tmp rfl) fun W t => ⟨(H,-1),.inl ⟨rfl,trf_refl,I⟩,rfl,t.drop⟩
  try simp only [df] at h15
  have hk : ¬ k = 0 := by omega
  refine .sk<|.tN<|.sq<|.fl (trip := [(_,_,_),(_,_,_),(_,_,_),(_,_,_),(_,_,_),(_,_,_),(_,_,_),(_,_,_),(_,_,_)]) 9 [(0,0),(1,0),(2,0),(3,0),(4,0),(5,0),(6,0),(7,0),(8,2)] (by kernel_rfl) (by kernel_rfl) Z<|.m Z Z<|.m Z Z<|.yv (.indexSl Fx.sl80 Z Z Z (by omega) (q := oS + i * 6) Z) Z<|.yv (.fieldAddr Z Fx.field85_4) Z<|.yv (.loadM Z Fx.agg80 mS (k := 4) Z Z) Z<|.m Z Z<|.yv (.sub Z Z (c := ((k - 1 : Nat) : Int)) ((w6 (by omega)).trans (by omega))) Z<|.yv (.loadW Z Fx.agg53 (.head _) Z) Z<|.cs (X := Hp × Int) Fx.call50 Z (fun W t => ihx.1 H W _ _ (k - 1) c I hth (by omega) t) Z fun z159 hz159 => ?_
  obtain ⟨H159,r159⟩ := z159;unfold StC at hz159;dsimp only at hz159 ⊢;refine .fn (tl := [_]) Z<|.a Z Z<|.nt<|.sq<|.sr<|.m Z Z<|.yv (.lss Z Z) Z<|.nt<|.cd Z (fun h161 => ?_) (fun h161 => ?_)
  ·try simp only [dt] at h161
   have hr := hz159.resolve_right fun h => by omega
   refine .sr<|.m Z Z<|.a Z Z<|.nt<|.rt<|.tR<|.bR<|.tR<|.tR<|.bR<|.tR<|?_
   exact Sx.ret1 (.inl rfl) rfl (.tmp rfl) fun W t => ⟨(H159,r159),.inl hr,rfl,t.drop⟩
  try simp only [df] at h161
  obtain ⟨hr0,hr1,hH⟩ := hz159.resolve_left fun h => by omega
  obtain rfl := hH.symm;obtain ⟨k2,rfl⟩ : ∃ q : Nat,r159 = (q : Int) := ⟨r159.toNat,by omega⟩;refine .sk<|.tN<|.sq<|.fl (trip := [(_,_,_),(_,_,_),(_,_,_),(_,_,_),(_,_,_),(_,_,_),(_,_,_),(_,_,_)]) 8 [(0,0),(1,0),(2,0),(3,0),(4,0),(5,0),(6,0),(7,2)] (by kernel_rfl) (by kernel_rfl) Z<|.m Z Z<|.m Z Z<|.yv (.indexSl Fx.sl80 Z Z Z (by omega) (q := oS + i * 6) Z) Z<|.yv (.fieldAddr Z Fx.field85_5) Z<|.yv (.loadM Z Fx.agg80 mS (k := 5) Z Z) Z<|.m Z Z<|.yv (.loadW Z Fx.agg53 (.head _) Z) Z<|.cs (X := Hp × Int) Fx.call50 Z (fun W t => ihx.2 H W _ _ k2 c I hel (by omega) t) Z fun z170 hz170 => ?_
  obtain ⟨H170,r170⟩ := z170;unfold StC at hz170;dsimp only at hz170 ⊢;refine .fn (tl := [_]) Z<|.a Z Z<|.ns<|.m Z Z<|.yv (.lss Z Z) Z<|.nt<|.cd Z (fun h172 => ?_) (fun h172 => ?_)
  ·try simp only [dt] at h172
   have hr := hz170.resolve_right fun h => by omega
   refine .sr<|.m Z Z<|.a Z Z<|.nt<|.rt<|.bR<|.tR<|.tR<|.bR<|.tR<|?_
   exact Sx.ret1 (.inl rfl) rfl (.tmp rfl) fun W t => ⟨(H170,r170),.inl hr,rfl,t.drop⟩
  try simp only [df] at h172
  obtain ⟨hr2,hr3,hH⟩ := hz170.resolve_left fun h => by omega
  obtain rfl := hH.symm;obtain ⟨k3,rfl⟩ : ∃ q : Nat,r170 = (q : Int) := ⟨r170.toNat,by omega⟩;exact .sk<|.bN<|.tN<|.rg<|.yv (.add Z Z (w6 (by omega))) Z<|.m Z Z<|.nt<|.ag (x := (i,k)) (i + 1,k3) ⟨rfl,rfl,trivial⟩ ⟨rfl,rfl,rfl,trivial⟩ (fun _ s => s) ⟨by dsimp only;omega,by dsimp only;omega⟩ (by dsimp only;omega)
 try simp only [df] at h12
 obtain rfl : i = l.length := by omega
 refine .ex<|.tE<|.tE<|.bE<|.tN<|.sq<|?_
 skip
 refine .rg<|.m Z Z<|.a Z Z<|.nt<|.rt<|?_
 exact Sx.ret1 (.inl rfl) rfl (.tmp rfl) fun W t => ⟨(H,(k : Nat)),.inr ⟨by omega,by omega,rfl⟩,rfl,t.drop⟩
theorem Fx.size2 : sizeN Tryz.prog 2 = Option.some 1 := by kernel_rfl
theorem Fx.size54 : sizeN Tryz.prog 54 = Option.some 1 := by kernel_rfl
end Go.Proofs.YtohfacbajcenoaaGreatDoor
