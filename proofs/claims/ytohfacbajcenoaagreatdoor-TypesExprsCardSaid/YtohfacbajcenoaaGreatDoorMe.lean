/- Texts of the proof, one behind the other. -/
import Derived.Test.YtohfacbajcenoaaGreatDoorMd
set_option linter.all false
namespace Go.Proofs.YtohfacbajcenoaaGreatDoor
open Go.RowKit Go.Par Go.Sx
def pbV (P : Pb) : List Value := [strV P.wh,strV P.nm,.int .i64 (P.er : Nat)]
def cmpsL (f : Ft) (k : Nat) : List Pb := (List.range k).flatMap (cmp1 f)
theorem probs_frs (f : Ft) (cd : Nat) : frsP (frsP (frsP (repP noP [102,108,101,101,116] f.nm cd) ((List.range f.flags.length).flatMap (flg1 f))) ((List.range f.links.length).flatMap (lnk1 f))) ((List.range f.comps.length).flatMap (cmp1 f)) = frsP noP (probs f cd) := by
 unfold probs repP
 rw [← frsP_app (by split;exact .nil;rename_i h;intro x hx;rw [List.mem_singleton.1 hx];exact h),← frsP_app (.flat fun _ => .flg _ _),← frsP_app (.flat fun _ => .lnk _ _)]
theorem repP_ok {P : Pb} (h : PbOk P) (wh n : Str) (cd : Nat) : PbOk (repP P wh n cd) := frsP_ok h (by split;exact .nil;rename_i h;intro x hx;rw [List.mem_singleton.1 hx];exact h)
set_option maxRecDepth 100000 in
theorem typesCheck_any (H : Hp) (G : Gl H) (f : Ft) (cs : List Value) (h : Rep H (dFt .u8 f) cs) (hok : evH okH f = true) (hsm : ∀ c ∈ f.comps,CpSm c) (w : World) (hA : Agr H w) :
 Calls Tryz.prog 9 #[.agg cs.toArray] w fun r w' => r = .returned (.tuple #[.agg (pbV (frsP noP (probs f (checkF f)))).toArray,.int .i64 ((frsP noP (probs f (checkF f))).er : Nat)]) ∧ Ext w w' := by
 obtain ⟨p1,c1,p2,c2,p3,c3,rfl,hn,h1,h2,h3⟩ := ft_open h
 have hcap := h3.cap
 refine Sx.enter (H := H) Tryz.func9 rfl Tryz.ntmps9 rfl hA ?_
 refine .sr<|.bx Z Z Z fun b1 => .al Fx.zero41 Z fun b2 => .a Z Z<|.ns<|.yv (.loadW Z Fx.agg37 (.tail _<|.head _) Z) Z<|.yv (.build Z (Fx.bld110_0_1 _ _ _ _ _)) Z<|.bx Z Z Z fun b8 => .a Z Z<|.nt<|.sq<|.fl (trip := [(_,_,_),(_,_,_),(_,_,_),(_,_,_),(_,_,_)]) 5 [(0,0),(1,0),(2,0),(3,0),(4,0)] (by kernel_rfl) (by kernel_rfl) Z<|.m Z Z<|.yv (.loadW Z Fx.agg37 (.tail _<|.tail _<|.head _) Z) Z<|.yv (.call Fx.call10 Z (fun W s => check_any H G f _ h hok W s.agr)) Z<|.yv (.fieldAddr Z Fx.field37_0) Z<|.yv (.load Z Fx.agg9 (.tail _<|.tail _<|.head _) Z) Z<|.fn (tl := [_]) Z<|.cs (X := Unit) Fx.call25 Z (fun W s => report_st (c0 := strV f.nm) (c1 := .slice p1 f.flags.length c1) (c2 := .slice p2 f.links.length c2) (c3 := .slice p3 f.comps.length c3) (P := noP) (wh := [102,108,101,101,116]) (checkF f) f.nm (fun _ => rfl) (s.pickT (hd := [_,_,_]) (tl := []) (hd' := [_,_,_]) [0,1,2] Z Z)) Z fun _ _ => .ns<|.m Z Z<|.cs (X := Str) Fx.call26 Z (fun W s => flags_st (repP_ok (fun _ => rfl) _ _ _) h1 h2 h3 (s.pickT (hd := [_,_,_]) (tl := []) (hd' := [_,_,_]) [0,1,2] Z Z)) Z fun w1 _ => .ns<|.m Z Z<|.cs (X := Str) Fx.call27 Z (fun W s => links_st (frsP_ok (repP_ok (fun _ => rfl) _ _ _) (.flat fun _ => .flg _ _)) h1 h2 h3 (s.pickT (hd := [_,_,_]) (tl := []) (hd' := [_,_,_]) [0,1,2] Z Z)) Z fun w2 _ => .nt<|.sq<|.sq<|?_
 generalize hP3e : frsP (frsP (repP noP [102,108,101,101,116] f.nm (checkF f)) ((List.range f.flags.length).flatMap (flg1 f))) ((List.range f.links.length).flatMap (lnk1 f)) = P3
 have hP3 : PbOk P3 := by rw [← hP3e];exact frsP_ok (frsP_ok (repP_ok (fun _ => rfl) _ _ _) (.flat fun _ => .flg _ _)) (.flat fun _ => .lnk _ _)
 refine .rg<|.yv (.fieldAddr Z Fx.field37_3) Z<|.yv (.load Z Fx.agg35 (.tail _<|.tail _<|.head _) Z) Z<|.yv (.lenSl Fx.sl35 Z) Z<|.m Z Z<|.nt<|.bk<|.lp (X := Nat × Str × Pb) [(2,_),(4,_),(21,_)] ⟨rfl,rfl,rfl,trivial⟩ (_ :: _ :: []) (fun z => [(22,.int .i64 (z.1 : Nat))]) (fun z => H) (fun z => [.box b8 [strV f.nm,.slice p1 f.flags.length c1,.slice p2 f.links.length c2,.slice p3 f.comps.length c3,strV z.2.1,strV z.2.2.wh,strV z.2.2.nm,.int .i64 (z.2.2.er : Nat)] 110]) (fun z => z.1 ≤ f.comps.length ∧ z.2.2 = frsP P3 (cmpsL f z.1)) (fun z => f.comps.length - z.1) (0,w2,P3) (fun _ s => s) ⟨rfl,trivial⟩ ⟨Nat.zero_le _,(frsP_nil hP3).symm⟩ fun z hC => ?_
 obtain ⟨k,wh1,P4⟩ := z
 obtain ⟨hk0,hP4⟩ := hC
 dsimp only at hk0 hP4 ⊢
 have hPo : PbOk P4 := by rw [hP4];exact frsP_ok hP3 (.flat fun _ => .cmp _ _)
 refine .sr<|.yv (.lss Z Z) Z<|.nt<|.sq<|.cd Z (fun h23 => ?_) (fun h23 => ?_)
 ·try simp only [dt] at h23
  have hk : k < f.comps.length := by omega
  exact .sk<|.tN<|.sq<|.bk<|.sr<|.m Z Z<|.a Z Z<|.nt<|.rg<|.m Z Z<|.m Z Z<|.cs (X := Str) Fx.call28 Z (fun W s => component_st hPo h1 h2 h3 k hk (hsm _ (List.getElem_mem hk)) (s.pickT (hd := [_,_,_]) (tl := []) (hd' := [_,_,_]) [0,1,2] Z Z)) Z fun z27 _ => .nl<|.bN<|.tN<|.rg<|.yv (.add Z Z (w6 (by omega))) Z<|.m Z Z<|.nt<|.ag (x := (k,wh1,P4)) (k + 1,z27,frsP P4 (cmp1 f k)) ⟨rfl,trivial⟩ ⟨rfl,rfl,rfl,trivial⟩ (fun _ s => s) ⟨by dsimp only;omega,by dsimp only;rw [hP4];show frsP (frsP P3 ((List.range k).flatMap (cmp1 f))) (cmp1 f k) = frsP P3 ((List.range (k + 1)).flatMap (cmp1 f));rw [flat_succ',← frsP_app (.flat fun _ => .cmp _ _)]⟩ (by dsimp only;omega)
 try simp only [df] at h23
 obtain rfl : k = f.comps.length := by omega
 have eR : P4 = frsP noP (probs f (checkF f)) := by rw [hP4,← hP3e];exact probs_frs f _
 refine .ex<|.tE<|.tE<|.bE<|.tN<|.sq<|.fl (trip := [(_,_,_),(_,_,_),(_,_,_),(_,_,_),(_,_,_),(_,_,_),(_,_,_),(_,_,_),(_,_,_),(_,_,_)]) 10 [(0,0),(1,0),(2,0),(3,0),(4,0),(5,0),(6,0),(7,0),(8,0),(9,3)] (by kernel_rfl) (by kernel_rfl) Z<|.m Z Z<|.yv (.nilCheck Z) Z<|.yv (.fieldAddr Z Fx.field110_2) Z<|.yv (.loadS (vs := [_,_,_]) Z Fx.agg41 (.head _) Z (subL Z)) Z<|.m Z Z<|.yv (.nilCheck Z) Z<|.yv (.fieldAddr Z Fx.field110_2) Z<|.yv (.fieldAddr Z Fx.field41_2) Z<|.yv (.load Z Fx.agg39 (.head _) Z) Z<|.sW (.tail<|.head) Z Z Fx.size41 (by simp [Value.oneCell',strV]) Z ((.yv (.load Z Fx.agg39 (.head _) Z)<|.yv (.fieldAddr Z Fx.field41_2)<|.yv (.fieldAddr Z Fx.field110_2)<|.yv (.nilCheck Z)<|.yv (.move Z)<|.done (by kernel_rfl)<|.done (by kernel_rfl)<|.done (by kernel_rfl)<|.done (by kernel_rfl)<|.nl))<|.fn (tl := [_]) Z<|.a Z Z<|.nt<|.rt<|?_
 refine Sx.retN (.inl rfl) rfl (.cons (.cell rfl Fx.agg41 (.tail _<|.head _) rfl) (.cons (.tmp rfl) .nil)) rfl fun W s => ⟨?_,s.ext⟩
 rw [← eR];rfl
set_option maxRecDepth 100000 in
theorem typeOf_bad (H : Hp) (G : Gl H) (f : Ft) (cs : List Value) (h : Rep H (dFt .u8 f) cs) (hok : evH okH f = true) (v3 : Value) (e : Ex) (ces : List Value) (he : Rep H (dEx .u8 e) ces) (hd : e.depth ≤ 1000000) (ci : Int) (hbad : checkF f ≠ 0 ∨ ci < 0 ∨ (f.comps.length : Int) ≤ ci ∨ checkE e ≠ 0) (w : World) (hA : Agr H w) :
 Calls Tryz.prog 18 #[.agg cs.toArray,.int .i64 ci,v3,.agg ces.toArray] w fun r w' => r = .returned (.tuple #[.int .u8 0,.int .i64 1]) ∧ Ext w w' := by
 obtain ⟨p1,c1,p2,c2,p3,c3,rfl,hn,h1,h2,h3⟩ := ft_open h
 have hcap := h3.cap
 obtain ⟨op,nm,nn,args⟩ := e
 obtain ⟨pe,ce,rfl,_,_⟩ := ex_open he
 refine Sx.enter (H := H) Tryz.func18 rfl Tryz.ntmps18 rfl hA ?_
 refine .sr<|.bx Z Z Z fun b4 => .bx Z Z Z fun b7 => .a Z Z<|.a Z Z<|.nt<|.sq<|.sr<|.yv (.loadW Z Fx.agg37 (.tail _<|.head _) Z) Z<|.yv (.call Fx.call10 Z (fun W s => check_any H G f _ h hok W s.agr)) Z<|.yv (.neq Z Z) Z<|.m Z Z<|.b2 (fun h17 => ?_) (fun h17 => ?_)
 ·skip
  refine .gF Z Z Z Z<|.gF Z Z Z Z<|.yv (.pickT Z Z) Z<|.m Z Z<|.gF Z Z Z Z<|.gF Z Z Z Z<|.gF Z Z Z Z<|.gF Z Z Z Z<|.gF Z Z Z Z<|.yv (.pickT Z Z) Z<|.m Z Z<|.gF Z Z Z Z<|.gF Z Z Z Z<|.gF Z Z Z Z<|.yv (.pickT Z Z) Z<|.nt<|.cT Z<|.sr<|.a Z Z<|.a Z Z<|.nt<|.rt<|.tR<|?_
  refine Sx.retN (.inl rfl) rfl (.cons (.tmp rfl) (.cons (.tmp rfl) .nil)) rfl fun W s => ⟨?_,s.ext⟩
  first
   | (rfl)
 skip
 refine .gd Z Z<|.yv (.move Z) Z<|.gd Z Z<|.yv (.lss Z Z) Z<|.yv (.pickF Z Z) Z<|.m Z Z<|.b2 (fun h21 => ?_) (fun h21 => ?_)
 ·skip
  refine .gF Z Z Z Z<|.gF Z Z Z Z<|.gF Z Z Z Z<|.gF Z Z Z Z<|.gF Z Z Z Z<|.yv (.pickT Z Z) Z<|.m Z Z<|.gF Z Z Z Z<|.gF Z Z Z Z<|.gF Z Z Z Z<|.yv (.pickT Z Z) Z<|.nt<|.cT Z<|.sr<|.a Z Z<|.a Z Z<|.nt<|.rt<|.tR<|?_
  refine Sx.retN (.inl rfl) rfl (.cons (.tmp rfl) (.cons (.tmp rfl) .nil)) rfl fun W s => ⟨?_,s.ext⟩
  first
   | (rfl)
 skip
 refine .gd Z Z<|.yv (.move Z) Z<|.gd Z Z<|.yv (.fieldAddr Z Fx.field37_3) Z<|.gd Z Z<|.yv (.load Z Fx.agg35 (.tail _<|.head _) Z) Z<|.gd Z Z<|.yv (.lenSl Fx.sl35 Z) Z<|.gd Z Z<|.yv (.geq Z Z) Z<|.yv (.pickF Z Z) Z<|.m Z Z<|.b2 (fun h28 => ?_) (fun h28 => ?_)
 ·skip
  refine .gF Z Z Z Z<|.gF Z Z Z Z<|.gF Z Z Z Z<|.yv (.pickT Z Z) Z<|.nt<|.cT Z<|.sr<|.a Z Z<|.a Z Z<|.nt<|.rt<|.tR<|?_
  refine Sx.retN (.inl rfl) rfl (.cons (.tmp rfl) (.cons (.tmp rfl) .nil)) rfl fun W s => ⟨?_,s.ext⟩
  first
   | (rfl)
 skip
 refine .gd Z Z<|.yv (.loadW Z Fx.agg68 (.head _) Z) Z<|.gd Z Z<|.yv (.call Fx.call20 Z (fun W s => checkExpr_any H G (.mk op nm nn args) _ he hd W s.agr)) Z<|.gd Z Z<|.yv (.neq Z Z) Z<|.yv (.pickF Z Z) Z<|.nt<|.cd Z (fun h32 => ?_) (fun h32 => ?_)
 ·skip
  refine .sr<|.a Z Z<|.a Z Z<|.nt<|.rt<|.tR<|?_
  refine Sx.retN (.inl rfl) rfl (.cons (.tmp rfl) (.cons (.tmp rfl) .nil)) rfl fun W s => ⟨?_,s.ext⟩
  first
   | (rfl)
 exact absurd hbad (by have a1 := of_decide_eq_false h17;have a2 := of_decide_eq_false h21;have a3 := of_decide_eq_false h28;have a4 := of_decide_eq_false h32;omega)
set_option maxRecDepth 100000 in
theorem typeOf_good (H : Hp) (G : Gl H) (f : Ft) (cs : List Value) (h : Rep H (dFt .u8 f) cs) (hok : evH okH f = true) (v3 : Value) (e : Ex) (ces : List Value) (he : Rep H (dEx .u8 e) ces) (hd : e.depth ≤ 1000000) (k : Nat) (hk : k < f.comps.length) (c : Cp) (hxE : f.comps[k] = c) (h0 : checkF f = 0) (hE0 : checkE e = 0) (ps : List Str) (k3' : Rep H (.seq 1 (ps.map dStrL)) [v3]) (w : World) (hA : Agr H w) :
 Calls Tryz.prog 18 #[.agg cs.toArray,.int .i64 (k : Nat),v3,.agg ces.toArray] w fun r w' => r = .returned (.tuple #[.int .u8 (tyE ⟨f.flags,c.vars,ps⟩ e).ty.toNat,.int .i64 ((tyE ⟨f.flags,c.vars,ps⟩ e).er : Nat)]) ∧ Ext w w' := by
 obtain ⟨p1,c1,p2,c2,p3,c3,rfl,hn,h1,h2,h3⟩ := ft_open h
 have hcap := h3.cap
 obtain ⟨op,nm,nn,args⟩ := e
 obtain ⟨pe,ce,rfl,_,_⟩ := ex_open he
 obtain ⟨pp,cp,ep,_⟩ := k3'.sl
 simp only [List.cons.injEq,and_true,List.length_map] at ep
 subst ep
 have k3 := k3'
 obtain ⟨bE,oE,cE,hpE,rE,lE,mE⟩ := h3.elem (map_at (f := dCp .u8) hk)
 cases hpE
 rw [hxE] at rE
 obtain ⟨q1,d1,q2,d2,rfl,hnx,g1,g2⟩ := cp_open rE
 refine Sx.enter (H := H) Tryz.func18 rfl Tryz.ntmps18 rfl hA ?_
 refine .sr<|.bx Z Z Z fun b4 => .bx Z Z Z fun b7 => .a Z Z<|.a Z Z<|.nt<|.sq<|.sr<|.yv (.loadW Z Fx.agg37 (.tail _<|.head _) Z) Z<|.yv (.call Fx.call10 Z (fun W s => check_any H G f _ h hok W s.agr)) Z<|.yv (.neq Z Z) Z<|.m Z Z<|.b2 (fun h17 => ?_) (fun h17 => ?_)
 ·exact absurd (of_decide_eq_true h17) (by omega)
 skip
 refine .gd Z Z<|.yv (.move Z) Z<|.gd Z Z<|.yv (.lss Z Z) Z<|.yv (.pickF Z Z) Z<|.m Z Z<|.b2 (fun h21 => ?_) (fun h21 => ?_)
 ·exact absurd (of_decide_eq_true h21) (by omega)
 skip
 refine .gd Z Z<|.yv (.move Z) Z<|.gd Z Z<|.yv (.fieldAddr Z Fx.field37_3) Z<|.gd Z Z<|.yv (.load Z Fx.agg35 (.tail _<|.head _) Z) Z<|.gd Z Z<|.yv (.lenSl Fx.sl35 Z) Z<|.gd Z Z<|.yv (.geq Z Z) Z<|.yv (.pickF Z Z) Z<|.m Z Z<|.b2 (fun h28 => ?_) (fun h28 => ?_)
 ·exact absurd (of_decide_eq_true h28) (by omega)
 skip
 refine .gd Z Z<|.yv (.loadW Z Fx.agg68 (.head _) Z) Z<|.gd Z Z<|.yv (.call Fx.call20 Z (fun W s => checkExpr_any H G (.mk op nm nn args) _ he hd W s.agr)) Z<|.gd Z Z<|.yv (.neq Z Z) Z<|.yv (.pickF Z Z) Z<|.nt<|.cd Z (fun h32 => ?_) (fun h32 => ?_)
 ·exact absurd (of_decide_eq_true h32) (by omega)
 skip
 refine .sk<|.tN<|.sq<|.fl (trip := [(_,_,_),(_,_,_),(_,_,_),(_,_,_),(_,_,_),(_,_,_),(_,_,_),(_,_,_),(_,_,_),(_,_,_),(_,_,_)]) 11 [(0,0),(1,0),(2,0),(3,0),(4,0),(5,0),(6,0),(7,0),(8,0),(9,0),(10,1)] (by kernel_rfl) (by kernel_rfl) Z<|.yv (.fieldAddr Z Fx.field37_1) Z<|.yv (.load Z Fx.agg33 (.tail _<|.head _) Z) Z<|.yv (.fieldAddr Z Fx.field37_3) Z<|.yv (.load Z Fx.agg35 (.tail _<|.head _) Z) Z<|.m Z Z<|.yv (.indexSl Fx.sl35 Z Z Z (by omega) (q := oE + k * 3) Z) Z<|.yv (.fieldAddr Z Fx.field96_1) Z<|.yv (.loadM Z Fx.agg93 mE (k := 1) Z Z) Z<|.m Z Z<|.yv (.build Z (Fx.bld134_0_1_2 _ _ _ _ _ _ _ _ _)) Z<|.al Fx.zero134 Z fun b10 => .fn (tl := [_]) Z<|.sW .head Z Z Fx.size134 (by simp [Value.oneCell',strV]) Z<|.ns<|.yv (.loadW Z Fx.agg134 (.head _) Z) Z<|.yv (.loadW Z Fx.agg68 (.tail _<|.head _) Z) Z<|.yv (.call Fx.call44 Z (fun W s => typeOf_any H ⟨f.flags,c.vars,ps⟩ _ ⟨_,_,_,_,_,_,rfl,h1,g1,k3⟩ (.mk op nm nn args) _ W he s.agr)) Z<|.m Z Z<|.yv (.extract Z Z) Z<|.yv (.extract Z Z) Z<|.yv (.extract Z Z) Z<|.a Z Z<|.a Z Z<|.a Z Z<|.ns<|.m Z Z<|.m Z Z<|.a Z Z<|.a Z Z<|.nt<|.rt<|?_
 refine Sx.retN (.inl rfl) rfl (.cons (.tmp rfl) (.cons (.tmp rfl) .nil)) rfl fun W s => ⟨?_,s.ext⟩
 first
  | (rfl)
end Go.Proofs.YtohfacbajcenoaaGreatDoor
namespace Go.Sx
open Go.RowKit Go.Par
section
variable {P : Program} {L : Sl} {H : Hp} {w0 : World} {bs : List Res} {ops : Array Oper}
variable {ty : TypeId} {pos : String} {aft : Array Edge} {t : Tmp}
variable {N hn i k : Nat} {pa : List (Nat × Oper × Value)} {E : Sl → Hp → List Res → Prop} {r : List (Nat × Nat × Oper)} {T : TypeId}
end
end Go.Sx
namespace Go.Proofs.YtohfacbajcenoaaGreatDoor
open Go.RowKit Go.Par Go.Sx
set_option maxHeartbeats 2000000 in
set_option maxRecDepth 100000 in
theorem bodyL_any (N : Nat) (hN : N ≤ 1000000) : ∀ (l : List Sm),okL N l → ∀ (H : Hp) (v : Value) (w : World),Rep H (.seq 6 (l.map (dSm .i64))) [v] → Agr H w →
 Calls Tryz.prog 24 #[v] w fun r w' => ∃ (y : Value) (H' : Hp),Rep H' (.seq 6 (l.map (dSm .u8))) [y] ∧ r = .returned y ∧ Grow H w H' w' := by
 refine Sm.lists fun l ih => ?_
 intro hok H v w hs hA
 obtain ⟨p,c,e,_⟩ := hs.sl
 simp only [List.cons.injEq,and_true,List.length_map] at e
 subst e
 have hcap := hs.cap
 have hll := hok.len
 refine Sx.enter (H := H) Tryz.func24 rfl Tryz.ntmps24 rfl hA ?_
 refine .sr<|.a Z Z<|.ns<|.a Z Z<|?_
 refine Sx.row0 150 6 ?_
 refine .nt<|.sq<|.sr<|.m Z Z<|.yv (.lenSl Fx.sl80 Z) Z<|.m Z Z<|.nt<|.bk<|.lp (X := Nat × Hp × Value × List Value) [(9,_),(10,_)] ⟨rfl,rfl,trivial⟩ [] (fun z => [(3,z.2.2.1),(11,.int .i64 (z.1 : Nat))]) (fun z => z.2.1) (fun z => [.row 150 6 z.2.2.1 z.1 z.2.2.2]) (fun z => z.1 ≤ l.length ∧ HUp w H z.2.1 ∧ RepZ z.2.1 6 ((l.take z.1).map (dSm .u8)) z.2.2.2) (fun z => l.length - z.1) (0,H,.slice none 0 0,[]) (fun _ s => s) ⟨rfl,rfl,trivial⟩ ⟨by simp,.refl,RepZ.nil⟩ fun z hC => ?_
 obtain ⟨k,H1,r,xs⟩ := z
 dsimp only at hC ⊢
 obtain ⟨hk0,u1,hz⟩ := hC
 refine .sr<|.yv (.lss Z Z) Z<|.nt<|.sq<|.cd Z (fun h12 => ?_) (fun h12 => ?_)
 ·try simp only [dt] at h12
  have hk : k < l.length := by omega
  obtain ⟨bE,oE,cE,hpE,rE,lE,mE⟩ := (hs.up u1.up).elem (map_at (f := dSm .i64) hk)
  cases hpE
  have hi := ih _ (List.getElem_mem hk)
  have hka := hok.at hk
  generalize hx : l[k] = x at rE hi hka
  obtain ⟨kd,nm,hd,ex,th,el⟩ := x
  obtain ⟨p1,c1,p2,c2,p3,c3,rfl,hs1,hs2,hs3,hn1,hn2⟩ := sm_open rE
  simp only [Sm.th,Sm.el] at hi
  obtain ⟨k1,k2,k3,k4,k5,k6,k7⟩ := okL_one.1 hka
  have hit := hi.1 ⟨by omega,by omega,k6⟩
  have hie := hi.2 ⟨by omega,by omega,k7⟩
  have hcap1 := hs1.cap
  refine .sk<|.tN<|.sq<|.bk<|.sr<|.yv (.indexSl Fx.sl80 Z Z Z (by omega) (q := oE + k * 6) Z) Z<|.yv (.loadMW Z Fx.agg85 mE Z) Z<|.al Fx.zero85 Z fun b5 => .sW .head Z Z Fx.size85 (by simp [Value.oneCell',strV]) Z<|.nt<|.sq<|.ft (p := .light _ _ (.light _ _ (.light _ _ (.light _ _ (.light _ _ (.light _ _ (.light _ _ (.light _ _ (.light _ _ (.light _ _ (.light _ _ (.alt _ _ _ (.alt _ _ _ (.light _ _ (.alt _ _ _ (.done) (.no))) (.alt _ _ _ (.alt _ _ _ (.light _ _ (.done)) (.no)) (.no))) (.alt _ _ _ (.alt _ _ _ (.alt _ _ _ (.light _ _ (.done)) (.no)) (.no)) (.no)))))))))))))) 15 (.light 0 (.light 1 (.light 2 (.light 3 (.light 4 (.light 5 (.light 6 (.light 7 (.light 8 (.light 10 (.light 11 (.alt 9 0 (.alt 12 0 (.light 13 (.alt 14 0 (.done) (.no))) (.alt 14 0 (.alt 12 0 (.light 13 (.done)) (.no)) (.no))) (.alt 14 0 (.alt 9 0 (.alt 12 0 (.light 13 (.done)) (.no)) (.no)) (.no)))))))))))))) (by kernel_rfl) (by kernel_rfl) Z<|.yv (.fieldAddr Z Fx.field85_0) Z<|.yv (.load Z Fx.agg3 (.head _) Z) Z<|.yv (.conv Z Fx.int3 Fx.int148 (c := (kd.toNat : Nat)) (by have := kd.toNat_lt;simp only [IntKind.wrap,IntKind.signed,IntKind.bits];simp;omega)) Z<|.yv (.fieldAddr Z Fx.field85_1) Z<|.yv (.load Z Fx.agg9 (.head _) Z) Z<|.yv (.fieldAddr Z Fx.field85_2) Z<|.yv (.load Z Fx.agg9 (.head _) Z) Z<|.yv (.fieldAddr Z Fx.field85_4) Z<|.yv (.load Z Fx.agg80 (.head _) Z) Z<|.yv (.fieldAddr Z Fx.field85_5) Z<|.yv (.load Z Fx.agg80 (.head _) Z) Z<|.h ?_ (.h ?_ .nn)
  ·
   refine .ct (X := Value) Fx.call24 Z (fun W s => hit H1 _ W hs2 s.agr) Z fun y24 H24 hy24 u24 => ?_
   obtain ⟨q24,d24,e24,_⟩ := hy24.sl
   simp only [List.cons.injEq,and_true,List.length_map] at e24
   subst e24
   refine .h ?_ (.h ?_ .nn)
   ·
    refine .ct (X := Value) Fx.call24 Z (fun W s => hie H24 _ W (hs3.up u24.up) s.agr) Z fun y27 H27 hy27 u27 => ?_
    obtain ⟨q27,d27,e27,_⟩ := hy27.sl
    simp only [List.cons.injEq,and_true,List.length_map] at e27
    subst e27
    have u5 := u24.trans u27
    have hs1b := hs1.up u5.up
    have hy24b := hy24.up u27.up
    refine .yv (.build Z (Fx.bld150_0_1_2_4_5 _ _ _ _ _ _ _ _ _)) Z<|.h1<|.al Fx.zero150 Z fun b6 => .fn (tl := [_]) Z<|.sW .head Z Z Fx.size150 (by simp [Value.oneCell',strV]) Z<|.nt<|.sq<|.sr<|.yv (.fieldAddr Z Fx.field85_3) Z<|.yv (.load Z Fx.agg56 (.tail _<|.head _) Z) Z<|.yv (.lenSl Fx.sl56 Z) Z<|.m Z Z<|?_
    refine Sx.row0 68 4 ?_
    refine .nt<|.bk<|.lp (X := Nat × Hp × Value × List Value) [(3,_),(6,_),(9,_),(10,_),(11,_),(30,_),(31,_)] ⟨rfl,rfl,rfl,rfl,rfl,rfl,rfl,trivial⟩ [_,_] (fun z => [(32,.int .i64 (z.1 : Nat))]) (fun z => z.2.1) (fun z => [.row 68 4 z.2.2.1 z.1 z.2.2.2,.box b6 [.int .u8 kd.toNat,strV nm,strV hd,z.2.2.1,.slice q24 th.length d24,.slice q27 el.length d27] 150]) (fun z => z.1 ≤ ex.length ∧ HUp w H27 z.2.1 ∧ RepZ z.2.1 4 ((ex.take z.1).map (dEx .u8)) z.2.2.2) (fun z => ex.length - z.1) (0,H27,.slice none 0 0,[]) (fun _ s => s) ⟨rfl,trivial⟩ ⟨by simp,.refl,RepZ.nil⟩ fun z hC => ?_
    obtain ⟨j,H3,re,ys⟩ := z
    dsimp only at hC ⊢
    obtain ⟨hj0,u3,hze⟩ := hC
    refine .sr<|.yv (.lss Z Z) Z<|.nt<|.sq<|.cd Z (fun h33 => ?_) (fun h33 => ?_)
    ·try simp only [dt] at h33
     have hj : j < ex.length := by omega
     obtain ⟨bF,oF,cF,hpF,rF,lF,mF⟩ := (hs1b.up u3.up).elem (map_at (f := dEx .i64) hj)
     cases hpF
     have hnj : Ex.all narrow ex[j] = true := by
      have := List.all_eq_true.1 k5 _ (List.getElem_mem hj)
      simp only [okE,Bool.and_eq_true] at this
      exact this.2
     refine .sk<|.tN<|.sq<|.bk<|.sr<|.yv (.indexSl Fx.sl56 Z Z Z (by omega) (q := oF + j * 4) Z) Z<|.yv (.loadMW Z Fx.agg58 mF lF) Z<|.al Fx.zero58 Z fun b8 => .sV .head Z Z Fx.size58 lF rF.one Z<|.nt<|.fl (trip := [(_,_,_),(_,_,_),(_,_,_),(_,_,_),(_,_,_)]) 5 [(0,0),(1,0),(2,0),(3,1),(4,1)] (by kernel_rfl) (by kernel_rfl) Z<|.yv (.fieldAddr Z Fx.field150_3) Z<|.yv (.load Z Fx.agg66 (.tail _<|.tail _<|.head _) Z) Z<|.yv (.loadW Z Fx.agg58 (.head _) lF) Z<|.ct (X := List Value) Fx.call51 Z (fun W s => expr_any _ hnj H3 cF W rF s.agr) Z fun x39 H39 hx39 u39 => ?_
     generalize hxj : ex[j] = xj at hx39
     obtain ⟨op2,nm2,n2,args2⟩ := xj
     obtain ⟨pz,cz,rfl,hz2,hnm2⟩ := ex_open hx39
     exact .bl Z (Fx.bsl66_1 _ _ _ _) Z fun b40 => .fn (tl := [_,_,_]) Z<|.ap (news := [.int .u8 op2.toNat,strV nm2,.int .i64 n2.toInt,.slice pz args2.length cz]) Fx.row66 Z (fun _ => (.tail<|.tail<|.head)) Z (.box (.head _) z0) Z (by simp [Value.oneCell',strV]) (by simp [maxLen];omega) (by omega) Z fun r41 _ => .ra (.tail _<|.tail _<|.head _) fun p41 c41 e41 => .yv (.fieldAddr Z Fx.field150_3) Z<|.st (.tail<|.tail<|.tail<|.head) Z Z Fx.size66 (by rw [e41];rfl) (nb Z) Z<|.nl<|.bN<|.tN<|.rg<|.yv (.add Z Z (w6 (by omega))) Z<|.m Z Z<|.nt<|.ag (x := (j,H3,re,ys)) (j + 1,H39,r41,ys ++ [.int .u8 op2.toNat,strV nm2,.int .i64 n2.toInt,.slice pz args2.length cz]) ⟨rfl,trivial⟩ ⟨rfl,rfl,rfl,rfl,rfl,rfl,rfl,trivial⟩ (fun _ s => (s.pick [2,3,4,5] _ Z Z)) ⟨by dsimp only;omega,u3.trans u39,by dsimp only;rw [take_snoc hj,hxj,List.map_append];exact (hze.up u39.up).snoc hx39 Z⟩ (by dsimp only;omega)
    try simp only [df] at h33
    obtain rfl : j = ex.length := by omega
    rw [List.take_length] at hze
    refine Sx.freezeSeq (ds := ex.map (dEx .u8)) (by simp) hze fun H3 pX cX u6 eX hX => ?_
    subst eX
    have uX := u5.trans (u3.trans u6)
    have hy24X := hy24b.up (u3.trans u6).up
    have hy27X := hy27.up (u3.trans u6).up
    exact .ex<|.tE<|.tE<|.bE<|.tN<|.rg<|.m Z Z<|.yv (.loadW Z Fx.agg150 (.head _) Z) Z<|.bl Z (Fx.bsl104_1 _ _ _ _ _ _) Z fun b46 => .ap (news := [.int .u8 kd.toNat,strV nm,strV hd,.slice pX ex.length cX,.slice q24 th.length d24,.slice q27 el.length d27]) Fx.row104 Z (fun _ => (.tail<|.tail<|.tail<|.head)) Z (.box (.head _) z0) Z (by simp [Value.oneCell',strV]) (by simp [maxLen];omega) (by omega) Z fun r47 _ => .a Z Z<|.nl<|.bN<|.tN<|.rg<|.yv (.add Z Z (w6 (by omega))) Z<|.m Z Z<|.nt<|.ag (x := (k,H1,r,xs)) (k + 1,H3,r47,xs ++ [.int .u8 kd.toNat,strV nm,strV hd,.slice pX ex.length cX,.slice q24 th.length d24,.slice q27 el.length d27]) ⟨rfl,rfl,trivial⟩ ⟨rfl,rfl,trivial⟩ (fun _ s => (s.pick [3] _ Z Z)) ⟨by dsimp only;omega,u1.trans uX,by dsimp only;rw [take_snoc hk,hx,List.map_append];exact (hz.up uX.up).snoc (sm_shut (by omega) (by omega) hX hy24X hy27X) Z⟩ (by dsimp only;omega)
   refine .al Fx.zero150 Z fun b6 => .h1<|.ct (X := Value) Fx.call24 Z (fun W s => hie H24 _ W (hs3.up u24.up) s.agr) Z fun y27 H27 hy27 u27 => ?_
   obtain ⟨q27,d27,e27,_⟩ := hy27.sl
   simp only [List.cons.injEq,and_true,List.length_map] at e27
   subst e27
   have u5 := u24.trans u27
   have hs1b := hs1.up u5.up
   have hy24b := hy24.up u27.up
   refine .yv (.build Z (Fx.bld150_0_1_2_4_5 _ _ _ _ _ _ _ _ _)) Z<|.fn (tl := [_]) Z<|.sW .head Z Z Fx.size150 (by simp [Value.oneCell',strV]) Z<|.nt<|.sq<|.sr<|.yv (.fieldAddr Z Fx.field85_3) Z<|.yv (.load Z Fx.agg56 (.tail _<|.head _) Z) Z<|.yv (.lenSl Fx.sl56 Z) Z<|.m Z Z<|?_
   refine Sx.row0 68 4 ?_
   refine .nt<|.bk<|.lp (X := Nat × Hp × Value × List Value) [(3,_),(6,_),(9,_),(10,_),(11,_),(30,_),(31,_)] ⟨rfl,rfl,rfl,rfl,rfl,rfl,rfl,trivial⟩ [_,_] (fun z => [(32,.int .i64 (z.1 : Nat))]) (fun z => z.2.1) (fun z => [.row 68 4 z.2.2.1 z.1 z.2.2.2,.box b6 [.int .u8 kd.toNat,strV nm,strV hd,z.2.2.1,.slice q24 th.length d24,.slice q27 el.length d27] 150]) (fun z => z.1 ≤ ex.length ∧ HUp w H27 z.2.1 ∧ RepZ z.2.1 4 ((ex.take z.1).map (dEx .u8)) z.2.2.2) (fun z => ex.length - z.1) (0,H27,.slice none 0 0,[]) (fun _ s => s) ⟨rfl,trivial⟩ ⟨by simp,.refl,RepZ.nil⟩ fun z hC => ?_
   obtain ⟨j,H3,re,ys⟩ := z
   dsimp only at hC ⊢
   obtain ⟨hj0,u3,hze⟩ := hC
   refine .sr<|.yv (.lss Z Z) Z<|.nt<|.sq<|.cd Z (fun h33 => ?_) (fun h33 => ?_)
   ·try simp only [dt] at h33
    have hj : j < ex.length := by omega
    obtain ⟨bF,oF,cF,hpF,rF,lF,mF⟩ := (hs1b.up u3.up).elem (map_at (f := dEx .i64) hj)
    cases hpF
    have hnj : Ex.all narrow ex[j] = true := by
     have := List.all_eq_true.1 k5 _ (List.getElem_mem hj)
     simp only [okE,Bool.and_eq_true] at this
     exact this.2
    refine .sk<|.tN<|.sq<|.bk<|.sr<|.yv (.indexSl Fx.sl56 Z Z Z (by omega) (q := oF + j * 4) Z) Z<|.yv (.loadMW Z Fx.agg58 mF lF) Z<|.al Fx.zero58 Z fun b8 => .sV .head Z Z Fx.size58 lF rF.one Z<|.nt<|.fl (trip := [(_,_,_),(_,_,_),(_,_,_),(_,_,_),(_,_,_)]) 5 [(0,0),(1,0),(2,0),(3,1),(4,1)] (by kernel_rfl) (by kernel_rfl) Z<|.yv (.fieldAddr Z Fx.field150_3) Z<|.yv (.load Z Fx.agg66 (.tail _<|.tail _<|.head _) Z) Z<|.yv (.loadW Z Fx.agg58 (.head _) lF) Z<|.ct (X := List Value) Fx.call51 Z (fun W s => expr_any _ hnj H3 cF W rF s.agr) Z fun x39 H39 hx39 u39 => ?_
    generalize hxj : ex[j] = xj at hx39
    obtain ⟨op2,nm2,n2,args2⟩ := xj
    obtain ⟨pz,cz,rfl,hz2,hnm2⟩ := ex_open hx39
    exact .bl Z (Fx.bsl66_1 _ _ _ _) Z fun b40 => .fn (tl := [_,_,_]) Z<|.ap (news := [.int .u8 op2.toNat,strV nm2,.int .i64 n2.toInt,.slice pz args2.length cz]) Fx.row66 Z (fun _ => (.tail<|.tail<|.head)) Z (.box (.head _) z0) Z (by simp [Value.oneCell',strV]) (by simp [maxLen];omega) (by omega) Z fun r41 _ => .ra (.tail _<|.tail _<|.head _) fun p41 c41 e41 => .yv (.fieldAddr Z Fx.field150_3) Z<|.st (.tail<|.tail<|.tail<|.head) Z Z Fx.size66 (by rw [e41];rfl) (nb Z) Z<|.nl<|.bN<|.tN<|.rg<|.yv (.add Z Z (w6 (by omega))) Z<|.m Z Z<|.nt<|.ag (x := (j,H3,re,ys)) (j + 1,H39,r41,ys ++ [.int .u8 op2.toNat,strV nm2,.int .i64 n2.toInt,.slice pz args2.length cz]) ⟨rfl,trivial⟩ ⟨rfl,rfl,rfl,rfl,rfl,rfl,rfl,trivial⟩ (fun _ s => (s.pick [2,3,4,5] _ Z Z)) ⟨by dsimp only;omega,u3.trans u39,by dsimp only;rw [take_snoc hj,hxj,List.map_append];exact (hze.up u39.up).snoc hx39 Z⟩ (by dsimp only;omega)
   try simp only [df] at h33
   obtain rfl : j = ex.length := by omega
   rw [List.take_length] at hze
   refine Sx.freezeSeq (ds := ex.map (dEx .u8)) (by simp) hze fun H3 pX cX u6 eX hX => ?_
   subst eX
   have uX := u5.trans (u3.trans u6)
   have hy24X := hy24b.up (u3.trans u6).up
   have hy27X := hy27.up (u3.trans u6).up
   exact .ex<|.tE<|.tE<|.bE<|.tN<|.rg<|.m Z Z<|.yv (.loadW Z Fx.agg150 (.head _) Z) Z<|.bl Z (Fx.bsl104_1 _ _ _ _ _ _) Z fun b46 => .ap (news := [.int .u8 kd.toNat,strV nm,strV hd,.slice pX ex.length cX,.slice q24 th.length d24,.slice q27 el.length d27]) Fx.row104 Z (fun _ => (.tail<|.tail<|.tail<|.head)) Z (.box (.head _) z0) Z (by simp [Value.oneCell',strV]) (by simp [maxLen];omega) (by omega) Z fun r47 _ => .a Z Z<|.nl<|.bN<|.tN<|.rg<|.yv (.add Z Z (w6 (by omega))) Z<|.m Z Z<|.nt<|.ag (x := (k,H1,r,xs)) (k + 1,H3,r47,xs ++ [.int .u8 kd.toNat,strV nm,strV hd,.slice pX ex.length cX,.slice q24 th.length d24,.slice q27 el.length d27]) ⟨rfl,rfl,trivial⟩ ⟨rfl,rfl,trivial⟩ (fun _ s => (s.pick [3] _ Z Z)) ⟨by dsimp only;omega,u1.trans uX,by dsimp only;rw [take_snoc hk,hx,List.map_append];exact (hz.up uX.up).snoc (sm_shut (by omega) (by omega) hX hy24X hy27X) Z⟩ (by dsimp only;omega)
  refine .al Fx.zero150 Z fun b6 => .h1<|.ct (X := Value) Fx.call24 Z (fun W s => hit H1 _ W hs2 s.agr) Z fun y24 H24 hy24 u24 => ?_
  obtain ⟨q24,d24,e24,_⟩ := hy24.sl
  simp only [List.cons.injEq,and_true,List.length_map] at e24
  subst e24
  refine .h1<|.ct (X := Value) Fx.call24 Z (fun W s => hie H24 _ W (hs3.up u24.up) s.agr) Z fun y27 H27 hy27 u27 => ?_
  obtain ⟨q27,d27,e27,_⟩ := hy27.sl
  simp only [List.cons.injEq,and_true,List.length_map] at e27
  subst e27
  have u5 := u24.trans u27
  have hs1b := hs1.up u5.up
  have hy24b := hy24.up u27.up
  refine .yv (.build Z (Fx.bld150_0_1_2_4_5 _ _ _ _ _ _ _ _ _)) Z<|.fn (tl := [_]) Z<|.sW .head Z Z Fx.size150 (by simp [Value.oneCell',strV]) Z<|.nt<|.sq<|.sr<|.yv (.fieldAddr Z Fx.field85_3) Z<|.yv (.load Z Fx.agg56 (.tail _<|.head _) Z) Z<|.yv (.lenSl Fx.sl56 Z) Z<|.m Z Z<|?_
  refine Sx.row0 68 4 ?_
  refine .nt<|.bk<|.lp (X := Nat × Hp × Value × List Value) [(3,_),(6,_),(9,_),(10,_),(11,_),(30,_),(31,_)] ⟨rfl,rfl,rfl,rfl,rfl,rfl,rfl,trivial⟩ [_,_] (fun z => [(32,.int .i64 (z.1 : Nat))]) (fun z => z.2.1) (fun z => [.row 68 4 z.2.2.1 z.1 z.2.2.2,.box b6 [.int .u8 kd.toNat,strV nm,strV hd,z.2.2.1,.slice q24 th.length d24,.slice q27 el.length d27] 150]) (fun z => z.1 ≤ ex.length ∧ HUp w H27 z.2.1 ∧ RepZ z.2.1 4 ((ex.take z.1).map (dEx .u8)) z.2.2.2) (fun z => ex.length - z.1) (0,H27,.slice none 0 0,[]) (fun _ s => s) ⟨rfl,trivial⟩ ⟨by simp,.refl,RepZ.nil⟩ fun z hC => ?_
  obtain ⟨j,H3,re,ys⟩ := z
  dsimp only at hC ⊢
  obtain ⟨hj0,u3,hze⟩ := hC
  refine .sr<|.yv (.lss Z Z) Z<|.nt<|.sq<|.cd Z (fun h33 => ?_) (fun h33 => ?_)
  ·try simp only [dt] at h33
   have hj : j < ex.length := by omega
   obtain ⟨bF,oF,cF,hpF,rF,lF,mF⟩ := (hs1b.up u3.up).elem (map_at (f := dEx .i64) hj)
   cases hpF
   have hnj : Ex.all narrow ex[j] = true := by
    have := List.all_eq_true.1 k5 _ (List.getElem_mem hj)
    simp only [okE,Bool.and_eq_true] at this
    exact this.2
   refine .sk<|.tN<|.sq<|.bk<|.sr<|.yv (.indexSl Fx.sl56 Z Z Z (by omega) (q := oF + j * 4) Z) Z<|.yv (.loadMW Z Fx.agg58 mF lF) Z<|.al Fx.zero58 Z fun b8 => .sV .head Z Z Fx.size58 lF rF.one Z<|.nt<|.fl (trip := [(_,_,_),(_,_,_),(_,_,_),(_,_,_),(_,_,_)]) 5 [(0,0),(1,0),(2,0),(3,1),(4,1)] (by kernel_rfl) (by kernel_rfl) Z<|.yv (.fieldAddr Z Fx.field150_3) Z<|.yv (.load Z Fx.agg66 (.tail _<|.tail _<|.head _) Z) Z<|.yv (.loadW Z Fx.agg58 (.head _) lF) Z<|.ct (X := List Value) Fx.call51 Z (fun W s => expr_any _ hnj H3 cF W rF s.agr) Z fun x39 H39 hx39 u39 => ?_
   generalize hxj : ex[j] = xj at hx39
   obtain ⟨op2,nm2,n2,args2⟩ := xj
   obtain ⟨pz,cz,rfl,hz2,hnm2⟩ := ex_open hx39
   exact .bl Z (Fx.bsl66_1 _ _ _ _) Z fun b40 => .fn (tl := [_,_,_]) Z<|.ap (news := [.int .u8 op2.toNat,strV nm2,.int .i64 n2.toInt,.slice pz args2.length cz]) Fx.row66 Z (fun _ => (.tail<|.tail<|.head)) Z (.box (.head _) z0) Z (by simp [Value.oneCell',strV]) (by simp [maxLen];omega) (by omega) Z fun r41 _ => .ra (.tail _<|.tail _<|.head _) fun p41 c41 e41 => .yv (.fieldAddr Z Fx.field150_3) Z<|.st (.tail<|.tail<|.tail<|.head) Z Z Fx.size66 (by rw [e41];rfl) (nb Z) Z<|.nl<|.bN<|.tN<|.rg<|.yv (.add Z Z (w6 (by omega))) Z<|.m Z Z<|.nt<|.ag (x := (j,H3,re,ys)) (j + 1,H39,r41,ys ++ [.int .u8 op2.toNat,strV nm2,.int .i64 n2.toInt,.slice pz args2.length cz]) ⟨rfl,trivial⟩ ⟨rfl,rfl,rfl,rfl,rfl,rfl,rfl,trivial⟩ (fun _ s => (s.pick [2,3,4,5] _ Z Z)) ⟨by dsimp only;omega,u3.trans u39,by dsimp only;rw [take_snoc hj,hxj,List.map_append];exact (hze.up u39.up).snoc hx39 Z⟩ (by dsimp only;omega)
  try simp only [df] at h33
  obtain rfl : j = ex.length := by omega
  rw [List.take_length] at hze
  refine Sx.freezeSeq (ds := ex.map (dEx .u8)) (by simp) hze fun H3 pX cX u6 eX hX => ?_
  subst eX
  have uX := u5.trans (u3.trans u6)
  have hy24X := hy24b.up (u3.trans u6).up
  have hy27X := hy27.up (u3.trans u6).up
  exact .ex<|.tE<|.tE<|.bE<|.tN<|.rg<|.m Z Z<|.yv (.loadW Z Fx.agg150 (.head _) Z) Z<|.bl Z (Fx.bsl104_1 _ _ _ _ _ _) Z fun b46 => .ap (news := [.int .u8 kd.toNat,strV nm,strV hd,.slice pX ex.length cX,.slice q24 th.length d24,.slice q27 el.length d27]) Fx.row104 Z (fun _ => (.tail<|.tail<|.tail<|.head)) Z (.box (.head _) z0) Z (by simp [Value.oneCell',strV]) (by simp [maxLen];omega) (by omega) Z fun r47 _ => .a Z Z<|.nl<|.bN<|.tN<|.rg<|.yv (.add Z Z (w6 (by omega))) Z<|.m Z Z<|.nt<|.ag (x := (k,H1,r,xs)) (k + 1,H3,r47,xs ++ [.int .u8 kd.toNat,strV nm,strV hd,.slice pX ex.length cX,.slice q24 th.length d24,.slice q27 el.length d27]) ⟨rfl,rfl,trivial⟩ ⟨rfl,rfl,trivial⟩ (fun _ s => (s.pick [3] _ Z Z)) ⟨by dsimp only;omega,u1.trans uX,by dsimp only;rw [take_snoc hk,hx,List.map_append];exact (hz.up uX.up).snoc (sm_shut (by omega) (by omega) hX hy24X hy27X) Z⟩ (by dsimp only;omega)
 try simp only [df] at h12
 obtain rfl : k = l.length := by omega
 rw [List.take_length] at hz
 refine .ex<|.tE<|.tE<|.bE<|.tN<|.sr<|.m Z Z<|.a Z Z<|.nt<|.rt<|?_
 refine Sx.freezeSeq (ds := l.map (dSm .u8)) (by simp) hz fun HZ pZ cZ uZ eZ hZ => ?_
 exact Sx.ret1 (.inl rfl) rfl (.tmp rfl) fun W t => ⟨r,HZ,hZ,rfl,(u1.trans uZ).grow t⟩
set_option maxHeartbeats 2000000 in
set_option maxRecDepth 100000 in
theorem syntax_any (N : Nat) (hN : N ≤ 1000000) (H : Hp) (f : Ft) (hok : okFt N f) (cs : List Value) (w : World) (h : Rep H (dFt .i64 f) cs) (hA : Agr H w) :
 Calls Tryz.prog 8 #[.agg cs.toArray] w fun r w' => ∃ (y : List Value) (H' : Hp),Rep H' (dFt .u8 f) y ∧ r = .returned (.agg y.toArray) ∧ Grow H w H' w' := by
 obtain ⟨p1,c1,p2,c2,p3,c3,rfl,nf,k1,k2,k3⟩ := ft_open h
 have hcap1 := k1.cap
 have hcap2 := k2.cap
 have hcap3 := k3.cap
 have hfl := hok.flags
 have hll := hok.links
 have hcl := hok.comps
 refine Sx.enter (H := H) Tryz.func8 rfl Tryz.ntmps8 rfl hA ?_
 refine .sr<|.bx Z Z Z fun b1 => .al Fx.zero37 Z fun b2 => .ns<|.yv (.fieldAddr Z Fx.field31_0) Z<|.yv (.load Z Fx.agg9 (.tail _<|.head _) Z) Z<|.yv (.build Z (Fx.bld37_0 _)) Z<|.al Fx.zero37 Z fun b3 => .sW .head Z Z Fx.size37 (by simp [Value.oneCell',strV]) Z<|.nt<|.sq<|.sr<|.yv (.fieldAddr Z Fx.field31_1) Z<|.yv (.load Z Fx.agg27 (.tail _<|.tail _<|.head _) Z) Z<|.yv (.lenSl Fx.sl27 Z) Z<|.m Z Z<|?_
 refine Sx.row0 89 2 ?_
 refine .nt<|.bk<|.lp (X := Nat × Value × List Value) [(1,_),(2,_),(3,_),(22,_),(23,_)] ⟨rfl,rfl,rfl,rfl,rfl,trivial⟩ [_,_] (fun z => [(24,.int .i64 (z.1 : Nat))]) (fun z => H) (fun z => [.row 89 2 z.2.1 z.1 z.2.2,.box b3 [strV f.nm,z.2.1,.slice none 0 0,.slice none 0 0] 37]) (fun z => z.1 ≤ f.flags.length ∧ RepZ H 2 ((f.flags.take z.1).map dFg) z.2.2) (fun z => f.flags.length - z.1) (0,.slice none 0 0,[]) (fun _ s => s) ⟨rfl,trivial⟩ ⟨by simp,RepZ.nil⟩ fun z hC => ?_
 obtain ⟨k,r,xs⟩ := z
 dsimp only at hC ⊢
 obtain ⟨hk0,hz⟩ := hC
 refine .sr<|.yv (.lss Z Z) Z<|.nt<|.sq<|.cd Z (fun h25 => ?_) (fun h25 => ?_)
 ·try simp only [dt] at h25
  have hk : k < f.flags.length := by omega
  obtain ⟨bE,oE,cE,hpE,rE,lE,mE⟩ := k1.elem (map_at (f := dFg) hk)
  cases hpE
  generalize hx : f.flags[k] = x at rE
  obtain ⟨rfl,nx⟩ := fg_open rE
  exact .sk<|.tN<|.sq<|.bk<|.sr<|.yv (.indexSl Fx.sl27 Z Z Z (by omega) (q := oE + k * 2) Z) Z<|.yv (.loadMW Z Fx.agg88 mE Z) Z<|.al Fx.zero88 Z fun b5 => .sW .head Z Z Fx.size88 (by simp [Value.oneCell',strV]) Z<|.nt<|.rg<|.yv (.fieldAddr Z Fx.field37_1) Z<|.yv (.load Z Fx.agg33 (.tail _<|.tail _<|.head _) Z) Z<|.yv (.fieldAddr Z Fx.field88_0) Z<|.yv (.load Z Fx.agg9 (.head _) Z) Z<|.yv (.fieldAddr Z Fx.field88_1) Z<|.yv (.load Z Fx.agg4 (.head _) Z) Z<|.yv (.build Z (Fx.bld89_0_1 _ _)) Z<|.bl Z (Fx.bsl33_1 _ _) Z fun b35 => .ap (news := [strV x.nm,.bool x.init]) Fx.row33 Z (fun _ => (.tail<|.tail<|.head)) Z (.box (.head _) z0) Z (by simp [Value.oneCell',strV]) (by simp [maxLen];omega) (by omega) Z fun r36 _ => .ra (.tail _<|.tail _<|.head _) fun p36 c36 e36 => .yv (.fieldAddr Z Fx.field37_1) Z<|.st (.tail<|.tail<|.tail<|.head) Z Z Fx.size33 (by rw [e36];rfl) (nb Z) Z<|.nl<|.bN<|.tN<|.rg<|.yv (.add Z Z (w6 (by omega))) Z<|.m Z Z<|.nt<|.ag (x := (k,r,xs)) (k + 1,r36,xs ++ [strV x.nm,.bool x.init]) ⟨rfl,trivial⟩ ⟨rfl,rfl,rfl,rfl,rfl,trivial⟩ (fun _ s => (s.pick [2,3,4,5] _ Z Z)) ⟨by dsimp only;omega,by dsimp only;rw [take_snoc hk,hx,List.map_append];exact hz.snoc (fg_shut (x := x) nx) Z⟩ (by dsimp only;omega)
 try simp only [df] at h25
 obtain rfl : k = f.flags.length := by omega
 rw [List.take_length] at hz
 refine Sx.freezeSeq (ds := f.flags.map dFg) (by simp) hz fun H4 p4 c4 u4 e4 h4 => ?_
 subst e4
 refine .ex<|.tE<|.tE<|.bE<|.tN<|.sq<|.sr<|.yv (.fieldAddr Z Fx.field31_2) Z<|.yv (.load Z Fx.agg28 (.tail _<|.tail _<|.head _) Z) Z<|.yv (.lenSl Fx.sl28 Z) Z<|.m Z Z<|?_
 refine Sx.row0 92 3 ?_
 have k24 := k2.up u4.up
 refine .nt<|.bk<|.lp (X := Nat × Value × List Value) [(1,_),(2,_),(3,_),(40,_),(41,_)] ⟨rfl,rfl,rfl,rfl,rfl,trivial⟩ [_,_] (fun z => [(42,.int .i64 (z.1 : Nat))]) (fun z => H4) (fun z => [.row 92 3 z.2.1 z.1 z.2.2,.box b3 [strV f.nm,.slice p4 f.flags.length c4,z.2.1,.slice none 0 0] 37]) (fun z => z.1 ≤ f.links.length ∧ RepZ H4 3 ((f.links.take z.1).map dLk) z.2.2) (fun z => f.links.length - z.1) (0,.slice none 0 0,[]) (fun _ s => s) ⟨rfl,trivial⟩ ⟨by simp,RepZ.nil⟩ fun z hC => ?_
 obtain ⟨k,r,xs⟩ := z
 dsimp only at hC ⊢
 obtain ⟨hk0,hz⟩ := hC
 refine .sr<|.yv (.lss Z Z) Z<|.nt<|.sq<|.cd Z (fun h43 => ?_) (fun h43 => ?_)
 ·try simp only [dt] at h43
  have hk : k < f.links.length := by omega
  obtain ⟨bE,oE,cE,hpE,rE,lE,mE⟩ := k24.elem (map_at (f := dLk) hk)
  cases hpE
  generalize hx : f.links[k] = x at rE
  obtain ⟨rfl,nx,nx2⟩ := lk_open rE
  exact .sk<|.tN<|.sq<|.bk<|.sr<|.yv (.indexSl Fx.sl28 Z Z Z (by omega) (q := oE + k * 3) Z) Z<|.yv (.loadMW Z Fx.agg91 mE Z) Z<|.al Fx.zero91 Z fun b7 => .sW .head Z Z Fx.size91 (by simp [Value.oneCell',strV]) Z<|.nt<|.rg<|.yv (.fieldAddr Z Fx.field37_2) Z<|.yv (.load Z Fx.agg34 (.tail _<|.tail _<|.head _) Z) Z<|.yv (.fieldAddr Z Fx.field91_0) Z<|.yv (.load Z Fx.agg9 (.head _) Z) Z<|.yv (.fieldAddr Z Fx.field91_1) Z<|.yv (.load Z Fx.agg9 (.head _) Z) Z<|.yv (.fieldAddr Z Fx.field91_2) Z<|.yv (.load Z Fx.agg3 (.head _) Z) Z<|.yv (.build Z (Fx.bld92_0_1_2 _ _ _)) Z<|.bl Z (Fx.bsl34_1 _ _ _) Z fun b55 => .ap (news := [strV x.fr,strV x.to,.int .i64 x.lat.toInt]) Fx.row34 Z (fun _ => (.tail<|.tail<|.head)) Z (.box (.head _) z0) Z (by simp [Value.oneCell',strV]) (by simp [maxLen];omega) (by omega) Z fun r56 _ => .ra (.tail _<|.tail _<|.head _) fun p56 c56 e56 => .yv (.fieldAddr Z Fx.field37_2) Z<|.st (.tail<|.tail<|.tail<|.head) Z Z Fx.size34 (by rw [e56];rfl) (nb Z) Z<|.nl<|.bN<|.tN<|.rg<|.yv (.add Z Z (w6 (by omega))) Z<|.m Z Z<|.nt<|.ag (x := (k,r,xs)) (k + 1,r56,xs ++ [strV x.fr,strV x.to,.int .i64 x.lat.toInt]) ⟨rfl,trivial⟩ ⟨rfl,rfl,rfl,rfl,rfl,trivial⟩ (fun _ s => (s.pick [2,3,4,5] _ Z Z)) ⟨by dsimp only;omega,by dsimp only;rw [take_snoc hk,hx,List.map_append];exact hz.snoc (lk_shut (x := x) nx nx2) Z⟩ (by dsimp only;omega)
 try simp only [df] at h43
 obtain rfl : k = f.links.length := by omega
 rw [List.take_length] at hz
 refine Sx.freezeSeq (ds := f.links.map dLk) (by simp) hz fun H5 p5 c5 u5 e5 h5 => ?_
 subst e5
 refine .ex<|.tE<|.tE<|.bE<|.tN<|.sq<|.sr<|.yv (.fieldAddr Z Fx.field31_3) Z<|.yv (.load Z Fx.agg29 (.tail _<|.tail _<|.head _) Z) Z<|.yv (.lenSl Fx.sl29 Z) Z<|.m Z Z<|?_
 refine Sx.row0 96 3 ?_
 have k35 := k3.up (u4.trans u5).up
 have h45 := h4.up u5.up
 refine .nt<|.bk<|.lp (X := Nat × Hp × Value × List Value) [(2,_),(3,_),(60,_),(61,_)] ⟨rfl,rfl,rfl,rfl,trivial⟩ [_,_] (fun z => [(62,.int .i64 (z.1 : Nat))]) (fun z => z.2.1) (fun z => [.row 96 3 z.2.2.1 z.1 z.2.2.2,.box b3 [strV f.nm,.slice p4 f.flags.length c4,.slice p5 f.links.length c5,z.2.2.1] 37]) (fun z => z.1 ≤ f.comps.length ∧ HUp w H5 z.2.1 ∧ RepZ z.2.1 3 ((f.comps.take z.1).map (dCp .u8)) z.2.2.2) (fun z => f.comps.length - z.1) (0,H5,.slice none 0 0,[]) (fun _ s => s) ⟨rfl,trivial⟩ ⟨by simp,.refl,RepZ.nil⟩ fun z hC => ?_
 obtain ⟨k,Ha,rc,xs⟩ := z
 dsimp only at hC ⊢
 obtain ⟨hk0,ua,hz⟩ := hC
 refine .sr<|.yv (.lss Z Z) Z<|.nt<|.sq<|.cd Z (fun h63 => ?_) (fun h63 => ?_)
 ·try simp only [dt] at h63
  have hk : k < f.comps.length := by omega
  obtain ⟨bE,oE,cE,hpE,rE,lE,mE⟩ := (k35.up ua.up).elem (map_at (f := dCp .i64) hk)
  cases hpE
  have okc := hok.all _ (List.getElem_mem hk)
  generalize hx : f.comps[k] = x at rE okc
  obtain ⟨q1,d1,q2,d2,rfl,nx,g1,g2⟩ := cp_open rE
  have hcv := g1.cap
  have hcr := g2.cap
  have hvl := okc.vars
  have hrl := okc.vers
  refine .sk<|.tN<|.sq<|.bk<|.sr<|.yv (.indexSl Fx.sl29 Z Z Z (by omega) (q := oE + k * 3) Z) Z<|.yv (.loadMW Z Fx.agg78 mE Z) Z<|.al Fx.zero78 Z fun b9 => .sW .head Z Z Fx.size78 (by simp [Value.oneCell',strV]) Z<|.ns<|.yv (.fieldAddr Z Fx.field78_0) Z<|.yv (.load Z Fx.agg9 (.head _) Z) Z<|.yv (.build Z (Fx.bld96_0 _)) Z<|.al Fx.zero96 Z fun b10 => .sW .head Z Z Fx.size96 (by simp [Value.oneCell',strV]) Z<|.nt<|.sq<|.sr<|.yv (.fieldAddr Z Fx.field78_1) Z<|.yv (.load Z Fx.agg75 (.tail _<|.head _) Z) Z<|.yv (.lenSl Fx.sl75 Z) Z<|.m Z Z<|?_
  refine Sx.row0 100 3 ?_
  refine .nt<|.bk<|.lp (X := Nat × Value × List Value) [(2,_),(3,_),(9,_),(10,_),(60,_),(61,_),(62,_),(70,_),(71,_)] ⟨rfl,rfl,rfl,rfl,rfl,rfl,rfl,rfl,rfl,trivial⟩ [_,_,_,_,_] (fun z => [(72,.int .i64 (z.1 : Nat))]) (fun z => Ha) (fun z => [.row 100 3 z.2.1 z.1 z.2.2,.box b10 [strV x.nm,z.2.1,.slice none 0 0] 96]) (fun z => z.1 ≤ x.vars.length ∧ RepZ Ha 3 ((x.vars.take z.1).map (dVr .u8)) z.2.2) (fun z => x.vars.length - z.1) (0,.slice none 0 0,[]) (fun _ s => s) ⟨rfl,trivial⟩ ⟨by simp,RepZ.nil⟩ fun z hC => ?_
  obtain ⟨j,rv,ys⟩ := z
  dsimp only at hC ⊢
  obtain ⟨hj0,hzv⟩ := hC
  refine .sr<|.yv (.lss Z Z) Z<|.nt<|.sq<|.cd Z (fun h73 => ?_) (fun h73 => ?_)
  ·try simp only [dt] at h73
   have hj : j < x.vars.length := by omega
   obtain ⟨bF,oF,cF,hpF,rF,lF,mF⟩ := g1.elem (map_at (f := dVr .i64) hj)
   cases hpF
   generalize hv : x.vars[j] = v at rF
   obtain ⟨rfl,nv⟩ := vr_open rF
   exact .sk<|.tN<|.sq<|.bk<|.sr<|.yv (.indexSl Fx.sl75 Z Z Z (by omega) (q := oF + j * 3) Z) Z<|.yv (.loadMW Z Fx.agg98 mF Z) Z<|.al Fx.zero98 Z fun b12 => .sW .head Z Z Fx.size98 (by simp [Value.oneCell',strV]) Z<|.nt<|.rg<|.yv (.fieldAddr Z Fx.field96_1) Z<|.yv (.load Z Fx.agg93 (.tail _<|.tail _<|.head _) Z) Z<|.yv (.fieldAddr Z Fx.field98_0) Z<|.yv (.load Z Fx.agg9 (.head _) Z) Z<|.yv (.fieldAddr Z Fx.field98_1) Z<|.yv (.load Z Fx.agg3 (.head _) Z) Z<|.yv (.conv Z Fx.int3 Fx.int62 (c := (v.ty.toNat : Nat)) (by have := v.ty.toNat_lt;simp only [IntKind.wrap,IntKind.signed,IntKind.bits];simp;omega)) Z<|.yv (.fieldAddr Z Fx.field98_2) Z<|.yv (.load Z Fx.agg2 (.head _) Z) Z<|.yv (.build Z (Fx.bld100_0_1_2 _ _ _)) Z<|.bl Z (Fx.bsl93_1 _ _ _) Z fun b86 => .ap (news := [strV v.nm,.int .u8 v.ty.toNat,.int .i64 v.init.toInt]) Fx.row93 Z (fun _ => (.tail<|.tail<|.head)) Z (.box (.head _) z0) Z (by simp [Value.oneCell',strV]) (by simp [maxLen];omega) (by omega) Z fun r87 _ => .ra (.tail _<|.tail _<|.head _) fun p87 c87 e87 => .yv (.fieldAddr Z Fx.field96_1) Z<|.st (.tail<|.tail<|.tail<|.head) Z Z Fx.size93 (by rw [e87];rfl) (nb Z) Z<|.nl<|.bN<|.tN<|.rg<|.yv (.add Z Z (w6 (by omega))) Z<|.m Z Z<|.nt<|.ag (x := (j,rv,ys)) (j + 1,r87,ys ++ [strV v.nm,.int .u8 v.ty.toNat,.int .i64 v.init.toInt]) ⟨rfl,trivial⟩ ⟨rfl,rfl,rfl,rfl,rfl,rfl,rfl,rfl,rfl,trivial⟩ (fun _ s => (s.pick [2,3,4,5,6,7,8] _ Z Z)) ⟨by dsimp only;omega,by dsimp only;rw [take_snoc hj,hv,List.map_append];exact hzv.snoc (vr_shut (x := v) nv) Z⟩ (by dsimp only;omega)
  try simp only [df] at h73
  obtain rfl : j = x.vars.length := by omega
  rw [List.take_length] at hzv
  refine Sx.freezeSeq (ds := x.vars.map (dVr .u8)) (by simp) hzv fun HV pV cV uV eV hV => ?_
  subst eV
  refine .ex<|.tE<|.tE<|.bE<|.tN<|.sq<|.sr<|.yv (.fieldAddr Z Fx.field78_2) Z<|.yv (.load Z Fx.agg76 (.tail _<|.head _) Z) Z<|.yv (.lenSl Fx.sl76 Z) Z<|.m Z Z<|?_
  refine Sx.row0 103 1 ?_
  refine .nt<|.bk<|.lp (X := Nat × Hp × Value × List Value) [(2,_),(3,_),(10,_),(60,_),(61,_),(62,_),(91,_),(92,_)] ⟨rfl,rfl,rfl,rfl,rfl,rfl,rfl,rfl,trivial⟩ [_,_,_,_,_] (fun z => [(93,.int .i64 (z.1 : Nat))]) (fun z => z.2.1) (fun z => [.row 103 1 z.2.2.1 z.1 z.2.2.2,.box b10 [strV x.nm,.slice pV x.vars.length cV,z.2.2.1] 96]) (fun z => z.1 ≤ x.vers.length ∧ HUp w HV z.2.1 ∧ RepZ z.2.1 1 ((x.vers.take z.1).map (dVs .u8)) z.2.2.2) (fun z => x.vers.length - z.1) (0,HV,.slice none 0 0,[]) (fun _ s => s) ⟨rfl,trivial⟩ ⟨by simp,.refl,RepZ.nil⟩ fun z hC => ?_
  obtain ⟨i,Hb,rs,ws⟩ := z
  dsimp only at hC ⊢
  obtain ⟨hi0,ub,hzs⟩ := hC
  refine .sr<|.yv (.lss Z Z) Z<|.nt<|.sq<|.cd Z (fun h94 => ?_) (fun h94 => ?_)
  ·try simp only [dt] at h94
   have hi : i < x.vers.length := by omega
   obtain ⟨bG,oG,cG,hpG,rG,lG,mG⟩ := (g2.up (uV.trans ub).up).elem (map_at (f := dVs .i64) hi)
   cases hpG
   have okv := okc.all _ (List.getElem_mem hi)
   generalize hxv : x.vers[i] = v at rG okv
   obtain ⟨pv,cv,rfl,gv⟩ := vs_open rG
   have hcw := gv.cap
   have hwl := okv.len
   refine .sk<|.tN<|.sq<|.bk<|.sr<|.yv (.indexSl Fx.sl76 Z Z (i := i) Z hi (q := oG + i * 1) Z) Z<|.yv (.loadM Z Fx.agg79 mG (k := 0) Z Z) Z<|.a Z Z<|.ns<|.al Fx.zero103 Z fun b15 => .nt<|.sq<|.sr<|.m Z Z<|.yv (.lenSl Fx.sl79 Z) Z<|.m Z Z<|?_
   refine Sx.row0 107 3 ?_
   refine .nt<|.bk<|.lp (X := Nat × Hp × Value × List Value) [(2,_),(3,_),(10,_),(15,_),(60,_),(61,_),(62,_),(91,_),(92,_),(93,_),(97,_),(98,_)] ⟨rfl,rfl,rfl,rfl,rfl,rfl,rfl,rfl,rfl,rfl,rfl,rfl,trivial⟩ [_,_,_,_,_,_,_] (fun z => [(99,.int .i64 (z.1 : Nat))]) (fun z => z.2.1) (fun z => [.row 107 3 z.2.2.1 z.1 z.2.2.2,.box b15 [z.2.2.1] 103]) (fun z => z.1 ≤ v.length ∧ HUp w Hb z.2.1 ∧ RepZ z.2.1 3 ((v.take z.1).map (dHd .u8)) z.2.2.2) (fun z => v.length - z.1) (0,Hb,.slice none 0 0,[]) (fun _ s => s) ⟨rfl,trivial⟩ ⟨by simp,.refl,RepZ.nil⟩ fun z hC => ?_
   obtain ⟨j,Hc,rh,zs⟩ := z
   dsimp only at hC ⊢
   obtain ⟨hj0,uc,hzh⟩ := hC
   refine .sr<|.yv (.lss Z Z) Z<|.nt<|.sq<|.cd Z (fun h100 => ?_) (fun h100 => ?_)
   ·try simp only [dt] at h100
    have hj : j < v.length := by omega
    obtain ⟨bI,oI,cI,hpI,rI,lI,mI⟩ := (gv.up uc.up).elem (map_at (f := dHd .i64) hj)
    cases hpI
    have okh := okv.all _ (List.getElem_mem hj)
    generalize hxh : v[j] = y at rI okh
    obtain ⟨t1,w1,t2,w2,rfl,ny,m1,m2⟩ := hd_open rI
    have hyl := okh.ps
    refine .sk<|.tN<|.sq<|.bk<|.sr<|.yv (.indexSl Fx.sl79 Z Z Z (by omega) (q := oI + j * 3) Z) Z<|.yv (.loadMW Z Fx.agg82 mI Z) Z<|.al Fx.zero82 Z fun b17 => .sW .head Z Z Fx.size82 (by simp [Value.oneCell',strV]) Z<|.nt<|?_
    refine Sx.row0 9 1 ?_
    refine .fl (trip := [(_,_,_),(_,_,_),(_,_,_),(_,_,_),(_,_,_),(_,_,_),(_,_,_),(_,_,_),(_,_,_),(_,_,_),(_,_,_),(_,_,_)]) 12 [(0,0),(1,0),(2,0),(3,0),(4,0),(5,0),(7,0),(8,0),(6,3),(9,1),(10,0),(11,1)] (by kernel_rfl) (by kernel_rfl) Z<|.yv (.fieldAddr Z Fx.field103_0) Z<|.yv (.load Z Fx.agg101 (.tail _<|.tail _<|.tail _<|.head _) Z) Z<|.yv (.fieldAddr Z Fx.field82_0) Z<|.yv (.load Z Fx.agg9 (.tail _<|.head _) Z) Z<|.yv (.fieldAddr Z Fx.field82_1) Z<|.yv (.load Z Fx.agg54 (.tail _<|.head _) Z) Z<|.yv (.fieldAddr Z Fx.field82_2) Z<|.yv (.load Z Fx.agg80 (.tail _<|.head _) Z) Z<|.apD0 Fx.row54 Z (fun _ _ => .head) Z m1 (by simp [maxLen];omega) (by omega) Z (fun _ _ => (.yv (.load Z Fx.agg80 (.tail _<|.head _) Z)<|.yv (.fieldAddr Z Fx.field82_2)<|.done (by kernel_rfl)<|.done (by kernel_rfl)<|.yv (.load Z Fx.agg9 (.tail _<|.head _) Z)<|.yv (.fieldAddr Z Fx.field82_0)<|.yv (.load Z Fx.agg101 (.tail _<|.tail _<|.tail _<|.head _) Z)<|.yv (.fieldAddr Z Fx.field103_0)<|.nl)) fun xs109 p109 c109 hz109 => .ct (X := Value) Fx.call24 Z (fun W t => bodyL_any N hN y.body okh.body Hc _ W m2 t.agr) Z fun y112 H112 hy112 u112 => ?_
    obtain ⟨pB,cB,eB,_⟩ := hy112.sl
    simp only [List.cons.injEq,and_true,List.length_map] at eB
    subst eB
    refine .yv (.build Z (Fx.bld107_0_1_2 _ _ _ _ _ _ _)) Z<|.bl Z (Fx.bsl101_1 _ _ _) Z fun b114 => .fn (tl := [_,_,_]) Z<|.ap (news := [strV y.nm,.slice p109 y.ps.length c109,.slice pB y.body.length cB]) Fx.row101 Z (fun _ => (.tail<|.tail<|.tail<|.head)) Z (.box (.head _) z0) Z (by simp [Value.oneCell',strV]) (by simp [maxLen];omega) (by omega) Z fun r115 _ => .ra (.tail _<|.tail _<|.tail _<|.head _) fun p115 c115 e115 => .yv (.fieldAddr Z Fx.field103_0) Z<|.st (.tail<|.tail<|.tail<|.tail<|.head) Z Z Fx.size101 (by rw [e115];rfl) (nb Z) Z<|?_
    refine At.pm [1,0,2,3,4,5,6,7,8,9,10,11] [_,_,_,_,_,_,_,_,_,_,_,_] rfl rfl ?_
    refine Sx.freezeSeq (ds := y.ps.map dStr) (by simp) (RepZ.up u112.up hz109) fun HP pP cP uP eP hP => ?_
    injection eP with eP1 _ eP2
    subst eP1
    subst eP2
    exact .nl<|.bN<|.tN<|.rg<|.yv (.add Z Z (w6 (by omega))) Z<|.m Z Z<|.nt<|.ag (x := (j,Hc,rh,zs)) (j + 1,HP,r115,zs ++ [strV y.nm,.slice p109 y.ps.length c109,.slice pB y.body.length cB]) ⟨rfl,trivial⟩ ⟨rfl,rfl,rfl,rfl,rfl,rfl,rfl,rfl,rfl,rfl,rfl,rfl,trivial⟩ (fun _ s => (s.pick [2,3,4,5,6,7,8,9,10] _ Z Z)) ⟨by dsimp only;omega,uc.trans (u112.trans uP),by dsimp only;rw [take_snoc hj,hxh,List.map_append];exact (hzh.up (u112.trans uP).up).snoc (hd_shut (x := y) ny hP (hy112.up uP.up)) Z⟩ (by dsimp only;omega)
   try simp only [df] at h100
   obtain rfl : j = v.length := by omega
   rw [List.take_length] at hzh
   refine Sx.freezeSeq (ds := v.map (dHd .u8)) (by simp) hzh fun HH pH cH uH eH hH => ?_
   subst eH
   have uh := uc.trans uH
   exact .ex<|.tE<|.tE<|.bE<|.tN<|.rg<|.yv (.fieldAddr Z Fx.field96_2) Z<|.yv (.load Z Fx.agg94 (.tail _<|.tail _<|.head _) Z) Z<|.yv (.loadW Z Fx.agg103 (.head _) Z) Z<|.bl Z (Fx.bsl94_1 _) Z fun b121 => .ap (news := [.slice pH v.length cH]) Fx.row94 Z (fun _ => (.tail<|.tail<|.head)) Z (.box (.head _) z0) Z (by simp [Value.oneCell',strV]) (by simp [maxLen];omega) (by omega) Z fun r122 _ => .ra (.tail _<|.tail _<|.head _) fun p122 c122 e122 => .yv (.fieldAddr Z Fx.field96_2) Z<|.st (.tail<|.tail<|.tail<|.head) Z Z Fx.size94 (by rw [e122];rfl) (nb Z) Z<|.nl<|.bN<|.tN<|.rg<|.yv (.add Z Z (w6 (by omega))) Z<|.m Z Z<|.nt<|.ag (x := (i,Hb,rs,ws)) (i + 1,HH,r122,ws ++ [.slice pH v.length cH]) ⟨rfl,trivial⟩ ⟨rfl,rfl,rfl,rfl,rfl,rfl,rfl,rfl,trivial⟩ (fun _ s => (s.pick [2,3,4,5,6,7,8] _ Z Z)) ⟨by dsimp only;omega,ub.trans uh,by dsimp only;rw [take_snoc hi,hxv,List.map_append];exact (hzs.up uh.up).snoc hH Z⟩ (by dsimp only;omega)
  try simp only [df] at h94
  obtain rfl : i = x.vers.length := by omega
  rw [List.take_length] at hzs
  refine Sx.freezeSeq (ds := x.vers.map (dVs .u8)) (by simp) hzs fun HS pS cS uS eS hS => ?_
  subst eS
  have uX := uV.trans (ub.trans uS)
  have hVX := hV.up (ub.trans uS).up
  exact .ex<|.tE<|.tE<|.bE<|.tN<|.rg<|.yv (.fieldAddr Z Fx.field37_3) Z<|.yv (.load Z Fx.agg35 (.tail _<|.tail _<|.tail _<|.head _) Z) Z<|.yv (.loadW Z Fx.agg96 (.head _) Z) Z<|.bl Z (Fx.bsl35_1 _ _ _) Z fun b128 => .ap (news := [strV x.nm,.slice pV x.vars.length cV,.slice pS x.vers.length cS]) Fx.row35 Z (fun _ => (.tail<|.tail<|.tail<|.head)) Z (.box (.head _) z0) Z (by simp [Value.oneCell',strV]) (by simp [maxLen];omega) (by omega) Z fun r129 _ => .ra (.tail _<|.tail _<|.tail _<|.head _) fun p129 c129 e129 => .yv (.fieldAddr Z Fx.field37_3) Z<|.st (.tail<|.tail<|.tail<|.tail<|.head) Z Z Fx.size35 (by rw [e129];rfl) (nb Z) Z<|.nl<|.bN<|.tN<|.rg<|.yv (.add Z Z (w6 (by omega))) Z<|.m Z Z<|.nt<|.ag (x := (k,Ha,rc,xs)) (k + 1,HS,r129,xs ++ [strV x.nm,.slice pV x.vars.length cV,.slice pS x.vers.length cS]) ⟨rfl,trivial⟩ ⟨rfl,rfl,rfl,rfl,trivial⟩ (fun _ s => (s.pick [3,4,5,6] _ Z Z)) ⟨by dsimp only;omega,ua.trans uX,by dsimp only;rw [take_snoc hk,hx,List.map_append];exact (hz.up uX.up).snoc (cp_shut (x := x) nx hVX hS) Z⟩ (by dsimp only;omega)
 try simp only [df] at h63
 obtain rfl : k = f.comps.length := by omega
 rw [List.take_length] at hz
 refine Sx.freezeSeq (ds := f.comps.map (dCp .u8)) (by simp) hz fun HZ pZ cZ uZ eZ hZ => ?_
 subst eZ
 refine .ex<|.tE<|.tE<|.bE<|.tN<|.sr<|.yv (.loadW Z Fx.agg37 (.head _) Z) Z<|.sW (.tail<|.head) Z Z Fx.size37 (by simp [Value.oneCell',strV]) Z<|.nt<|.rt<|?_
 exact Sx.ret1 (.inl rfl) rfl (.cell rfl Fx.agg37 (.tail _<|.head _) rfl) fun W t => ⟨_,HZ,ft_shut (x := f) nf (h45.up (ua.trans uZ).up) (h5.up (ua.trans uZ).up) hZ,rfl,(u4.trans (u5.trans (ua.trans uZ))).grow t⟩
def mkC (M : Mk) (arV bv : Value) (left : Int) : List Value := [.int .i64 (M.ints : Nat),.int .i64 (M.tables : Nat),.int .i64 (M.flags : Nat),.int .i64 (M.own : Nat),arV,.int .i64 (M.params : Nat),bv,.int .i64 left]
set_option maxRecDepth 100000 in
theorem least_any (H : Hp) (a b : Nat) (w : World) (hA : Agr H w) : Calls Tryz.prog 38 #[.int .i64 (a : Nat),.int .i64 (b : Nat)] w fun r w' => r = .returned (.int .i64 ((min a b : Nat) : Int)) ∧ Ext w w' := by
 refine Sx.enter (H := H) Tryz.func38 rfl Tryz.ntmps38 rfl hA ?_
 refine .sr<|.a Z Z<|.nt<|.sq<|.sr<|.m Z Z<|.m Z Z<|.yv (.lss Z Z) Z<|.nt<|.cd Z (fun h7 => ?_) (fun h7 => ?_)
 ·try simp only [dt] at h7
  refine .sr<|.m Z Z<|.a Z Z<|.nt<|.rt<|.tR<|?_
  refine Sx.ret1 (.inl rfl) rfl (.tmp rfl) fun W s => ⟨?_,s.ext⟩
  first
   | (rw [Nat.min_eq_left (by omega)])
   | (rw [Nat.min_eq_right (by omega)])
 try simp only [df] at h7
 refine .sk<|.tN<|.sr<|.m Z Z<|.a Z Z<|.nt<|.rt<|?_
 refine Sx.ret1 (.inl rfl) rfl (.tmp rfl) fun W s => ⟨?_,s.ext⟩
 first
  | (rw [Nat.min_eq_left (by omega)])
  | (rw [Nat.min_eq_right (by omega)])
set_option maxRecDepth 100000 in
theorem names_any (H : Hp) (c : UInt8) (n : Nat) (hn : n ≤ 100) (w : World) (hA : Agr H w) : Calls Tryz.prog 39 #[.int .u8 c.toNat,.int .i64 (n : Nat)] w fun r w' => ∃ (v : Value) (H' : Hp),Rep H' (.seq 1 ((namesB c n).map dStr)) [v] ∧ r = .returned v ∧ Grow H w H' w' := by
 refine Sx.enter (H := H) Tryz.func39 rfl Tryz.ntmps39 rfl hA ?_
 refine .sr<|.a Z Z<|.ns<|.a Z Z<|?_
 refine Sx.row0 9 1 ?_
 refine .nt<|.sq<|.sr<|.a Z Z<|.nt<|.bk<|.lp (X := Nat × Value × List Value) [(0,_),(1,_)] ⟨rfl,rfl,trivial⟩ [] (fun z => [(5,z.2.1),(6,.int .i64 (z.1 : Nat))]) (fun z => H) (fun z => [.row 9 1 z.2.1 z.1 z.2.2]) (fun z => z.1 ≤ n ∧ RepZ H 1 ((namesB c z.1).map dStr) z.2.2) (fun z => n - z.1) (0,.slice none 0 0,[]) (fun _ s => s) ⟨rfl,rfl,trivial⟩ ⟨by omega,RepZ.nil⟩ fun z hC => ?_
 obtain ⟨k,r,xs⟩ := z
 dsimp only at hC ⊢
 obtain ⟨hk0,hz⟩ := hC
 refine .sq<|.sr<|.m Z Z<|.m Z Z<|.yv (.lss Z Z) Z<|.nt<|.cd Z (fun h9 => ?_) (fun h9 => ?_)
 ·try simp only [dt] at h9
  have hk : k < n := by omega
  exact .sk<|.tN<|.sq<|.bk<|.rg<|.m Z Z<|.m Z Z<|.m Z Z<|.yv (.add Z Z (c := ((48 + k : Nat) : Int)) ((w6 (by omega)).trans (by omega))) Z<|.yv (.conv Z Fx.int3 Fx.int5 (c := (((UInt8.ofNat (48 + k)).toNat : Nat) : Int)) (by rw [show ((UInt8.ofNat (48 + k)).toNat : Int) = ((48 + k : Nat) : Int) by simp [UInt8.toNat_ofNat'];omega];simp only [IntKind.wrap,IntKind.signed,IntKind.bits];simp;omega)) Z<|.bl Z (Fx.bsl22_2 _ _) Z fun b17 => .yv (.bytesStr (l := nmB c k) Fx.bytes22 Fx.str9 Z Z (.box (.head _) z0)) Z<|.bl Z (Fx.bsl54_1 _) Z fun b19 => .ap (news := [strV (nmB c k)]) Fx.row54 Z (fun _ => (.tail<|.tail<|.head)) Z (.box (.head _) z0) Z (by simp [Value.oneCell',strV]) (by simp [maxLen];omega) (by omega) Z fun r20 _ => .a Z Z<|.nl<|.bN<|.tN<|.rg<|.m Z Z<|.yv (.add Z Z (w6 (by omega))) Z<|.a Z Z<|.nt<|.ag (x := (k,r,xs)) (k + 1,r20,xs ++ [strV (nmB c k)]) ⟨rfl,rfl,trivial⟩ ⟨rfl,rfl,trivial⟩ (fun _ s => (s.pick [2] _ Z Z)) ⟨by dsimp only;omega,by dsimp only;rw [namesB_succ,List.map_append];exact hz.snoc (str_shut (by simp [nmB])) Z⟩ (by dsimp only;omega)
 try simp only [df] at h9
 obtain rfl : k = n := by omega
 refine .ex<|.tE<|.tE<|.bE<|.tN<|.sr<|.m Z Z<|.a Z Z<|.nt<|.rt<|?_
 refine At.pm [0] [_] rfl rfl ?_
 refine Sx.freezeSeq (ds := (namesB c k).map dStr) (by simp [namesB_len]) hz fun H3 p3 c3 u3 hr3 hs3 => ?_
 exact Sx.ret1 (.inl rfl) rfl (.tmp rfl) fun W t => ⟨r,H3,hs3,rfl,u3.grow t⟩
theorem u8_open {H : Hp} {c : UInt8} {cs : List Value} (h : Rep H (dU8 c) cs) : cs = [.int .u8 c.toNat] := by unfold dU8 Rep at h;exact h.1
set_option maxRecDepth 100000 in
theorem next_st {H : Hp} {w0 W : World} {bs : List Res} {b : Nat} {M : Mk} {arV bv : Value} {left : Int} {by_ : Bs} (n : Nat) (hn : 0 < n) (hb : Rep H (.seq 1 ((by_).map dU8)) [bv]) (s : St H w0 (.box b (mkC M arV bv left) 127 :: bs) W) :
 Calls Tryz.prog 99 #[.pointer (some ⟨b,0,none⟩),.int .i64 (n : Nat)] W fun e W' => ∃ z : Value,Rep H (.seq 1 (((nextB by_ n).2).map dU8)) [z] ∧ e = .returned (.int .i64 ((nextB by_ n).1 : Nat)) ∧ St H w0 (.box b (mkC M arV z left) 127 :: bs) W' := by
 obtain ⟨p,c,e,hlen,_⟩ := hb.sl
 simp only [List.cons.injEq,and_true,List.length_map] at e
 subst e
 rw [List.length_map] at hlen
 have hcap := hb.cap
 refine Sx.enterS Tryz.func99 rfl Tryz.ntmps99 rfl s ?_
 refine .sr<|.a Z Z<|.nt<|.sq<|.sr<|.m Z Z<|.yv (.nilCheck Z) Z<|.yv (.fieldAddr Z Fx.field127_6) Z<|.yv (.load Z Fx.agg22 (.head _) Z) Z<|.yv (.lenSl Fx.sl22 Z) Z<|.yv (.eql Z Z) Z<|.nt<|.cd Z (fun h11 => ?_) (fun h11 => ?_)
 ·try simp only [dt] at h11
  have h0 : by_ = [] := List.eq_nil_of_length_eq_zero (by omega)
  subst h0
  refine .sr<|.a Z Z<|.nt<|.rt<|.tR<|?_
  exact Sx.ret1 (.inl rfl) rfl (.tmp rfl) fun W t => ⟨_,hb,rfl,t⟩
 try simp only [df] at h11
 obtain ⟨bE,oE,cE,hpE,rE,lE,mE⟩ := hb.elem (map_at (f := dU8) (show 0 < by_.length by omega))
 subst hpE
 obtain rfl := u8_open rE
 obtain ⟨cB,rB,hby⟩ : ∃ cB rB,by_ = cB :: rB := by
  match by_,hlen with
  | [],_ => simp at h11
  | cB :: rB,_ => exact ⟨cB,rB,rfl⟩
 subst hby
 simp only [List.getElem_cons_zero] at mE
 refine .sk<|.tN<|.sr<|.m Z Z<|.yv (.nilCheck Z) Z<|.yv (.fieldAddr Z Fx.field127_6) Z<|.yv (.load Z Fx.agg22 (.head _) Z) Z<|.yv (.indexSl Fx.sl22 Z Z (i := 0) Z (by omega) (q := oE + 0 * 1) (by omega)) Z<|.yv (.loadM Z Fx.agg5 mE (k := 0) Z Z) Z<|.yv (.conv Z Fx.int5 Fx.int3 (c := ((cB.toNat : Nat) : Int)) (w64 (by have := cB.toNat_lt;omega) (by have := cB.toNat_lt;omega))) Z<|.a Z Z<|.ns<|.m Z Z<|.m Z Z<|.yv (.nilCheck Z) Z<|.yv (.fieldAddr Z Fx.field127_6) Z<|.yv (.load Z Fx.agg22 (.head _) Z) Z<|.yv (.cutLo Fx.sl22 Z Z (lo := 1) Z (by omega) hb.len.2.1) Z<|.yv (.nilCheck Z) Z<|.yv (.fieldAddr Z Fx.field127_6) Z<|.st (l' := mkC M arV _ left) .head Z Z Fx.size22 Z (nb Z) Z<|.ns<|.m Z Z<|.m Z Z<|.yv (.rem Z Z (by omega) (c := ((cB.toNat % n : Nat) : Int)) (by rw [Int.tmod_eq_emod_of_nonneg (by omega)];omega)) Z<|.a Z Z<|.nt<|.rt<|?_
 exact Sx.ret1 (.inl rfl) rfl (.tmp rfl) fun W t => ⟨_,rep_drop hb (lo := 1) (by omega),rfl,t⟩
def okM (M : Mk) : Prop := 0 < M.ints ∧ M.ints ≤ 3 ∧ M.params ≤ 2 ∧ M.flags ≤ 2
theorem name_at {H : Hp} {c : UInt8} {n k cp : Nat} {p : Option Addr} (h : Rep H (.seq 1 ((namesB c n).map dStr)) [.slice p n cp]) (hk : k < n) : ∃ b o,p = some ⟨b,o,none⟩ ∧ MemAt H b (o + k * 1) [strV (nmB c k)] := by
 obtain ⟨b,o,cs,e,r,l,m⟩ := h.elem (i := k) (d := dStr (nmB c k)) (by rw [List.getElem?_map,namesB_at hk];rfl)
 obtain ⟨rfl,_⟩ := str_open r
 exact ⟨b,o,e,m⟩
set_option maxRecDepth 100000 in
theorem integer_st {H : Hp} {w0 W : World} {bs : List Res} {b : Nat} {M : Mk} {arV bv : Value} {left : Int} {by_ : Bs} (hM : okM M) (hb : Rep H (.seq 1 ((by_).map dU8)) [bv]) (s : St H w0 (.box b (mkC M arV bv left) 127 :: bs) W) :
 Calls Tryz.prog 115 #[.pointer (some ⟨b,0,none⟩)] W fun e W' => ∃ z : Value × Hp,(HUp w0 H z.2 ∧ Rep z.2 (.seq 1 (((nextB by_ M.ints).2).map dU8)) [z.1]) ∧ e = .returned (strV (nmB 120 (nextB by_ M.ints).1)) ∧ St z.2 w0 (.box b (mkC M arV z.1 left) 127 :: bs) W' := by
 refine Sx.enterS Tryz.func115 rfl Tryz.ntmps115 rfl s ?_
 refine .sr<|.a Z Z<|.nt<|.sq<|.fl (trip := [(_,_,_),(_,_,_),(_,_,_),(_,_,_),(_,_,_),(_,_,_),(_,_,_),(_,_,_),(_,_,_)]) 9 [(1,0),(2,0),(3,0),(4,0),(5,0),(0,1),(6,2),(7,0),(8,0)] (by kernel_rfl) (by kernel_rfl) Z<|.m Z Z<|.m Z Z<|.yv (.nilCheck Z) Z<|.yv (.fieldAddr Z Fx.field127_0) Z<|.yv (.load Z Fx.agg3 (.head _) Z) Z<|.ct (X := Value) Fx.call39 Z (fun W s => names_any H 120 3 (by omega) W s.agr) Z fun v3 H3 hn3 u3 => ?_
 obtain ⟨pn3,cn3,e3,_⟩ := hn3.sl
 simp only [List.cons.injEq,and_true,List.length_map,namesB_len] at e3
 subst e3
 obtain ⟨bE,oE,hpE,mE⟩ := name_at hn3 (k := (nextB by_ M.ints).1) (by have := nextB_lt by_ hM.1;have := hM.2.1;omega)
 subst hpE
 refine .cs (X := Value) Fx.call99 Z (fun W s => next_st M.ints hM.1 (hb.up u3.up)  (s.pickT (hd := [_]) (tl := bs) (hd' := [_]) [0] Z Z)) Z fun z9 hz9 => .yv (.indexSl Fx.sl54 Z Z (i := (nextB by_ M.ints).1) Z (by have := nextB_lt by_ hM.1;have := hM.2.1;omega) (q := oE + (nextB by_ M.ints).1 * 1) Z) Z<|.yv (.loadM Z Fx.agg9 mE (k := 0) Z Z) Z<|.fn (tl := [_]) Z<|.a Z Z<|.nt<|.rt<|?_
 exact Sx.ret1 (.inl rfl) rfl (.tmp rfl) fun W t => ⟨(z9,H3),⟨u3,hz9⟩,rfl,(t.pickT (hd := [_]) (tl := bs) (hd' := [_]) [0] rfl rfl)⟩
def NumOf (rec : Bs → Ex × Bs) (M : Mk) (d : Nat) : Prop := ∀ (H : Hp) (w0 W : World) (bs : List Res) (b : Nat) (arV bv : Value) (left : Int) (by_ : Bs),Rep H (.seq 1 ((by_).map dU8)) [bv] → St H w0 (.box b (mkC M arV bv left) 127 :: bs) W →
 Calls Tryz.prog 113 #[.pointer (some ⟨b,0,none⟩),.int .i64 (d : Nat)] W fun e W' => ∃ z : List Value × Value × Hp,(HUp w0 H z.2.2 ∧ Rep z.2.2 (dEx .i64 (rec by_).1) z.1 ∧ Rep z.2.2 (.seq 1 (((rec by_).2).map dU8)) [z.2.1]) ∧ e = .returned (.agg z.1.toArray) ∧ St z.2.2 w0 (.box b (mkC M arV z.2.1 left) 127 :: bs) W'
theorem rep_num {H : Hp} {n : Nat} (h : n < 9) : Rep H (dEx .i64 (.mk 1 [] (Int64.ofNat n) [])) [.int .i64 1,strV [],.int .i64 (n : Nat),.slice none 0 0] := by
 have e : (Int64.ofNat n).toInt = (n : Int) := by
  have key : ∀ i ∈ List.range 9,(Int64.ofNat i).toInt = (i : Int) := by decide
  exact key n (List.mem_range.2 h)
 have := ex_shut (H := H) (k := .i64) (op := 1) (nm := []) (n := Int64.ofNat n) (args := []) (s := .slice none 0 0) (by decide) (Rep.empty (by decide))
 rw [e] at this
 exact this
theorem ops_at {k : Nat} (h : k < 6) : [Value.int .i64 14,.int .i64 15,.int .i64 11,.int .i64 12,.int .i64 13,.int .i64 14][k]? = some (.int .i64 (([14,15,11,12,13,14] : List UInt8).getD k 14).toNat) := by
 match k,h with
 | 0,_ => rfl
 | 1,_ => rfl
 | 2,_ => rfl
 | 3,_ => rfl
 | 4,_ => rfl
 | 5,_ => rfl
set_option maxRecDepth 100000 in
theorem number_step (M : Mk) (hM : okM M) (d : Nat) (hd : d ≤ 3) (rec : Bs → Ex × Bs) (hrec : d ≤ 2 → NumOf rec M (d + 1)) : NumOf (numS M d rec) M d := by
 intro H w0 W bs b arV bv left by_ hb s
 unfold numS
 refine Sx.enterS Tryz.func113 rfl Tryz.ntmps113 rfl s ?_
 refine .sr<|.al Fx.zero58 Z fun b4 => .ns<|.m Z Z<|.cs (X := Value) Fx.call99 Z (fun W s => next_st 12 (by decide) hb  (s.pickT (hd := [_,_]) (tl := bs) (hd' := [_,_]) [1,0] Z Z)) Z fun z9 hz9 => ?_
 have hk12 := nextB_lt by_ (n := 12) (by decide)
 generalize (nextB by_ 12).1 = k at hk12 ⊢
 generalize (nextB by_ 12).2 = b1 at hz9 ⊢
 refine .a Z Z<|.nt<|.cu (X := Unit) [(0,_),(1,_),(4,_)] ⟨rfl,rfl,rfl,trivial⟩ (fun z => []) (fun z => H) (fun z => (.box b (mkC M arV z9 left) 127 :: .box b4 [.int .i64 0,.string ⟨#[]⟩,.int .i64 0,.slice none 0 0] 58 :: bs)) (fun z => ¬ (k < 2 ∨ (2 < d ∧ 5 < k)) ∧ ¬ (k < 4 ∨ (k = 4 ∧ M.params = 0)) ∧ ¬ k = 4 ∧ ¬ k = 5 ∧ ¬ (k = 6 ∧ 0 < M.tables) ∧ ¬ (k = 7 ∧ 0 < M.tables) ∧ ¬ k = 8) ?_ fun z hC => ?_
 ·
  refine .bk<|.cu (X := Bool) [(0,_),(1,_),(4,_),(5,_)] ⟨rfl,rfl,rfl,rfl,trivial⟩ (fun z => [(10,.bool z)]) (fun z => H) (fun z => (.box b (mkC M arV z9 left) 127 :: .box b4 [.int .i64 0,.string ⟨#[]⟩,.int .i64 0,.slice none 0 0] 58 :: bs)) (fun z => z = decide (k < 2 ∨ (2 < d ∧ 5 < k))) ?_ fun z hC => ?_
  ·
   refine .rg<|.m Z Z<|.yv (.lss Z Z) Z<|.m Z Z<|.b2 (fun h13 => ?_) (fun h13 => ?_)
   ·try simp only [dt] at h13
    exact .gF Z Z Z Z<|.gF Z Z Z Z<|.gF Z Z Z Z<|.gU Z Z Z<|.gU Z Z Z<|.gF Z Z Z Z<|.yv (.pickT Z Z) Z<|.a Z Z<|.nt<|.me _ ⟨rfl,trivial⟩ ⟨rfl,rfl,rfl,rfl,trivial⟩ (fun _ s => s) (by rw [Bool.eq_iff_iff,decide_eq_true_eq];first | (rw [decide_eq_true_eq];omega) | exact ⟨fun _ => by omega,fun _ => rfl⟩ | exact ⟨fun h => (by cases h),fun h => by omega⟩)
   try simp only [df] at h13
   refine .gd Z Z<|.yv (.move Z) Z<|.gd Z Z<|.yv (.gtr Z Z) Z<|.gd Z Z<|.yv (.move Z) Z<|.b2 (fun h16 => ?_) (fun h16 => ?_)
   ·try simp only [dt] at h16
    exact .gd Z Z<|.yv (.move Z) Z<|.gd Z Z<|.yv (.gtr Z Z) Z<|.gd Z Z<|.yv (.pickT Z Z) Z<|.yv (.pickF Z Z) Z<|.a Z Z<|.nt<|.me _ ⟨rfl,trivial⟩ ⟨rfl,rfl,rfl,rfl,trivial⟩ (fun _ s => s) (by rw [Bool.eq_iff_iff,decide_eq_true_eq];first | (rw [decide_eq_true_eq];omega) | exact ⟨fun _ => by omega,fun _ => rfl⟩ | exact ⟨fun h => (by cases h),fun h => by omega⟩)
   try simp only [df] at h16
   exact .gF Z Z Z Z<|.gF Z Z Z Z<|.gd Z Z<|.yv (.pickF Z Z) Z<|.yv (.pickF Z Z) Z<|.a Z Z<|.nt<|.me _ ⟨rfl,trivial⟩ ⟨rfl,rfl,rfl,rfl,trivial⟩ (fun _ s => s) (by rw [Bool.eq_iff_iff,decide_eq_true_eq];first | (rw [decide_eq_true_eq];omega) | exact ⟨fun _ => by omega,fun _ => rfl⟩ | exact ⟨fun h => (by cases h),fun h => by omega⟩)
  have e10 := hC
  refine .cd Z (fun h10 => ?_) (fun h10 => ?_)
  ·have q10 : k < 2 ∨ (2 < d ∧ 5 < k) := by rw [h10] at e10;exact of_decide_eq_true e10.symm
   refine .sr<|.m Z Z<|.cs (X := Value) Fx.call99 Z (fun W s => next_st 9 (by decide) hz9  (s.pickT (hd := [_,_]) (tl := bs) (hd' := [_,_]) [0,1] Z Z)) Z fun z22 hz22 => .yv (.build Z (Fx.bld58_0_2 _ _)) Z<|.sW (.tail<|.head) Z Z Fx.size58 (by simp [Value.oneCell',strV]) Z<|.nt<|.rt<|.bR<|.tR<|?_
   exact Sx.ret1 (.inl rfl) rfl (.cell rfl Fx.agg58 (.tail _<|.head _) rfl) fun W t => ⟨(_,_,H),by rw [show numT M d rec k b1 = _ from by rw [numT,if_pos (by omega)]];exact ⟨.refl,rep_num (nextB_lt _ (by decide)),hz22⟩,rfl,(t.pickT (hd := [_,_]) (tl := bs) (hd' := [_]) [0] rfl rfl)⟩
  have q10 : ¬ (k < 2 ∨ (2 < d ∧ 5 < k)) := by rw [h10] at e10;exact of_decide_eq_false e10.symm
  refine .cu (X := Bool) [(0,_),(1,_),(4,_),(5,_)] ⟨rfl,rfl,rfl,rfl,trivial⟩ (fun z => [(24,.bool z)]) (fun z => H) (fun z => (.box b (mkC M arV z9 left) 127 :: .box b4 [.int .i64 0,.string ⟨#[]⟩,.int .i64 0,.slice none 0 0] 58 :: bs)) (fun z => z = decide (k < 4 ∨ (k = 4 ∧ M.params = 0))) ?_ fun z hC => ?_
  ·
   refine .rg<|.m Z Z<|.yv (.lss Z Z) Z<|.m Z Z<|.b2 (fun h27 => ?_) (fun h27 => ?_)
   ·try simp only [dt] at h27
    exact .gF Z Z Z Z<|.gF Z Z Z Z<|.gF Z Z Z Z<|.gU Z Z Z<|.gU Z Z Z<|.gU Z Z Z<|.gU Z Z Z<|.gU Z Z Z<|.gF Z Z Z Z<|.yv (.pickT Z Z) Z<|.a Z Z<|.nt<|.me _ ⟨rfl,trivial⟩ ⟨rfl,rfl,rfl,rfl,trivial⟩ (fun _ s => s) (by rw [Bool.eq_iff_iff,decide_eq_true_eq];first | (rw [decide_eq_true_eq];omega) | exact ⟨fun _ => by omega,fun _ => rfl⟩ | exact ⟨fun h => (by cases h),fun h => by omega⟩)
   try simp only [df] at h27
   refine .gd Z Z<|.yv (.move Z) Z<|.gd Z Z<|.yv (.eql Z Z) Z<|.gd Z Z<|.yv (.move Z) Z<|.b2 (fun h30 => ?_) (fun h30 => ?_)
   ·try simp only [dt] at h30
    exact .gd Z Z<|.yv (.move Z) Z<|.gd Z Z<|.yv (.nilCheck Z) Z<|.gd Z Z<|.yv (.fieldAddr Z Fx.field127_5) Z<|.gd Z Z<|.yv (.load Z Fx.agg3 (.head _) Z) Z<|.gd Z Z<|.yv (.eql Z Z) Z<|.gd Z Z<|.yv (.pickT Z Z) Z<|.yv (.pickF Z Z) Z<|.a Z Z<|.nt<|.me _ ⟨rfl,trivial⟩ ⟨rfl,rfl,rfl,rfl,trivial⟩ (fun _ s => s) (by rw [Bool.eq_iff_iff,decide_eq_true_eq];first | (rw [decide_eq_true_eq];omega) | exact ⟨fun _ => by omega,fun _ => rfl⟩ | exact ⟨fun h => (by cases h),fun h => by omega⟩)
   try simp only [df] at h30
   exact .gF Z Z Z Z<|.gF Z Z Z Z<|.gF Z Z Z Z<|.gF Z Z Z Z<|.gF Z Z Z Z<|.gd Z Z<|.yv (.pickF Z Z) Z<|.yv (.pickF Z Z) Z<|.a Z Z<|.nt<|.me _ ⟨rfl,trivial⟩ ⟨rfl,rfl,rfl,rfl,trivial⟩ (fun _ s => s) (by rw [Bool.eq_iff_iff,decide_eq_true_eq];first | (rw [decide_eq_true_eq];omega) | exact ⟨fun _ => by omega,fun _ => rfl⟩ | exact ⟨fun h => (by cases h),fun h => by omega⟩)
  have e24 := hC
  refine .cd Z (fun h24 => ?_) (fun h24 => ?_)
  ·have q24 : k < 4 ∨ (k = 4 ∧ M.params = 0) := by rw [h24] at e24;exact of_decide_eq_true e24.symm
   refine .sr<|.m Z Z<|.cs (X := Value × Hp) Fx.call115 Z (fun W s => integer_st hM hz9  (s.pickT (hd := [_,_]) (tl := bs) (hd' := [_,_]) [0,1] Z Z)) Z fun z39 hz39 => .yv (.build Z (Fx.bld58_0_1 _ _)) Z<|.sW (.tail<|.head) Z Z Fx.size58 (by simp [Value.oneCell',strV]) Z<|.nt<|.rt<|.bR<|.tR<|?_
   exact Sx.ret1 (.inl rfl) rfl (.cell rfl Fx.agg58 (.tail _<|.head _) rfl) fun W t => ⟨(_,_,z39.2),by rw [show numT M d rec k b1 = _ from by rw [numT,if_neg (by omega),if_pos (by omega)]];exact ⟨hz39.1,ex_shut (args := []) (by simp [nmB]) (Rep.empty (by decide)),hz39.2⟩,rfl,(t.pickT (hd := [_,_]) (tl := bs) (hd' := [_]) [0] rfl rfl)⟩
  have q24 : ¬ (k < 4 ∨ (k = 4 ∧ M.params = 0)) := by rw [h24] at e24;exact of_decide_eq_false e24.symm
  refine .sr<|.m Z Z<|.yv (.eql Z Z) Z<|.a Z Z<|.nt<|.cd Z (fun h41 => ?_) (fun h41 => ?_)
  ·try simp only [dt] at h41
   refine .sq<|.fl (trip := [(_,_,_),(_,_,_),(_,_,_),(_,_,_),(_,_,_),(_,_,_),(_,_,_),(_,_,_),(_,_,_),(_,_,_)]) 10 [(1,0),(2,0),(3,0),(4,0),(5,0),(0,1),(6,2),(7,0),(8,0),(9,0)] (by kernel_rfl) (by kernel_rfl) Z<|.m Z Z<|.m Z Z<|.yv (.nilCheck Z) Z<|.yv (.fieldAddr Z Fx.field127_5) Z<|.yv (.load Z Fx.agg3 (.head _) Z) Z<|.ct (X := Value) Fx.call39 Z (fun W s => names_any H 112 2 (by omega) W s.agr) Z fun v44 H44 hn44 u44 => ?_
   obtain ⟨pn44,cn44,e44,_⟩ := hn44.sl
   simp only [List.cons.injEq,and_true,List.length_map,namesB_len] at e44
   subst e44
   obtain ⟨bE,oE,hpE,mE⟩ := name_at hn44 (k := (nextB b1 M.params).1) (by have := nextB_lt b1 (n := M.params) (by omega);have := hM.2.2.1;omega)
   subst hpE
   refine .cs (X := Value) Fx.call99 Z (fun W s => next_st M.params (by omega) (hz9.up u44.up)  (s.pickT (hd := [_,_]) (tl := bs) (hd' := [_,_]) [0,1] Z Z)) Z fun z50 hz50 => .yv (.indexSl Fx.sl54 Z Z (i := (nextB b1 M.params).1) Z (by have := nextB_lt b1 (n := M.params) (by omega);have := hM.2.2.1;omega) (q := oE + (nextB b1 M.params).1 * 1) Z) Z<|.yv (.loadM Z Fx.agg9 mE (k := 0) Z Z) Z<|.yv (.build Z (Fx.bld58_0_1 _ _)) Z<|.fn (tl := [_]) Z<|.sW (.tail<|.head) Z Z Fx.size58 (by simp [Value.oneCell',strV]) Z<|.nt<|.rt<|.bR<|.tR<|?_
   exact Sx.ret1 (.inl rfl) rfl (.cell rfl Fx.agg58 (.tail _<|.head _) rfl) fun W t => ⟨(_,_,H44),by rw [show numT M d rec k b1 = _ from by rw [numT,if_neg (by omega),if_neg (by omega),if_pos (by omega)]];exact ⟨u44,ex_shut (args := []) (by simp [nmB]) (Rep.empty (by decide)),hz50⟩,rfl,(t.pickT (hd := [_,_]) (tl := bs) (hd' := [_]) [0] rfl rfl)⟩
  try simp only [df] at h41
  refine .sr<|.m Z Z<|.yv (.eql Z Z) Z<|.a Z Z<|.nt<|.cd Z (fun h54 => ?_) (fun h54 => ?_)
  ·try simp only [dt] at h54
   refine .sr<|.yv (.build Z (Fx.bld58_0 _)) Z<|.sW (.tail<|.head) Z Z Fx.size58 (by simp [Value.oneCell',strV]) Z<|.nt<|.rt<|.bR<|.tR<|?_
   exact Sx.ret1 (.inl rfl) rfl (.cell rfl Fx.agg58 (.tail _<|.head _) rfl) fun W t => ⟨(_,_,H),by rw [show numT M d rec k b1 = _ from by rw [numT,if_neg (by omega),if_neg (by omega),if_neg (by omega),if_pos (by omega)]];exact ⟨.refl,ex_shut (args := []) (nm := []) (by decide) (Rep.empty (by decide)),hz9⟩,rfl,(t.pickT (hd := [_,_]) (tl := bs) (hd' := [_]) [0] rfl rfl)⟩
  try simp only [df] at h54
  refine .cu (X := Bool) [(0,_),(1,_),(4,_),(5,_)] ⟨rfl,rfl,rfl,rfl,trivial⟩ (fun z => [(58,.bool z)]) (fun z => H) (fun z => (.box b (mkC M arV z9 left) 127 :: .box b4 [.int .i64 0,.string ⟨#[]⟩,.int .i64 0,.slice none 0 0] 58 :: bs)) (fun z => z = decide (k = 6 ∧ 0 < M.tables)) ?_ fun z hC => ?_
  ·
   refine .rg<|.m Z Z<|.yv (.eql Z Z) Z<|.m Z Z<|.b2 (fun h61 => ?_) (fun h61 => ?_)
   ·try simp only [dt] at h61
    exact .gd Z Z<|.yv (.move Z) Z<|.gd Z Z<|.yv (.nilCheck Z) Z<|.gd Z Z<|.yv (.fieldAddr Z Fx.field127_1) Z<|.gd Z Z<|.yv (.load Z Fx.agg3 (.head _) Z) Z<|.gd Z Z<|.yv (.gtr Z Z) Z<|.yv (.pickT Z Z) Z<|.a Z Z<|.nt<|.me _ ⟨rfl,trivial⟩ ⟨rfl,rfl,rfl,rfl,trivial⟩ (fun _ s => s) (by rw [Bool.eq_iff_iff,decide_eq_true_eq];first | (rw [decide_eq_true_eq];omega) | exact ⟨fun _ => by omega,fun _ => rfl⟩ | exact ⟨fun h => (by cases h),fun h => by omega⟩)
   try simp only [df] at h61
   exact .gF Z Z Z Z<|.gF Z Z Z Z<|.gF Z Z Z Z<|.gF Z Z Z Z<|.gF Z Z Z Z<|.yv (.pickF Z Z) Z<|.a Z Z<|.nt<|.me _ ⟨rfl,trivial⟩ ⟨rfl,rfl,rfl,rfl,trivial⟩ (fun _ s => s) (by rw [Bool.eq_iff_iff,decide_eq_true_eq];first | (rw [decide_eq_true_eq];omega) | exact ⟨fun _ => by omega,fun _ => rfl⟩ | exact ⟨fun h => (by cases h),fun h => by omega⟩)
  have e58 := hC
  refine .cd Z (fun h58 => ?_) (fun h58 => ?_)
  ·have q58 : k = 6 ∧ 0 < M.tables := by rw [h58] at e58;exact of_decide_eq_true e58.symm
   refine .sr<|.m Z Z<|.m Z Z<|.yv (.add Z Z (c := ((d + 1 : Nat) : Int)) ((w6 (by omega)).trans (by omega))) Z<|.cs (X := List Value × Value × Hp) Fx.call113 Z (fun W s => hrec (by omega) H w0 W _ b arV _ left b1 hz9  (s.pickT (hd := [_,_]) (tl := bs) (hd' := [_,_]) [0,1] Z Z)) Z fun z71 hz71 => ?_
   obtain ⟨x71,v71,H71⟩ := z71
   obtain ⟨u71,r71,q71⟩ := hz71
   dsimp only at u71 r71 q71 ⊢
   generalize hE71 : (rec b1).1 = e71 at r71
   obtain ⟨op71,nm71,n71,a71⟩ := e71
   obtain ⟨p71,c71,rfl,hs71,hl71⟩ := ex_open r71
   refine .bl Z (Fx.bsl56_1 _ _ _ _) Z fun b72 => .yv (.build Z (Fx.bld58_0_1_3 _ _ _ _ _)) Z<|.sW (.tail<|.tail<|.head) Z Z Fx.size58 (by simp [Value.oneCell',strV]) Z<|.nt<|.rt<|.bR<|.tR<|?_
   refine At.pt (hd := [_,_,_]) (tl := bs) (hd' := [_,_,_]) [0,2,1] rfl rfl ?_
   refine Sx.freezeBox fun Hf uf mf => ?_
   exact Sx.ret1 (.inl rfl) rfl (.cell rfl Fx.agg58 (.head _) rfl) fun W t => ⟨(_,_,Hf),by rw [show numT M d rec k b1 = _ from by rw [numT,if_neg (by omega),if_neg (by omega),if_neg (by omega),if_neg (by omega),if_pos (by omega)],hE71];exact ⟨u71.trans uf,ex_shut (nm := [116,48]) (args := [.mk op71 nm71 n71 a71]) (by decide) (Rep.mk (n := 1) (c := 1) mf (.single (r71.up uf.up) rfl) rfl (Nat.le_refl _) (by decide)),q71.up uf.up⟩,rfl,t.drop⟩
  have q58 : ¬ (k = 6 ∧ 0 < M.tables) := by rw [h58] at e58;exact of_decide_eq_false e58.symm
  refine .cu (X := Bool) [(0,_),(1,_),(4,_),(5,_)] ⟨rfl,rfl,rfl,rfl,trivial⟩ (fun z => [(74,.bool z)]) (fun z => H) (fun z => (.box b (mkC M arV z9 left) 127 :: .box b4 [.int .i64 0,.string ⟨#[]⟩,.int .i64 0,.slice none 0 0] 58 :: bs)) (fun z => z = decide (k = 7 ∧ 0 < M.tables)) ?_ fun z hC => ?_
  ·
   refine .rg<|.m Z Z<|.yv (.eql Z Z) Z<|.m Z Z<|.b2 (fun h77 => ?_) (fun h77 => ?_)
   ·try simp only [dt] at h77
    exact .gd Z Z<|.yv (.move Z) Z<|.gd Z Z<|.yv (.nilCheck Z) Z<|.gd Z Z<|.yv (.fieldAddr Z Fx.field127_1) Z<|.gd Z Z<|.yv (.load Z Fx.agg3 (.head _) Z) Z<|.gd Z Z<|.yv (.gtr Z Z) Z<|.yv (.pickT Z Z) Z<|.a Z Z<|.nt<|.me _ ⟨rfl,trivial⟩ ⟨rfl,rfl,rfl,rfl,trivial⟩ (fun _ s => s) (by rw [Bool.eq_iff_iff,decide_eq_true_eq];first | (rw [decide_eq_true_eq];omega) | exact ⟨fun _ => by omega,fun _ => rfl⟩ | exact ⟨fun h => (by cases h),fun h => by omega⟩)
   try simp only [df] at h77
   exact .gF Z Z Z Z<|.gF Z Z Z Z<|.gF Z Z Z Z<|.gF Z Z Z Z<|.gF Z Z Z Z<|.yv (.pickF Z Z) Z<|.a Z Z<|.nt<|.me _ ⟨rfl,trivial⟩ ⟨rfl,rfl,rfl,rfl,trivial⟩ (fun _ s => s) (by rw [Bool.eq_iff_iff,decide_eq_true_eq];first | (rw [decide_eq_true_eq];omega) | exact ⟨fun _ => by omega,fun _ => rfl⟩ | exact ⟨fun h => (by cases h),fun h => by omega⟩)
  have e74 := hC
  refine .cd Z (fun h74 => ?_) (fun h74 => ?_)
  ·have q74 : k = 7 ∧ 0 < M.tables := by rw [h74] at e74;exact of_decide_eq_true e74.symm
   refine .sr<|.yv (.build Z (Fx.bld58_0_1 _ _)) Z<|.sW (.tail<|.head) Z Z Fx.size58 (by simp [Value.oneCell',strV]) Z<|.nt<|.rt<|.bR<|.tR<|?_
   exact Sx.ret1 (.inl rfl) rfl (.cell rfl Fx.agg58 (.tail _<|.head _) rfl) fun W t => ⟨(_,_,H),by rw [show numT M d rec k b1 = _ from by rw [numT,if_neg (by omega),if_neg (by omega),if_neg (by omega),if_neg (by omega),if_neg (by omega),if_pos (by omega)]];exact ⟨.refl,ex_shut (args := []) (nm := [116,48]) (by decide) (Rep.empty (by decide)),hz9⟩,rfl,(t.pickT (hd := [_,_]) (tl := bs) (hd' := [_]) [0] rfl rfl)⟩
  have q74 : ¬ (k = 7 ∧ 0 < M.tables) := by rw [h74] at e74;exact of_decide_eq_false e74.symm
  refine .sr<|.m Z Z<|.yv (.eql Z Z) Z<|.a Z Z<|.nt<|.cd Z (fun h85 => ?_) (fun h85 => ?_)
  ·try simp only [dt] at h85
   refine .sr<|.m Z Z<|.m Z Z<|.yv (.add Z Z (w6 (by omega))) Z<|.cs (X := List Value × Value × Hp) Fx.call113 Z (fun W s => hrec (by omega) H w0 W _ b arV _ left b1 hz9  (s.pickT (hd := [_,_]) (tl := bs) (hd' := [_,_]) [0,1] Z Z)) Z fun z91 hz91 => ?_
   obtain ⟨x91,v91,H91⟩ := z91
   obtain ⟨u91,r91,q91⟩ := hz91
   dsimp only at u91 r91 q91 ⊢
   generalize hE91 : (rec b1).1 = e91 at r91
   obtain ⟨op91,nm91,n91,a91⟩ := e91
   obtain ⟨p91,c91,rfl,hs91,hl91⟩ := ex_open r91
   refine .bl Z (Fx.bsl56_1 _ _ _ _) Z fun b92 => .yv (.build Z (Fx.bld58_0_3 _ _ _ _)) Z<|.sW (.tail<|.tail<|.head) Z Z Fx.size58 (by simp [Value.oneCell',strV]) Z<|.nt<|.rt<|.bR<|.tR<|?_
   refine At.pt (hd := [_,_,_]) (tl := bs) (hd' := [_,_,_]) [0,2,1] rfl rfl ?_
   refine Sx.freezeBox fun Hf uf mf => ?_
   exact Sx.ret1 (.inl rfl) rfl (.cell rfl Fx.agg58 (.head _) rfl) fun W t => ⟨(_,_,Hf),by rw [show numT M d rec k b1 = _ from by rw [numT,if_neg (by omega),if_neg (by omega),if_neg (by omega),if_neg (by omega),if_neg (by omega),if_neg (by omega),if_pos (by omega)],hE91];exact ⟨u91.trans uf,ex_shut (nm := []) (args := [.mk op91 nm91 n91 a91]) (by decide) (Rep.mk (n := 1) (c := 1) mf (.single (r91.up uf.up) rfl) rfl (Nat.le_refl _) (by decide)),q91.up uf.up⟩,rfl,t.drop⟩
  try simp only [df] at h85
  exact .sk<|.bN<|.tN<|.me () trivial ⟨rfl,rfl,rfl,trivial⟩ (fun _ s => s) (by omega)
 obtain ⟨hc1,hc2,hc3,hc4,hc5,hc6,hc7⟩ := hC
 refine .sr<|.bl Z (Fx.bsl124_6 _ _ _ _ _ _) Z fun b94 => .m Z Z<|.cs (X := Value) Fx.call99 Z (fun W s => next_st 6 (by decide) hz9  (s.pickT (hd := [_,_,_]) (tl := bs) (hd' := [_,_,_]) [1,0,2] Z Z)) Z fun z96 hz96 => .yv (.indexSl Fx.sl124 Z Z (i := (nextB b1 6).1) Z (by have := nextB_lt b1 (n := 6) (by decide);omega) (q := (nextB b1 6).1) (by omega)) Z<|.yv (.load (v := .int .i64 (([14,15,11,12,13,14] : List UInt8).getD (nextB b1 6).1 14).toNat) Z Fx.agg3 (.tail _<|.head _) (ops_at (nextB_lt b1 (n := 6) (by decide)))) Z<|.a Z Z<|.ns<|.m Z Z<|.m Z Z<|.yv (.add Z Z (w6 (by omega))) Z<|.cs (X := List Value × Value × Hp) Fx.call113 Z (fun W s => hrec (by omega) H w0 W _ b arV _ left (nextB b1 6).2 hz96  (s.pickT (hd := [_,_,_]) (tl := bs) (hd' := [_,_,_]) [0,1,2] Z Z)) Z fun z102 hz102 => ?_
 obtain ⟨x102,v102,H102⟩ := z102
 obtain ⟨u102,r102,q102⟩ := hz102
 dsimp only at u102 r102 q102 ⊢
 generalize hE102 : (rec (nextB b1 6).2).1 = e102 at r102
 obtain ⟨op102,nm102,n102,a102⟩ := e102
 obtain ⟨p102,c102,rfl,hs102,hl102⟩ := ex_open r102
 refine .al Fx.zero58 Z fun b7 => .sW .head Z Z Fx.size58 (by simp [Value.oneCell',strV]) Z<|.nt<|.sq<|.fl (trip := [(_,_,_),(_,_,_),(_,_,_),(_,_,_),(_,_,_),(_,_,_),(_,_,_),(_,_,_)]) 8 [(0,0),(1,0),(2,0),(3,0),(4,0),(5,3),(6,1),(7,0)] (by kernel_rfl) (by kernel_rfl) Z<|.m Z Z<|.yv (.loadW Z Fx.agg58 (.head _) Z) Z<|.m Z Z<|.m Z Z<|.yv (.add Z Z (w6 (by omega))) Z<|.c3 (X := List Value × Value × Hp) Fx.call113 Z (fun W s => hrec (by omega) H102 w0 W _ b arV _ left (rec (nextB b1 6).2).2 q102  (s.pickT (hd := [_,_,_,_]) (tl := bs) (hd' := [_,_,_,_]) [1,0,2,3] Z Z)) Z (fun z108 hz108 => (.done (by kernel_rfl)<|.done (by kernel_rfl)<|.done (by kernel_rfl)<|.yv (.loadW Z Fx.agg58 (.tail _<|.head _) Z)<|.yv (.move Z)<|.nl)) fun z108 hz108 => ?_
 obtain ⟨x108,v108,H108⟩ := z108
 obtain ⟨u108,r108,q108⟩ := hz108
 dsimp only at u108 r108 q108 ⊢
 generalize hE108 : (rec (rec (nextB b1 6).2).2).1 = e108 at r108
 obtain ⟨op108,nm108,n108,a108⟩ := e108
 obtain ⟨p108,c108,rfl,hs108,hl108⟩ := ex_open r108
 refine .bl Z (Fx.bsl56_2 _ _ _ _ _ _ _ _) Z fun b109 => .yv (.build Z (Fx.bld58_0_3 _ _ _ _)) Z<|.fn (tl := [_]) Z<|.sW (.tail<|.tail<|.tail<|.tail<|.head) Z Z Fx.size58 (by simp [Value.oneCell',strV]) Z<|.nt<|.rt<|?_
 refine At.pt (hd := [_,_,_,_,_]) (tl := bs) (hd' := [_,_,_]) [0,4,1] rfl rfl ?_
 refine Sx.freezeBox fun Hf uf mf => ?_
 exact Sx.ret1 (.inl rfl) rfl (.cell rfl Fx.agg58 (.head _) rfl) fun W t => ⟨(_,_,Hf),by rw [show numT M d rec k b1 = _ from by rw [numT,if_neg (by omega),if_neg (by omega),if_neg (by omega),if_neg (by omega),if_neg (by omega),if_neg (by omega),if_neg (by omega)],hE102,hE108];exact ⟨(u102.trans u108).trans uf,ex_shut (nm := []) (args := [.mk op102 nm102 n102 a102,.mk op108 nm108 n108 a108]) (by decide) (Rep.mk (n := 2) (c := 2) mf (RepZ.app (RepZ.single ((r102.up u108.up).up uf.up) rfl) (RepZ.single (r108.up uf.up) rfl)) rfl (Nat.le_refl _) (by decide)),q108.up uf.up⟩,rfl,t.drop⟩
theorem num_any (M : Mk) (hM : okM M) : ∀ f,f ≤ 3 → NumOf (numE M f) M (3 - f)
 | 0,_ => number_step M hM 3 (by omega) _ (fun h => by omega)
 | f + 1,hf => by
  have e : 3 - (f + 1) = 2 - f := by omega
  rw [e]
  refine number_step M hM (2 - f) (by omega) (numE M f) fun _ => ?_
  rw [show 2 - f + 1 = 3 - f by omega]
  exact num_any M hM f (by omega)
set_option maxRecDepth 100000 in
theorem numbers_st {H : Hp} {w0 W : World} {bs : List Res} {b : Nat} {M : Mk} {arV bv : Value} {left : Int} {by_ : Bs} (hM : okM M) (n : Nat) (hn : n ≤ 100) (hb : Rep H (.seq 1 ((by_).map dU8)) [bv]) (s : St H w0 (.box b (mkC M arV bv left) 127 :: bs) W) :
 Calls Tryz.prog 114 #[.pointer (some ⟨b,0,none⟩),.int .i64 (n : Nat)] W fun e W' => ∃ z : Value × Value × Hp,(HUp w0 H z.2.2 ∧ (∃ xs,RepZ z.2.2 4 ((numL M n by_).1.map (dEx .i64)) xs ∧ SliceAt z.2.2 z.1 n xs ∧ (numL M n by_).1.length = n) ∧ Rep z.2.2 (.seq 1 (((numL M n by_).2).map dU8)) [z.2.1]) ∧ e = .returned z.1 ∧ St z.2.2 w0 (.box b (mkC M arV z.2.1 left) 127 :: bs) W' := by
 refine Sx.enterS Tryz.func114 rfl Tryz.ntmps114 rfl s ?_
 refine .sr<|.a Z Z<|.ns<|.a Z Z<|?_
 refine Sx.row0 58 4 ?_
 refine .nt<|.sq<|.sr<|.a Z Z<|.nt<|.bk<|.lp (X := Nat × Hp × Value × List Value × Value) [(0,_),(1,_)] ⟨rfl,rfl,trivial⟩ (bs) (fun z => [(5,z.2.2.1),(6,.int .i64 (z.1 : Nat))]) (fun z => z.2.1) (fun z => [.row 58 4 z.2.2.1 z.1 z.2.2.2.1,.box b (mkC M arV z.2.2.2.2 left) 127]) (fun z => z.1 ≤ n ∧ HUp w0 H z.2.1 ∧ ∃ (es : List Ex) (b1 : Bs),es.length = z.1 ∧ RepZ z.2.1 4 (es.map (dEx .i64)) z.2.2.2.1 ∧ Rep z.2.1 (.seq 1 ((b1).map dU8)) [z.2.2.2.2] ∧ numL M n by_ = (es ++ (numL M (n - z.1) b1).1,(numL M (n - z.1) b1).2)) (fun z => n - z.1) (0,H,.slice none 0 0,[],bv) (fun _ s => s) ⟨rfl,rfl,trivial⟩ ⟨by dsimp only;omega,.refl,[],by_,rfl,RepZ.nil,hb,rfl⟩ fun z hC => ?_
 obtain ⟨k,H1,r,xs,bv⟩ := z
 dsimp only at hC ⊢
 obtain ⟨hk0,u1,es,b1,hlen,hz,hb1,heq⟩ := hC
 refine .sq<|.sr<|.m Z Z<|.m Z Z<|.yv (.lss Z Z) Z<|.nt<|.cd Z (fun h9 => ?_) (fun h9 => ?_)
 ·try simp only [dt] at h9
  have hk : k < n := by omega
  refine .sk<|.tN<|.sq<|.bk<|.rg<|.m Z Z<|.m Z Z<|.cs (X := List Value × Value × Hp) Fx.call113 Z (fun W s => num_any M hM 2 (by decide) H1 w0 W _ b arV _ left b1 hb1  (s.pickT (hd := [_,_]) (tl := bs) (hd' := [_,_]) [1,0] Z Z)) Z fun z14 hz14 => ?_
  obtain ⟨x14,v14,H14⟩ := z14
  obtain ⟨u14,r14,q14⟩ := hz14
  dsimp only at u14 r14 q14 ⊢
  generalize hE14 : (numE M 2 b1).1 = e14 at r14
  obtain ⟨op14,nm14,n14,a14⟩ := e14
  obtain ⟨p14,c14,rfl,hs14,hl14⟩ := ex_open r14
  exact .bl Z (Fx.bsl56_1 _ _ _ _) Z fun b15 => .ap (news := [.int .i64 op14.toNat,strV nm14,.int .i64 n14.toInt,.slice p14 a14.length c14]) Fx.row56 Z (fun _ => (.tail<|.tail<|.head)) Z (.box (.head _) z0) Z (by simp [Value.oneCell',strV]) (by simp [maxLen];omega) (by omega) Z fun r16 _ => .a Z Z<|.nl<|.bN<|.tN<|.rg<|.m Z Z<|.yv (.add Z Z (w6 (by omega))) Z<|.a Z Z<|.nt<|.ag (x := (k,H1,r,xs,bv)) (k + 1,H14,r16,xs ++ [.int .i64 op14.toNat,strV nm14,.int .i64 n14.toInt,.slice p14 a14.length c14],v14) ⟨rfl,rfl,trivial⟩ ⟨rfl,rfl,trivial⟩ (fun _ s => (s.pickT (hd := [_,_,_]) (tl := bs) (hd' := [_,_]) [2,1] Z Z)) ⟨by dsimp only;omega,u1.trans u14,es ++ [.mk op14 nm14 n14 a14],(numE M 2 b1).2,by simp;omega,by dsimp only;rw [List.map_append];exact (hz.up u14.up).snoc r14 Z,q14,by dsimp only;rw [heq,show n - k = (n - (k + 1)) + 1 by omega,numL,hE14,List.append_assoc];rfl⟩ (by dsimp only;omega)
 try simp only [df] at h9
 obtain rfl : k = n := by omega
 rw [Nat.sub_self,numL,List.append_nil] at heq
 refine .ex<|.tE<|.tE<|.bE<|.tN<|.sr<|.m Z Z<|.a Z Z<|.nt<|.rt<|?_
 refine At.pt (hd := [_,_]) (tl := bs) (hd' := [_,_]) [0,1] rfl rfl ?_
 refine Sx.freezeAt fun H3 u3 hs3 => ?_
 exact Sx.ret1 (.inl rfl) rfl (.tmp rfl) fun W t => ⟨(r,bv,H3),by rw [heq];exact ⟨u1.trans u3,⟨xs,hz.up u3.up,hs3,hlen⟩,hb1.up u3.up⟩,rfl,t⟩
def TruOf (rec : Bs → Ex × Bs) (M : Mk) (d : Nat) : Prop := ∀ (H : Hp) (w0 W : World) (bs : List Res) (b : Nat) (arV bv : Value) (left : Int) (by_ : Bs),Rep H (.seq 1 ((by_).map dU8)) [bv] → St H w0 (.box b (mkC M arV bv left) 127 :: bs) W →
 Calls Tryz.prog 112 #[.pointer (some ⟨b,0,none⟩),.int .i64 (d : Nat)] W fun e W' => ∃ z : List Value × Value × Hp,(HUp w0 H z.2.2 ∧ Rep z.2.2 (dEx .i64 (rec by_).1) z.1 ∧ Rep z.2.2 (.seq 1 (((rec by_).2).map dU8)) [z.2.1]) ∧ e = .returned (.agg z.1.toArray) ∧ St z.2.2 w0 (.box b (mkC M arV z.2.1 left) 127 :: bs) W'
theorem op2 {n : Nat} (h : n < 2) : (((2 + UInt8.ofNat n).toNat : Nat) : Int) = 2 + (n : Int) := by
 have key : ∀ i ∈ List.range 2,(2 + UInt8.ofNat i).toNat = 2 + i := by decide
 have := key n (List.mem_range.2 h);omega
theorem op16 {n : Nat} (h : n < 10) : (((16 + UInt8.ofNat n).toNat : Nat) : Int) = 16 + (n : Int) := by
 have key : ∀ i ∈ List.range 10,(16 + UInt8.ofNat i).toNat = 16 + i := by decide
 have := key n (List.mem_range.2 h);omega
set_option maxRecDepth 100000 in
theorem truth_step (M : Mk) (hM : okM M) (d : Nat) (hd : d ≤ 2) (rec : Bs → Ex × Bs) (hrec : d ≤ 1 → TruOf rec M (d + 1)) : TruOf (truS M d rec) M d := by
 intro H w0 W bs b arV bv left by_ hb s
 unfold truS
 refine Sx.enterS Tryz.func112 rfl Tryz.ntmps112 rfl s ?_
 refine .sr<|.al Fx.zero58 Z fun b4 => .ns<|.m Z Z<|.cs (X := Value) Fx.call99 Z (fun W s => next_st 10 (by decide) hb  (s.pickT (hd := [_,_]) (tl := bs) (hd' := [_,_]) [1,0] Z Z)) Z fun z10 hz10 => ?_
 have hk12 := nextB_lt by_ (n := 10) (by decide)
 generalize (nextB by_ 10).1 = k at hk12 ⊢
 generalize (nextB by_ 10).2 = b1 at hz10 ⊢
 refine .a Z Z<|.nt<|.cu (X := Unit) [(0,_),(4,_)] ⟨rfl,rfl,trivial⟩ (fun z => []) (fun z => H) (fun z => (.box b (mkC M arV z10 left) 127 :: .box b4 [.int .i64 0,.string ⟨#[]⟩,.int .i64 0,.slice none 0 0] 58 :: bs)) (fun z => ¬ k = 0 ∧ ¬ (k = 1 ∨ (1 < d ∧ 4 < k)) ∧ ¬ (k = 2 ∧ 0 < M.flags) ∧ ¬ (k = 3 ∧ 0 < M.tables) ∧ ¬ k = 5 ∧ ¬ (k = 6 ∨ k = 7)) ?_ fun z hC => ?_
 ·
  refine .bk<|.sr<|.m Z Z<|.yv (.eql Z Z) Z<|.a Z Z<|.nt<|.cd Z (fun h11 => ?_) (fun h11 => ?_)
  ·try simp only [dt] at h11
   refine .sr<|.m Z Z<|.cs (X := Value) Fx.call99 Z (fun W s => next_st 2 (by decide) hz10  (s.pickT (hd := [_,_]) (tl := bs) (hd' := [_,_]) [0,1] Z Z)) Z fun z15 hz15 => .yv (.add Z Z (c := (((2 + UInt8.ofNat (nextB b1 2).1).toNat : Nat) : Int)) (by have := nextB_lt b1 (n := 2) (by decide);rw [op2 this];exact (w6 (by omega)).trans (by omega))) Z<|.yv (.build Z (Fx.bld58_0 _)) Z<|.sW (.tail<|.head) Z Z Fx.size58 (by simp [Value.oneCell',strV]) Z<|.nt<|.rt<|.bR<|.tR<|?_
   exact Sx.ret1 (.inl rfl) rfl (.cell rfl Fx.agg58 (.tail _<|.head _) rfl) fun W t => ⟨(_,_,H),by rw [show truT M d rec k b1 = _ from by rw [truT,if_pos (by omega)]];exact ⟨.refl,ex_shut (args := []) (nm := []) (by decide) (Rep.empty (by decide)),hz15⟩,rfl,(t.pickT (hd := [_,_]) (tl := bs) (hd' := [_]) [0] rfl rfl)⟩
  try simp only [df] at h11
  refine .cu (X := Bool) [(0,_),(1,_),(4,_),(5,_)] ⟨rfl,rfl,rfl,rfl,trivial⟩ (fun z => [(18,.bool z)]) (fun z => H) (fun z => (.box b (mkC M arV z10 left) 127 :: .box b4 [.int .i64 0,.string ⟨#[]⟩,.int .i64 0,.slice none 0 0] 58 :: bs)) (fun z => z = decide (k = 1 ∨ (1 < d ∧ 4 < k))) ?_ fun z hC => ?_
  ·
   refine .rg<|.m Z Z<|.yv (.eql Z Z) Z<|.m Z Z<|.b2 (fun h21 => ?_) (fun h21 => ?_)
   ·try simp only [dt] at h21
    exact .gF Z Z Z Z<|.gF Z Z Z Z<|.gF Z Z Z Z<|.gU Z Z Z<|.gU Z Z Z<|.gF Z Z Z Z<|.yv (.pickT Z Z) Z<|.a Z Z<|.nt<|.me _ ⟨rfl,trivial⟩ ⟨rfl,rfl,rfl,rfl,trivial⟩ (fun _ s => s) (by rw [Bool.eq_iff_iff,decide_eq_true_eq];first | (rw [decide_eq_true_eq];omega) | exact ⟨fun _ => by omega,fun _ => rfl⟩ | exact ⟨fun h => (by cases h),fun h => by omega⟩)
   try simp only [df] at h21
   refine .gd Z Z<|.yv (.move Z) Z<|.gd Z Z<|.yv (.gtr Z Z) Z<|.gd Z Z<|.yv (.move Z) Z<|.b2 (fun h24 => ?_) (fun h24 => ?_)
   ·try simp only [dt] at h24
    exact .gd Z Z<|.yv (.move Z) Z<|.gd Z Z<|.yv (.gtr Z Z) Z<|.gd Z Z<|.yv (.pickT Z Z) Z<|.yv (.pickF Z Z) Z<|.a Z Z<|.nt<|.me _ ⟨rfl,trivial⟩ ⟨rfl,rfl,rfl,rfl,trivial⟩ (fun _ s => s) (by rw [Bool.eq_iff_iff,decide_eq_true_eq];first | (rw [decide_eq_true_eq];omega) | exact ⟨fun _ => by omega,fun _ => rfl⟩ | exact ⟨fun h => (by cases h),fun h => by omega⟩)
   try simp only [df] at h24
   exact .gF Z Z Z Z<|.gF Z Z Z Z<|.gd Z Z<|.yv (.pickF Z Z) Z<|.yv (.pickF Z Z) Z<|.a Z Z<|.nt<|.me _ ⟨rfl,trivial⟩ ⟨rfl,rfl,rfl,rfl,trivial⟩ (fun _ s => s) (by rw [Bool.eq_iff_iff,decide_eq_true_eq];first | (rw [decide_eq_true_eq];omega) | exact ⟨fun _ => by omega,fun _ => rfl⟩ | exact ⟨fun h => (by cases h),fun h => by omega⟩)
  have e18 := hC
  refine .cd Z (fun h18 => ?_) (fun h18 => ?_)
  ·have q18 : k = 1 ∨ (1 < d ∧ 4 < k) := by rw [h18] at e18;exact of_decide_eq_true e18.symm
   refine .sr<|.yv (.build Z (Fx.bld58_0_1 _ _)) Z<|.sW (.tail<|.head) Z Z Fx.size58 (by simp [Value.oneCell',strV]) Z<|.nt<|.rt<|.bR<|.tR<|?_
   exact Sx.ret1 (.inl rfl) rfl (.cell rfl Fx.agg58 (.tail _<|.head _) rfl) fun W t => ⟨(_,_,H),by rw [show truT M d rec k b1 = _ from by rw [truT,if_neg (by omega),if_pos (by omega)]];exact ⟨.refl,ex_shut (args := []) (nm := [98,48]) (by decide) (Rep.empty (by decide)),hz10⟩,rfl,(t.pickT (hd := [_,_]) (tl := bs) (hd' := [_]) [0] rfl rfl)⟩
  have q18 : ¬ (k = 1 ∨ (1 < d ∧ 4 < k)) := by rw [h18] at e18;exact of_decide_eq_false e18.symm
  refine .cu (X := Bool) [(0,_),(1,_),(4,_),(5,_)] ⟨rfl,rfl,rfl,rfl,trivial⟩ (fun z => [(30,.bool z)]) (fun z => H) (fun z => (.box b (mkC M arV z10 left) 127 :: .box b4 [.int .i64 0,.string ⟨#[]⟩,.int .i64 0,.slice none 0 0] 58 :: bs)) (fun z => z = decide (k = 2 ∧ 0 < M.flags)) ?_ fun z hC => ?_
  ·
   refine .rg<|.m Z Z<|.yv (.eql Z Z) Z<|.m Z Z<|.b2 (fun h33 => ?_) (fun h33 => ?_)
   ·try simp only [dt] at h33
    exact .gd Z Z<|.yv (.move Z) Z<|.gd Z Z<|.yv (.nilCheck Z) Z<|.gd Z Z<|.yv (.fieldAddr Z Fx.field127_2) Z<|.gd Z Z<|.yv (.load Z Fx.agg3 (.head _) Z) Z<|.gd Z Z<|.yv (.gtr Z Z) Z<|.yv (.pickT Z Z) Z<|.a Z Z<|.nt<|.me _ ⟨rfl,trivial⟩ ⟨rfl,rfl,rfl,rfl,trivial⟩ (fun _ s => s) (by rw [Bool.eq_iff_iff,decide_eq_true_eq];first | (rw [decide_eq_true_eq];omega) | exact ⟨fun _ => by omega,fun _ => rfl⟩ | exact ⟨fun h => (by cases h),fun h => by omega⟩)
   try simp only [df] at h33
   exact .gF Z Z Z Z<|.gF Z Z Z Z<|.gF Z Z Z Z<|.gF Z Z Z Z<|.gF Z Z Z Z<|.yv (.pickF Z Z) Z<|.a Z Z<|.nt<|.me _ ⟨rfl,trivial⟩ ⟨rfl,rfl,rfl,rfl,trivial⟩ (fun _ s => s) (by rw [Bool.eq_iff_iff,decide_eq_true_eq];first | (rw [decide_eq_true_eq];omega) | exact ⟨fun _ => by omega,fun _ => rfl⟩ | exact ⟨fun h => (by cases h),fun h => by omega⟩)
  have e30 := hC
  refine .cd Z (fun h30 => ?_) (fun h30 => ?_)
  ·have q30 : k = 2 ∧ 0 < M.flags := by rw [h30] at e30;exact of_decide_eq_true e30.symm
   refine .sq<|.fl (trip := [(_,_,_),(_,_,_),(_,_,_),(_,_,_),(_,_,_),(_,_,_),(_,_,_),(_,_,_),(_,_,_),(_,_,_)]) 10 [(1,0),(2,0),(3,0),(4,0),(5,0),(0,1),(6,2),(7,0),(8,0),(9,0)] (by kernel_rfl) (by kernel_rfl) Z<|.m Z Z<|.m Z Z<|.yv (.nilCheck Z) Z<|.yv (.fieldAddr Z Fx.field127_2) Z<|.yv (.load Z Fx.agg3 (.head _) Z) Z<|.ct (X := Value) Fx.call39 Z (fun W s => names_any H 102 2 (by omega) W s.agr) Z fun v40 H40 hn40 u40 => ?_
   obtain ⟨pn40,cn40,e40,_⟩ := hn40.sl
   simp only [List.cons.injEq,and_true,List.length_map,namesB_len] at e40
   subst e40
   obtain ⟨bE,oE,hpE,mE⟩ := name_at hn40 (k := (nextB b1 M.flags).1) (by have := nextB_lt b1 (n := M.flags) (by omega);have := hM.2.2.2;omega)
   subst hpE
   refine .cs (X := Value) Fx.call99 Z (fun W s => next_st M.flags (by omega) (hz10.up u40.up)  (s.pickT (hd := [_,_]) (tl := bs) (hd' := [_,_]) [0,1] Z Z)) Z fun z46 hz46 => .yv (.indexSl Fx.sl54 Z Z (i := (nextB b1 M.flags).1) Z (by have := nextB_lt b1 (n := M.flags) (by omega);have := hM.2.2.2;omega) (q := oE + (nextB b1 M.flags).1 * 1) Z) Z<|.yv (.loadM Z Fx.agg9 mE (k := 0) Z Z) Z<|.yv (.build Z (Fx.bld58_0_1 _ _)) Z<|.fn (tl := [_]) Z<|.sW (.tail<|.head) Z Z Fx.size58 (by simp [Value.oneCell',strV]) Z<|.nt<|.rt<|.bR<|.tR<|?_
   exact Sx.ret1 (.inl rfl) rfl (.cell rfl Fx.agg58 (.tail _<|.head _) rfl) fun W t => ⟨(_,_,H40),by rw [show truT M d rec k b1 = _ from by rw [truT,if_neg (by omega),if_neg (by omega),if_pos (by omega)]];exact ⟨u40,ex_shut (args := []) (by simp [nmB]) (Rep.empty (by decide)),hz46⟩,rfl,(t.pickT (hd := [_,_]) (tl := bs) (hd' := [_]) [0] rfl rfl)⟩
  have q30 : ¬ (k = 2 ∧ 0 < M.flags) := by rw [h30] at e30;exact of_decide_eq_false e30.symm
  refine .cu (X := Bool) [(0,_),(1,_),(4,_),(5,_)] ⟨rfl,rfl,rfl,rfl,trivial⟩ (fun z => [(50,.bool z)]) (fun z => H) (fun z => (.box b (mkC M arV z10 left) 127 :: .box b4 [.int .i64 0,.string ⟨#[]⟩,.int .i64 0,.slice none 0 0] 58 :: bs)) (fun z => z = decide (k = 3 ∧ 0 < M.tables)) ?_ fun z hC => ?_
  ·
   refine .rg<|.m Z Z<|.yv (.eql Z Z) Z<|.m Z Z<|.b2 (fun h53 => ?_) (fun h53 => ?_)
   ·try simp only [dt] at h53
    exact .gd Z Z<|.yv (.move Z) Z<|.gd Z Z<|.yv (.nilCheck Z) Z<|.gd Z Z<|.yv (.fieldAddr Z Fx.field127_1) Z<|.gd Z Z<|.yv (.load Z Fx.agg3 (.head _) Z) Z<|.gd Z Z<|.yv (.gtr Z Z) Z<|.yv (.pickT Z Z) Z<|.a Z Z<|.nt<|.me _ ⟨rfl,trivial⟩ ⟨rfl,rfl,rfl,rfl,trivial⟩ (fun _ s => s) (by rw [Bool.eq_iff_iff,decide_eq_true_eq];first | (rw [decide_eq_true_eq];omega) | exact ⟨fun _ => by omega,fun _ => rfl⟩ | exact ⟨fun h => (by cases h),fun h => by omega⟩)
   try simp only [df] at h53
   exact .gF Z Z Z Z<|.gF Z Z Z Z<|.gF Z Z Z Z<|.gF Z Z Z Z<|.gF Z Z Z Z<|.yv (.pickF Z Z) Z<|.a Z Z<|.nt<|.me _ ⟨rfl,trivial⟩ ⟨rfl,rfl,rfl,rfl,trivial⟩ (fun _ s => s) (by rw [Bool.eq_iff_iff,decide_eq_true_eq];first | (rw [decide_eq_true_eq];omega) | exact ⟨fun _ => by omega,fun _ => rfl⟩ | exact ⟨fun h => (by cases h),fun h => by omega⟩)
  have e50 := hC
  refine .cd Z (fun h50 => ?_) (fun h50 => ?_)
  ·have q50 : k = 3 ∧ 0 < M.tables := by rw [h50] at e50;exact of_decide_eq_true e50.symm
   refine .sr<|.m Z Z<|.cs (X := List Value × Value × Hp) Fx.call113 Z (fun W s => num_any M hM 2 (by decide) H w0 W _ b arV _ left b1 hz10  (s.pickT (hd := [_,_]) (tl := bs) (hd' := [_,_]) [0,1] Z Z)) Z fun z61 hz61 => ?_
   obtain ⟨x61,v61,H61⟩ := z61
   obtain ⟨u61,r61,q61⟩ := hz61
   dsimp only at u61 r61 q61 ⊢
   generalize hE61 : (numE M 2 b1).1 = e61 at r61
   obtain ⟨op61,nm61,n61,a61⟩ := e61
   obtain ⟨p61,c61,rfl,hs61,hl61⟩ := ex_open r61
   refine .bl Z (Fx.bsl56_1 _ _ _ _) Z fun b62 => .yv (.build Z (Fx.bld58_0_1_3 _ _ _ _ _)) Z<|.sW (.tail<|.tail<|.head) Z Z Fx.size58 (by simp [Value.oneCell',strV]) Z<|.nt<|.rt<|.bR<|.tR<|?_
   refine At.pt (hd := [_,_,_]) (tl := bs) (hd' := [_,_,_]) [0,2,1] rfl rfl ?_
   refine Sx.freezeBox fun Hf uf mf => ?_
   exact Sx.ret1 (.inl rfl) rfl (.cell rfl Fx.agg58 (.head _) rfl) fun W t => ⟨(_,_,Hf),by rw [show truT M d rec k b1 = _ from by rw [truT,if_neg (by omega),if_neg (by omega),if_neg (by omega),if_pos (by omega)],hE61];exact ⟨u61.trans uf,ex_shut (nm := [116,48]) (args := [.mk op61 nm61 n61 a61]) (by decide) (Rep.mk (n := 1) (c := 1) mf (.single (r61.up uf.up) rfl) rfl (Nat.le_refl _) (by decide)),q61.up uf.up⟩,rfl,t.drop⟩
  have q50 : ¬ (k = 3 ∧ 0 < M.tables) := by rw [h50] at e50;exact of_decide_eq_false e50.symm
  refine .sr<|.m Z Z<|.yv (.eql Z Z) Z<|.a Z Z<|.nt<|.cd Z (fun h64 => ?_) (fun h64 => ?_)
  ·try simp only [dt] at h64
   refine .sr<|.m Z Z<|.m Z Z<|.yv (.add Z Z (c := ((d + 1 : Nat) : Int)) ((w6 (by omega)).trans (by omega))) Z<|.cs (X := List Value × Value × Hp) Fx.call112 Z (fun W s => hrec (by omega) H w0 W _ b arV _ left b1 hz10  (s.pickT (hd := [_,_]) (tl := bs) (hd' := [_,_]) [0,1] Z Z)) Z fun z70 hz70 => ?_
   obtain ⟨x70,v70,H70⟩ := z70
   obtain ⟨u70,r70,q70⟩ := hz70
   dsimp only at u70 r70 q70 ⊢
   generalize hE70 : (rec b1).1 = e70 at r70
   obtain ⟨op70,nm70,n70,a70⟩ := e70
   obtain ⟨p70,c70,rfl,hs70,hl70⟩ := ex_open r70
   refine .bl Z (Fx.bsl56_1 _ _ _ _) Z fun b71 => .yv (.build Z (Fx.bld58_0_3 _ _ _ _)) Z<|.sW (.tail<|.tail<|.head) Z Z Fx.size58 (by simp [Value.oneCell',strV]) Z<|.nt<|.rt<|.bR<|.tR<|?_
   refine At.pt (hd := [_,_,_]) (tl := bs) (hd' := [_,_,_]) [0,2,1] rfl rfl ?_
   refine Sx.freezeBox fun Hf uf mf => ?_
   exact Sx.ret1 (.inl rfl) rfl (.cell rfl Fx.agg58 (.head _) rfl) fun W t => ⟨(_,_,Hf),by rw [show truT M d rec k b1 = _ from by rw [truT,if_neg (by omega),if_neg (by omega),if_neg (by omega),if_neg (by omega),if_pos (by omega)],hE70];exact ⟨u70.trans uf,ex_shut (nm := []) (args := [.mk op70 nm70 n70 a70]) (by decide) (Rep.mk (n := 1) (c := 1) mf (.single (r70.up uf.up) rfl) rfl (Nat.le_refl _) (by decide)),q70.up uf.up⟩,rfl,t.drop⟩
  try simp only [df] at h64
  refine .cu (X := Bool) [(0,_),(1,_),(4,_),(5,_)] ⟨rfl,rfl,rfl,rfl,trivial⟩ (fun z => [(73,.bool z)]) (fun z => H) (fun z => (.box b (mkC M arV z10 left) 127 :: .box b4 [.int .i64 0,.string ⟨#[]⟩,.int .i64 0,.slice none 0 0] 58 :: bs)) (fun z => z = decide (k = 6 ∨ k = 7)) ?_ fun z hC => ?_
  ·
   refine .rg<|.m Z Z<|.yv (.eql Z Z) Z<|.m Z Z<|.b2 (fun h76 => ?_) (fun h76 => ?_)
   ·try simp only [dt] at h76
    exact .gF Z Z Z Z<|.gF Z Z Z Z<|.yv (.pickT Z Z) Z<|.a Z Z<|.nt<|.me _ ⟨rfl,trivial⟩ ⟨rfl,rfl,rfl,rfl,trivial⟩ (fun _ s => s) (by rw [Bool.eq_iff_iff,decide_eq_true_eq];first | (rw [decide_eq_true_eq];omega) | exact ⟨fun _ => by omega,fun _ => rfl⟩ | exact ⟨fun h => (by cases h),fun h => by omega⟩)
   try simp only [df] at h76
   exact .gd Z Z<|.yv (.move Z) Z<|.gd Z Z<|.yv (.eql Z Z) Z<|.yv (.pickF Z Z) Z<|.a Z Z<|.nt<|.me _ ⟨rfl,trivial⟩ ⟨rfl,rfl,rfl,rfl,trivial⟩ (fun _ s => s) (by rw [Bool.eq_iff_iff,decide_eq_true_eq];first | (rw [decide_eq_true_eq];omega) | exact ⟨fun _ => by omega,fun _ => rfl⟩ | exact ⟨fun h => (by cases h),fun h => by omega⟩)
  have e73 := hC
  refine .cd Z (fun h73 => ?_) (fun h73 => ?_)
  ·have q73 : k = 6 ∨ k = 7 := by rw [h73] at e73;exact of_decide_eq_true e73.symm
   refine .sr<|.m Z Z<|.m Z Z<|.yv (.add Z Z (c := ((d + 1 : Nat) : Int)) ((w6 (by omega)).trans (by omega))) Z<|.cs (X := List Value × Value × Hp) Fx.call112 Z (fun W s => hrec (by omega) H w0 W _ b arV _ left b1 hz10  (s.pickT (hd := [_,_]) (tl := bs) (hd' := [_,_]) [0,1] Z Z)) Z fun z83 hz83 => ?_
   obtain ⟨x83,v83,H83⟩ := z83
   obtain ⟨u83,r83,q83⟩ := hz83
   dsimp only at u83 r83 q83 ⊢
   generalize hE83 : (rec b1).1 = e83 at r83
   obtain ⟨op83,nm83,n83,a83⟩ := e83
   obtain ⟨p83,c83,rfl,hs83,hl83⟩ := ex_open r83
   refine .al Fx.zero58 Z fun b6 => .sW .head Z Z Fx.size58 (by simp [Value.oneCell',strV]) Z<|.nt<|.sq<|.fl (trip := [(_,_,_),(_,_,_),(_,_,_),(_,_,_),(_,_,_),(_,_,_),(_,_,_),(_,_,_),(_,_,_)]) 9 [(0,0),(1,0),(2,0),(3,0),(4,0),(5,0),(6,3),(7,1),(8,0)] (by kernel_rfl) (by kernel_rfl) Z<|.m Z Z<|.yv (.add Z Z (c := (((16 + UInt8.ofNat k).toNat : Nat) : Int)) (by rw [op16 hk12];exact (w6 (by omega)).trans (by omega))) Z<|.yv (.loadW Z Fx.agg58 (.head _) Z) Z<|.m Z Z<|.m Z Z<|.yv (.add Z Z (c := ((d + 1 : Nat) : Int)) ((w6 (by omega)).trans (by omega))) Z<|.c3 (X := List Value × Value × Hp) Fx.call112 Z (fun W s => hrec (by omega) H83 w0 W _ b arV _ left (rec b1).2 q83  (s.pickT (hd := [_,_,_]) (tl := bs) (hd' := [_,_,_]) [1,0,2] Z Z)) Z (fun z90 hz90 => (.done (by kernel_rfl)<|.done (by kernel_rfl)<|.done (by kernel_rfl)<|.yv (.loadW Z Fx.agg58 (.tail _<|.head _) Z)<|.yv (.add Z Z (c := (((16 + UInt8.ofNat k).toNat : Nat) : Int)) (by rw [op16 hk12];exact (w6 (by omega)).trans (by omega)))<|.yv (.move Z)<|.nl)) fun z90 hz90 => ?_
   obtain ⟨x90,v90,H90⟩ := z90
   obtain ⟨u90,r90,q90⟩ := hz90
   dsimp only at u90 r90 q90 ⊢
   generalize hE90 : (rec (rec b1).2).1 = e90 at r90
   obtain ⟨op90,nm90,n90,a90⟩ := e90
   obtain ⟨p90,c90,rfl,hs90,hl90⟩ := ex_open r90
   refine .bl Z (Fx.bsl56_2 _ _ _ _ _ _ _ _) Z fun b91 => .yv (.build Z (Fx.bld58_0_3 _ _ _ _)) Z<|.fn (tl := [_]) Z<|.sW (.tail<|.tail<|.tail<|.head) Z Z Fx.size58 (by simp [Value.oneCell',strV]) Z<|.nt<|.rt<|.bR<|.tR<|?_
   refine At.pt (hd := [_,_,_,_]) (tl := bs) (hd' := [_,_,_]) [0,3,1] rfl rfl ?_
   refine Sx.freezeBox fun Hf uf mf => ?_
   exact Sx.ret1 (.inl rfl) rfl (.cell rfl Fx.agg58 (.head _) rfl) fun W t => ⟨(_,_,Hf),by rw [show truT M d rec k b1 = _ from by rw [truT,if_neg (by omega),if_neg (by omega),if_neg (by omega),if_neg (by omega),if_neg (by omega),if_pos (by omega)],hE83,hE90];exact ⟨(u83.trans u90).trans uf,ex_shut (nm := []) (args := [.mk op83 nm83 n83 a83,.mk op90 nm90 n90 a90]) (by decide) (Rep.mk (n := 2) (c := 2) mf (RepZ.app (RepZ.single ((r83.up u90.up).up uf.up) rfl) (RepZ.single (r90.up uf.up) rfl)) rfl (Nat.le_refl _) (by decide)),q90.up uf.up⟩,rfl,t.drop⟩
  have q73 : ¬ (k = 6 ∨ k = 7) := by rw [h73] at e73;exact of_decide_eq_false e73.symm
  exact .sk<|.bN<|.tN<|.me () trivial ⟨rfl,rfl,trivial⟩ (fun _ s => s) (by omega)
 obtain ⟨hc1,hc2,hc3,hc4,hc5,hc6⟩ := hC
 refine .sr<|.m Z Z<|.cs (X := Value) Fx.call99 Z (fun W s => next_st 6 (by decide) hz10  (s.pickT (hd := [_,_]) (tl := bs) (hd' := [_,_]) [0,1] Z Z)) Z fun z94 hz94 => .yv (.add Z Z (c := (((16 + UInt8.ofNat (nextB b1 6).1).toNat : Nat) : Int)) (by have := nextB_lt b1 (n := 6) (by decide);rw [op16 (by omega)];exact (w6 (by omega)).trans (by omega))) Z<|.a Z Z<|.ns<|.m Z Z<|.cs (X := List Value × Value × Hp) Fx.call113 Z (fun W s => num_any M hM 2 (by decide) H w0 W _ b arV _ left (nextB b1 6).2 hz94  (s.pickT (hd := [_,_]) (tl := bs) (hd' := [_,_]) [0,1] Z Z)) Z fun z97 hz97 => ?_
 obtain ⟨x97,v97,H97⟩ := z97
 obtain ⟨u97,r97,q97⟩ := hz97
 dsimp only at u97 r97 q97 ⊢
 generalize hE97 : (numE M 2 (nextB b1 6).2).1 = e97 at r97
 obtain ⟨op97,nm97,n97,a97⟩ := e97
 obtain ⟨p97,c97,rfl,hs97,hl97⟩ := ex_open r97
 refine .al Fx.zero58 Z fun b8 => .sW .head Z Z Fx.size58 (by simp [Value.oneCell',strV]) Z<|.nt<|.sq<|.fl (trip := [(_,_,_),(_,_,_),(_,_,_),(_,_,_),(_,_,_),(_,_,_)]) 6 [(0,0),(1,0),(2,0),(3,3),(4,1),(5,0)] (by kernel_rfl) (by kernel_rfl) Z<|.m Z Z<|.yv (.loadW Z Fx.agg58 (.head _) Z) Z<|.m Z Z<|.c3 (X := List Value × Value × Hp) Fx.call113 Z (fun W s => num_any M hM 2 (by decide) H97 w0 W _ b arV _ left (numE M 2 (nextB b1 6).2).2 q97  (s.pickT (hd := [_,_,_]) (tl := bs) (hd' := [_,_,_]) [1,0,2] Z Z)) Z (fun z101 hz101 => (.done (by kernel_rfl)<|.yv (.loadW Z Fx.agg58 (.tail _<|.head _) Z)<|.yv (.move Z)<|.nl)) fun z101 hz101 => ?_
 obtain ⟨x101,v101,H101⟩ := z101
 obtain ⟨u101,r101,q101⟩ := hz101
 dsimp only at u101 r101 q101 ⊢
 generalize hE101 : (numE M 2 (numE M 2 (nextB b1 6).2).2).1 = e101 at r101
 obtain ⟨op101,nm101,n101,a101⟩ := e101
 obtain ⟨p101,c101,rfl,hs101,hl101⟩ := ex_open r101
 refine .bl Z (Fx.bsl56_2 _ _ _ _ _ _ _ _) Z fun b102 => .yv (.build Z (Fx.bld58_0_3 _ _ _ _)) Z<|.fn (tl := [_]) Z<|.sW (.tail<|.tail<|.tail<|.head) Z Z Fx.size58 (by simp [Value.oneCell',strV]) Z<|.nt<|.rt<|?_
 refine At.pt (hd := [_,_,_,_]) (tl := bs) (hd' := [_,_,_]) [0,3,1] rfl rfl ?_
 refine Sx.freezeBox fun Hf uf mf => ?_
 exact Sx.ret1 (.inl rfl) rfl (.cell rfl Fx.agg58 (.head _) rfl) fun W t => ⟨(_,_,Hf),by rw [show truT M d rec k b1 = _ from by rw [truT,if_neg (by omega),if_neg (by omega),if_neg (by omega),if_neg (by omega),if_neg (by omega),if_neg (by omega)],hE97,hE101];exact ⟨(u97.trans u101).trans uf,ex_shut (nm := []) (args := [.mk op97 nm97 n97 a97,.mk op101 nm101 n101 a101]) (by decide) (Rep.mk (n := 2) (c := 2) mf (RepZ.app (RepZ.single ((r97.up u101.up).up uf.up) rfl) (RepZ.single (r101.up uf.up) rfl)) rfl (Nat.le_refl _) (by decide)),q101.up uf.up⟩,rfl,t.drop⟩
theorem truth_any (M : Mk) (hM : okM M) : ∀ f,f ≤ 2 → TruOf (truE M f) M (2 - f)
 | 0,_ => truth_step M hM 2 (by omega) _ (fun h => by omega)
 | f + 1,hf => by
  have e : 2 - (f + 1) = 1 - f := by omega
  rw [e]
  refine truth_step M hM (1 - f) (by omega) (truE M f) fun _ => ?_
  rw [show 1 - f + 1 = 2 - f by omega]
  exact truth_any M hM f (by omega)
def BodOf (bd : Bs × Nat → List Sm × (Bs × Nat)) (M : Mk) (d : Nat) : Prop := ∀ (H : Hp) (w0 W : World) (bs : List Res) (b : Nat) (arV bv : Value) (lf : Nat) (by_ : Bs),lf ≤ 12 → Rep H (.seq 1 (M.ars.map dAr)) [arV] → Rep H (.seq 1 ((by_).map dU8)) [bv] → St H w0 (.box b (mkC M arV bv (lf : Nat)) 127 :: bs) W →
 Calls Tryz.prog 76 #[.pointer (some ⟨b,0,none⟩),.int .i64 (d : Nat)] W fun e W' => ∃ z : Value × Value × Hp,(HUp w0 H z.2.2 ∧ Rep z.2.2 (.seq 6 ((bd (by_,lf)).1.map (dSm .i64))) [z.1] ∧ Rep z.2.2 (.seq 1 (((bd (by_,lf)).2.1).map dU8)) [z.2.1] ∧ (bd (by_,lf)).2.2 ≤ 12) ∧ e = .returned z.1 ∧ St z.2.2 w0 (.box b (mkC M arV z.2.1 ((bd (by_,lf)).2.2 : Nat)) 127 :: bs) W'
def StOf (bd : Bs × Nat → List Sm × (Bs × Nat)) (M : Mk) (d : Nat) : Prop := ∀ (H : Hp) (w0 W : World) (bs : List Res) (b : Nat) (arV bv : Value) (lf : Nat) (by_ : Bs) (k : Nat),lf ≤ 12 → Rep H (.seq 1 (M.ars.map dAr)) [arV] → Rep H (.seq 1 ((by_).map dU8)) [bv] → St H w0 (.box b (mkC M arV bv (lf : Nat)) 127 :: bs) W →
 Calls Tryz.prog 100 #[.pointer (some ⟨b,0,none⟩),.int .i64 (k : Nat),.int .i64 (d : Nat)] W fun e W' => ∃ z : List Value × Value × Hp,(HUp w0 H z.2.2 ∧ Rep z.2.2 (dSm .i64 (stmT M k d bd by_ lf).1) z.1 ∧ Rep z.2.2 (.seq 1 (((stmT M k d bd by_ lf).2.1).map dU8)) [z.2.1] ∧ (stmT M k d bd by_ lf).2.2 ≤ 12) ∧ e = .returned (.agg z.1.toArray) ∧ St z.2.2 w0 (.box b (mkC M arV z.2.1 ((stmT M k d bd by_ lf).2.2 : Nat)) 127 :: bs) W'
def okA (M : Mk) : Prop := okM M ∧ 0 < M.ars.length ∧ M.ars.length ≤ 3 ∧ M.own < M.ars.length ∧ ∀ l ∈ M.ars,0 < l.length ∧ l.length ≤ 3 ∧ ∀ n ∈ l,n ≤ 2
theorem okA.len {M : Mk} (h : okA M) {c : Nat} (hc : c < M.ars.length) : 0 < arL M c ∧ arL M c ≤ 3 := by
 have := h.2.2.2.2 _ (List.getElem_mem hc)
 unfold arL;rw [getD_at hc];exact ⟨this.1,this.2.1⟩
theorem okA.num {M : Mk} (h : okA M) {c k : Nat} (hc : c < M.ars.length) (hk : k < arL M c) : arN M c k ≤ 2 := by
 have := h.2.2.2.2 _ (List.getElem_mem hc)
 unfold arL at hk
 unfold arN
 rw [getD_at hc] at hk ⊢
 rw [getD_at hk];exact this.2.2 _ (List.getElem_mem hk)
theorem ar_at {H : Hp} {M : Mk} {pA : Option Addr} {cA c : Nat} (h : Rep H (.seq 1 (M.ars.map dAr)) [.slice pA M.ars.length cA]) (hc : c < M.ars.length) : ∃ b o p k,pA = some ⟨b,o,none⟩ ∧ MemAt H b (o + c * 1) [.slice p (arL M c) k] ∧ Rep H (.seq 1 ((M.ars.getD c []).map dNat)) [.slice p (arL M c) k] := by
 obtain ⟨b,o,cs,e,r,l,m⟩ := h.elem (map_at (f := dAr) hc)
 unfold dAr at r
 obtain ⟨p,k,rfl,_⟩ := r.sl
 rw [List.length_map] at r m
 refine ⟨b,o,p,k,e,?_,?_⟩
 ·unfold arL;rw [getD_at hc];exact m
 ·unfold arL;rw [getD_at hc];exact r
theorem arn_at {H : Hp} {M : Mk} {p : Option Addr} {c k j : Nat} (h : Rep H (.seq 1 ((M.ars.getD c []).map dNat)) [.slice p (arL M c) k]) (hj : j < arL M c) : ∃ b o,p = some ⟨b,o,none⟩ ∧ MemAt H b (o + j * 1) [.int .i64 (arN M c j : Nat)] := by
 unfold arL at hj
 obtain ⟨b,o,cs,e,r,l,m⟩ := h.elem (map_at (f := dNat) hj)
 unfold dNat Rep at r
 obtain ⟨rfl,_⟩ := r
 refine ⟨b,o,e,?_⟩
 unfold arN;rw [getD_at hj];exact m
theorem abc_at {c : Nat} (h : c < 3) : [strV [97],strV [98],strV [99]][c]? = some (strV [UInt8.ofNat (97 + c)]) := by
 match c,h with
 | 0,_ => rfl
 | 1,_ => rfl
 | 2,_ => rfl
set_option maxHeartbeats 1000000 in
set_option maxRecDepth 100000 in
theorem stmt_step (M : Mk) (hM : okA M) (d : Nat) (hd : d ≤ 3) (bd : Bs × Nat → List Sm × (Bs × Nat)) (hbd : d < 3 → BodOf bd M (d + 1)) : StOf bd M d := by
 intro H w0 W bs b arV bv lf by_ k hlf hAr hb s
 obtain ⟨pA,cA,eA,_⟩ := hAr.sl
 simp only [List.cons.injEq,and_true,List.length_map] at eA
 subst eA
 rw [← List.length_map (f := dAr)] at hAr
 rw [List.length_map] at hAr
 have hcapA := hAr.cap
 refine Sx.enterS Tryz.func100 rfl Tryz.ntmps100 rfl s ?_
 refine .sr<|.al Fx.zero85 Z fun b6 => .nt<|.cu (X := Value) [(0,_),(6,_)] ⟨rfl,rfl,trivial⟩ (fun z => []) (fun z => H) (fun z => (.box b (mkC M (.slice pA M.ars.length cA) z (lf : Nat)) 127 :: .box b6 [.int .i64 0,.string ⟨#[]⟩,.string ⟨#[]⟩,.slice none 0 0,.slice none 0 0,.slice none 0 0] 85 :: bs)) (fun z => Rep H (.seq 1 ((if k = 12 then (nextB by_ 3).2 else by_).map dU8)) [z] ∧ ¬ k = 2 ∧ ¬ (k = 3 ∧ 0 < M.tables) ∧ ¬ (k = 4 ∧ 0 < M.tables) ∧ ¬ ((k = 5 ∨ k = 6) ∧ d < 3) ∧ ¬ (k = 7 ∧ d < 2) ∧ ¬ (k = 8 ∨ k = 9) ∧ ¬ k = 10 ∧ ¬ (k = 11 ∧ d < 3) ∧ ¬ (k = 12 ∧ (nextB by_ 3).1 = 0)) ?_ fun z hC => ?_
 ·
  refine .bk<|.sr<|.m Z Z<|.yv (.eql Z Z) Z<|.a Z Z<|.nt<|.cd Z (fun h18 => ?_) (fun h18 => ?_)
  ·try simp only [dt] at h18
   refine .sr<|.m Z Z<|.cs (X := List Value × Value × Hp) Fx.call112 Z (fun W s => truth_any M hM.1 2 (by decide) H w0 W _ b _ _ _ by_ hb  (s.pickT (hd := [_,_]) (tl := bs) (hd' := [_,_]) [1,0] Z Z)) Z fun z22 hz22 => ?_
   obtain ⟨x22,v22,H22⟩ := z22
   obtain ⟨u22,r22,q22⟩ := hz22
   dsimp only at u22 r22 q22 ⊢
   generalize hE22 : (truE M 2 by_).1 = e22 at r22
   obtain ⟨op22,nm22,n22,a22⟩ := e22
   obtain ⟨p22,c22,rfl,hs22,hl22⟩ := ex_open r22
   refine .bl Z (Fx.bsl56_1 _ _ _ _) Z fun b23 => .yv (.build Z (Fx.bld85_0_1_3 _ _ _ _ _)) Z<|.sW (.tail<|.tail<|.head) Z Z Fx.size85 (by simp [Value.oneCell',strV]) Z<|.nt<|.rt<|.bR<|.tR<|?_
   refine At.pt (hd := [_,_,_]) (tl := bs) (hd' := [_,_,_]) [0,2,1] rfl rfl ?_
   refine Sx.freezeBox fun Hf uf mf => ?_
   exact Sx.ret1 (.inl rfl) rfl (.cell rfl Fx.agg85 (.head _) rfl) fun W t => ⟨(_,_,Hf),by rw [show stmT M k d bd by_ lf = _ from by rw [stmT,if_pos (by omega)],hE22];exact ⟨u22.trans uf,sm_shut (kd := 1) (nm := [98,48]) (hd := []) (ex := [.mk op22 nm22 n22 a22]) (th := []) (el := []) (by first | decide | simp [nmB]) (by first | decide | simp [nmB]) (Rep.mk (n := 1) (c := 1) mf (.single ((r22).up uf.up) rfl) rfl (Nat.le_refl _) (by decide)) (Rep.empty (by decide)) (Rep.empty (by decide)),q22.up uf.up,hlf⟩,rfl,by rw [show stmT M k d bd by_ lf = _ from by rw [stmT,if_pos (by omega)],hE22];exact t.drop⟩
  try simp only [df] at h18
  refine .cu (X := Bool) [(0,_),(1,_),(2,_),(6,_)] ⟨rfl,rfl,rfl,rfl,trivial⟩ (fun z => [(25,.bool z)]) (fun z => H) (fun z => (.box b (mkC M (.slice pA M.ars.length cA) bv (lf : Nat)) 127 :: .box b6 [.int .i64 0,.string ⟨#[]⟩,.string ⟨#[]⟩,.slice none 0 0,.slice none 0 0,.slice none 0 0] 85 :: bs)) (fun z => z = decide (k = 3 ∧ 0 < M.tables)) ?_ fun z hC => ?_
  ·
   refine .rg<|.m Z Z<|.yv (.eql Z Z) Z<|.m Z Z<|.b2 (fun h28 => ?_) (fun h28 => ?_)
   ·try simp only [dt] at h28
    exact .gd Z Z<|.yv (.move Z) Z<|.gd Z Z<|.yv (.nilCheck Z) Z<|.gd Z Z<|.yv (.fieldAddr Z Fx.field127_1) Z<|.gd Z Z<|.yv (.load Z Fx.agg3 (.tail _<|.head _) Z) Z<|.gd Z Z<|.yv (.gtr Z Z) Z<|.yv (.pickT Z Z) Z<|.a Z Z<|.nt<|.me _ ⟨rfl,trivial⟩ ⟨rfl,rfl,rfl,rfl,trivial⟩ (fun _ s => (s.pickT (hd := [_,_]) (tl := bs) (hd' := [_,_]) [1,0] Z Z)) (by rw [Bool.eq_iff_iff,decide_eq_true_eq];first | (rw [decide_eq_true_eq];omega) | exact ⟨fun _ => by omega,fun _ => rfl⟩ | exact ⟨fun h => (by cases h),fun h => by omega⟩)
   try simp only [df] at h28
   exact .gF Z Z Z Z<|.gF Z Z Z Z<|.gF Z Z Z Z<|.gF Z Z Z Z<|.gF Z Z Z Z<|.yv (.pickF Z Z) Z<|.a Z Z<|.nt<|.me _ ⟨rfl,trivial⟩ ⟨rfl,rfl,rfl,rfl,trivial⟩ (fun _ s => (s.pickT (hd := [_,_]) (tl := bs) (hd' := [_,_]) [1,0] Z Z)) (by rw [Bool.eq_iff_iff,decide_eq_true_eq];first | (rw [decide_eq_true_eq];omega) | exact ⟨fun _ => by omega,fun _ => rfl⟩ | exact ⟨fun h => (by cases h),fun h => by omega⟩)
  have e25 := hC
  refine .cd Z (fun h25 => ?_) (fun h25 => ?_)
  ·have q25 : k = 3 ∧ 0 < M.tables := by rw [h25] at e25;exact of_decide_eq_true e25.symm
   refine .sr<|.m Z Z<|.cs (X := List Value × Value × Hp) Fx.call113 Z (fun W s => num_any M hM.1 3 (by decide) H w0 W _ b _ _ _ by_ hb  (s.pickT (hd := [_,_]) (tl := bs) (hd' := [_,_]) [0,1] Z Z)) Z fun z36 hz36 => ?_
   obtain ⟨x36,v36,H36⟩ := z36
   obtain ⟨u36,r36,q36⟩ := hz36
   dsimp only at u36 r36 q36 ⊢
   generalize hE36 : (numE M 3 by_).1 = e36 at r36
   obtain ⟨op36,nm36,n36,a36⟩ := e36
   obtain ⟨p36,c36,rfl,hs36,hl36⟩ := ex_open r36
   refine .m Z Z<|.cs (X := List Value × Value × Hp) Fx.call113 Z (fun W s => num_any M hM.1 3 (by decide) H36 w0 W _ b _ _ _ _ q36  (s.pickT (hd := [_,_]) (tl := bs) (hd' := [_,_]) [0,1] Z Z)) Z fun z38 hz38 => ?_
   obtain ⟨x38,v38,H38⟩ := z38
   obtain ⟨u38,r38,q38⟩ := hz38
   dsimp only at u38 r38 q38 ⊢
   generalize hE38 : (numE M 3 (numE M 3 by_).2).1 = e38 at r38
   obtain ⟨op38,nm38,n38,a38⟩ := e38
   obtain ⟨p38,c38,rfl,hs38,hl38⟩ := ex_open r38
   refine .bl Z (Fx.bsl56_2 _ _ _ _ _ _ _ _) Z fun b39 => .yv (.build Z (Fx.bld85_0_1_3 _ _ _ _ _)) Z<|.sW (.tail<|.tail<|.head) Z Z Fx.size85 (by simp [Value.oneCell',strV]) Z<|.nt<|.rt<|.bR<|.tR<|?_
   refine At.pt (hd := [_,_,_]) (tl := bs) (hd' := [_,_,_]) [0,2,1] rfl rfl ?_
   refine Sx.freezeBox fun Hf uf mf => ?_
   exact Sx.ret1 (.inl rfl) rfl (.cell rfl Fx.agg85 (.head _) rfl) fun W t => ⟨(_,_,Hf),by rw [show stmT M k d bd by_ lf = _ from by rw [stmT,if_neg (by omega),if_pos (by omega)],hE36,hE38];exact ⟨(u36.trans u38).trans uf,sm_shut (kd := 2) (nm := [116,48]) (hd := []) (ex := [.mk op36 nm36 n36 a36,.mk op38 nm38 n38 a38]) (th := []) (el := []) (by first | decide | simp [nmB]) (by first | decide | simp [nmB]) (Rep.mk (n := 2) (c := 2) mf (RepZ.app (RepZ.single ((r36.up u38.up).up uf.up) rfl) (RepZ.single (r38.up uf.up) rfl)) rfl (Nat.le_refl _) (by decide)) (Rep.empty (by decide)) (Rep.empty (by decide)),q38.up uf.up,hlf⟩,rfl,by rw [show stmT M k d bd by_ lf = _ from by rw [stmT,if_neg (by omega),if_pos (by omega)],hE36,hE38];exact t.drop⟩
  have q25 : ¬ (k = 3 ∧ 0 < M.tables) := by rw [h25] at e25;exact of_decide_eq_false e25.symm
  refine .cu (X := Bool) [(0,_),(1,_),(2,_),(6,_)] ⟨rfl,rfl,rfl,rfl,trivial⟩ (fun z => [(41,.bool z)]) (fun z => H) (fun z => (.box b (mkC M (.slice pA M.ars.length cA) bv (lf : Nat)) 127 :: .box b6 [.int .i64 0,.string ⟨#[]⟩,.string ⟨#[]⟩,.slice none 0 0,.slice none 0 0,.slice none 0 0] 85 :: bs)) (fun z => z = decide (k = 4 ∧ 0 < M.tables)) ?_ fun z hC => ?_
  ·
   refine .rg<|.m Z Z<|.yv (.eql Z Z) Z<|.m Z Z<|.b2 (fun h44 => ?_) (fun h44 => ?_)
   ·try simp only [dt] at h44
    exact .gd Z Z<|.yv (.move Z) Z<|.gd Z Z<|.yv (.nilCheck Z) Z<|.gd Z Z<|.yv (.fieldAddr Z Fx.field127_1) Z<|.gd Z Z<|.yv (.load Z Fx.agg3 (.head _) Z) Z<|.gd Z Z<|.yv (.gtr Z Z) Z<|.yv (.pickT Z Z) Z<|.a Z Z<|.nt<|.me _ ⟨rfl,trivial⟩ ⟨rfl,rfl,rfl,rfl,trivial⟩ (fun _ s => s) (by rw [Bool.eq_iff_iff,decide_eq_true_eq];first | (rw [decide_eq_true_eq];omega) | exact ⟨fun _ => by omega,fun _ => rfl⟩ | exact ⟨fun h => (by cases h),fun h => by omega⟩)
   try simp only [df] at h44
   exact .gF Z Z Z Z<|.gF Z Z Z Z<|.gF Z Z Z Z<|.gF Z Z Z Z<|.gF Z Z Z Z<|.yv (.pickF Z Z) Z<|.a Z Z<|.nt<|.me _ ⟨rfl,trivial⟩ ⟨rfl,rfl,rfl,rfl,trivial⟩ (fun _ s => s) (by rw [Bool.eq_iff_iff,decide_eq_true_eq];first | (rw [decide_eq_true_eq];omega) | exact ⟨fun _ => by omega,fun _ => rfl⟩ | exact ⟨fun h => (by cases h),fun h => by omega⟩)
  have e41 := hC
  refine .cd Z (fun h41 => ?_) (fun h41 => ?_)
  ·have q41 : k = 4 ∧ 0 < M.tables := by rw [h41] at e41;exact of_decide_eq_true e41.symm
   refine .sr<|.m Z Z<|.cs (X := List Value × Value × Hp) Fx.call113 Z (fun W s => num_any M hM.1 3 (by decide) H w0 W _ b _ _ _ by_ hb  (s.pickT (hd := [_,_]) (tl := bs) (hd' := [_,_]) [0,1] Z Z)) Z fun z52 hz52 => ?_
   obtain ⟨x52,v52,H52⟩ := z52
   obtain ⟨u52,r52,q52⟩ := hz52
   dsimp only at u52 r52 q52 ⊢
   generalize hE52 : (numE M 3 by_).1 = e52 at r52
   obtain ⟨op52,nm52,n52,a52⟩ := e52
   obtain ⟨p52,c52,rfl,hs52,hl52⟩ := ex_open r52
   refine .bl Z (Fx.bsl56_1 _ _ _ _) Z fun b53 => .yv (.build Z (Fx.bld85_0_1_3 _ _ _ _ _)) Z<|.sW (.tail<|.tail<|.head) Z Z Fx.size85 (by simp [Value.oneCell',strV]) Z<|.nt<|.rt<|.bR<|.tR<|?_
   refine At.pt (hd := [_,_,_]) (tl := bs) (hd' := [_,_,_]) [0,2,1] rfl rfl ?_
   refine Sx.freezeBox fun Hf uf mf => ?_
   exact Sx.ret1 (.inl rfl) rfl (.cell rfl Fx.agg85 (.head _) rfl) fun W t => ⟨(_,_,Hf),by rw [show stmT M k d bd by_ lf = _ from by rw [stmT,if_neg (by omega),if_neg (by omega),if_pos (by omega)],hE52];exact ⟨u52.trans uf,sm_shut (kd := 3) (nm := [116,48]) (hd := []) (ex := [.mk op52 nm52 n52 a52]) (th := []) (el := []) (by first | decide | simp [nmB]) (by first | decide | simp [nmB]) (Rep.mk (n := 1) (c := 1) mf (.single ((r52).up uf.up) rfl) rfl (Nat.le_refl _) (by decide)) (Rep.empty (by decide)) (Rep.empty (by decide)),q52.up uf.up,hlf⟩,rfl,by rw [show stmT M k d bd by_ lf = _ from by rw [stmT,if_neg (by omega),if_neg (by omega),if_pos (by omega)],hE52];exact t.drop⟩
  have q41 : ¬ (k = 4 ∧ 0 < M.tables) := by rw [h41] at e41;exact of_decide_eq_false e41.symm
  refine .cu (X := Bool) [(0,_),(1,_),(2,_),(6,_)] ⟨rfl,rfl,rfl,rfl,trivial⟩ (fun z => [(55,.bool z)]) (fun z => H) (fun z => (.box b (mkC M (.slice pA M.ars.length cA) bv (lf : Nat)) 127 :: .box b6 [.int .i64 0,.string ⟨#[]⟩,.string ⟨#[]⟩,.slice none 0 0,.slice none 0 0,.slice none 0 0] 85 :: bs)) (fun z => z = decide ((k = 5 ∨ k = 6) ∧ d < 3)) ?_ fun z hC => ?_
  ·
   refine .rg<|.m Z Z<|.yv (.eql Z Z) Z<|.m Z Z<|.b2 (fun h58 => ?_) (fun h58 => ?_)
   ·try simp only [dt] at h58
    exact .gF Z Z Z Z<|.gF Z Z Z Z<|.yv (.pickT Z Z) Z<|.m Z Z<|.gd Z Z<|.yv (.move Z) Z<|.gd Z Z<|.yv (.lss Z Z) Z<|.yv (.pickT Z Z) Z<|.a Z Z<|.nt<|.me _ ⟨rfl,trivial⟩ ⟨rfl,rfl,rfl,rfl,trivial⟩ (fun _ s => s) (by rw [Bool.eq_iff_iff,decide_eq_true_eq];first | (rw [decide_eq_true_eq];omega) | exact ⟨fun _ => by omega,fun _ => rfl⟩ | exact ⟨fun h => (by cases h),fun h => by omega⟩)
   try simp only [df] at h58
   refine .gd Z Z<|.yv (.move Z) Z<|.gd Z Z<|.yv (.eql Z Z) Z<|.yv (.pickF Z Z) Z<|.m Z Z<|.b2 (fun h62 => ?_) (fun h62 => ?_)
   ·try simp only [dt] at h62
    exact .gd Z Z<|.yv (.move Z) Z<|.gd Z Z<|.yv (.lss Z Z) Z<|.yv (.pickT Z Z) Z<|.a Z Z<|.nt<|.me _ ⟨rfl,trivial⟩ ⟨rfl,rfl,rfl,rfl,trivial⟩ (fun _ s => s) (by rw [Bool.eq_iff_iff,decide_eq_true_eq];first | (rw [decide_eq_true_eq];omega) | exact ⟨fun _ => by omega,fun _ => rfl⟩ | exact ⟨fun h => (by cases h),fun h => by omega⟩)
   try simp only [df] at h62
   exact .gF Z Z Z Z<|.gF Z Z Z Z<|.yv (.pickF Z Z) Z<|.a Z Z<|.nt<|.me _ ⟨rfl,trivial⟩ ⟨rfl,rfl,rfl,rfl,trivial⟩ (fun _ s => s) (by rw [Bool.eq_iff_iff,decide_eq_true_eq];first | (rw [decide_eq_true_eq];omega) | exact ⟨fun _ => by omega,fun _ => rfl⟩ | exact ⟨fun h => (by cases h),fun h => by omega⟩)
  have e55 := hC
  refine .cd Z (fun h55 => ?_) (fun h55 => ?_)
  ·have q55 : (k = 5 ∨ k = 6) ∧ d < 3 := by rw [h55] at e55;exact of_decide_eq_true e55.symm
   refine .sr<|.m Z Z<|.cs (X := List Value × Value × Hp) Fx.call112 Z (fun W s => truth_any M hM.1 2 (by decide) H w0 W _ b _ _ _ by_ hb  (s.pickT (hd := [_,_]) (tl := bs) (hd' := [_,_]) [0,1] Z Z)) Z fun z67 hz67 => ?_
   obtain ⟨x67,v67,H67⟩ := z67
   obtain ⟨u67,r67,q67⟩ := hz67
   dsimp only at u67 r67 q67 ⊢
   generalize hE67 : (truE M 2 by_).1 = e67 at r67
   obtain ⟨op67,nm67,n67,a67⟩ := e67
   obtain ⟨p67,c67,rfl,hs67,hl67⟩ := ex_open r67
   refine .al Fx.zero58 Z fun b7 => .sW .head Z Z Fx.size58 (by simp [Value.oneCell',strV]) Z<|.ns<|.m Z Z<|.m Z Z<|.yv (.add Z Z (c := ((d + 1 : Nat) : Int)) ((w6 (by omega)).trans (by omega))) Z<|.cs (X := Value × Value × Hp) Fx.call76 Z (fun W s => hbd (by omega) H67 w0 W _ b _ _ lf _ hlf (hAr.up u67.up) q67  (s.pickT (hd := [_,_,_]) (tl := bs) (hd' := [_,_,_]) [1,0,2] Z Z)) Z fun z71 hz71 => ?_
   obtain ⟨x71,v71,H71⟩ := z71
   obtain ⟨u71,r71,q71,l71⟩ := hz71
   dsimp only at u71 r71 q71 ⊢
   obtain ⟨pb71,cb71,eb71,_⟩ := r71.sl
   simp only [List.cons.injEq,and_true,List.length_map] at eb71
   subst eb71
   refine .a Z Z<|.nt<|.sq<|.ft (p := .light _ _ (.light _ _ (.light _ _ (.light _ _ (.light _ _ (.alt _ _ _ (.alt _ _ _ (.light _ _ (.done)) (.no)) (.alt _ _ _ (.alt _ _ _ (.light _ _ (.done)) (.no)) (.no)))))))) 8 (.light 0 (.light 2 (.light 3 (.light 4 (.light 5 (.alt 1 0 (.alt 6 2 (.light 7 (.done)) (.no)) (.alt 6 2 (.alt 1 0 (.light 7 (.done)) (.no)) (.no)))))))) (by kernel_rfl) (by kernel_rfl) Z<|.yv (.loadW Z Fx.agg58 (.tail _<|.head _) Z) Z<|.m Z Z<|.m Z Z<|.m Z Z<|.yv (.add Z Z (c := ((d + 1 : Nat) : Int)) ((w6 (by omega)).trans (by omega))) Z<|.h ?_ (.h ?_ .nn)
   ·
    refine .bl Z (Fx.bsl56_1 _ _ _ _) Z fun b73 => .h1<|.c3 (X := Value × Value × Hp) Fx.call76 Z (fun W s => hbd (by omega) H71 w0 W _ b _ _ _ _ l71 (hAr.up (u67.trans u71).up) q71  (s.pickT (hd := [_,_,_,_]) (tl := bs) (hd' := [_,_,_,_]) [1,0,2,3] Z Z)) Z (fun z78 hz78 => (.done (by kernel_rfl)<|.done (by kernel_rfl)<|.done (by kernel_rfl)<|.yv (.move Z)<|.yv (.loadW Z Fx.agg58 (.tail _<|.tail _<|.head _) Z)<|.nl)) fun z78 hz78 => ?_
    obtain ⟨x78,v78,H78⟩ := z78
    obtain ⟨u78,r78,q78,l78⟩ := hz78
    dsimp only at u78 r78 q78 ⊢
    obtain ⟨pb78,cb78,eb78,_⟩ := r78.sl
    simp only [List.cons.injEq,and_true,List.length_map] at eb78
    subst eb78
    refine .yv (.build Z (Fx.bld85_0_3_4_5 _ _ _ _ _ _ _ _ _ _)) Z<|.fn (tl := [_]) Z<|.sW (.tail<|.tail<|.tail<|.head) Z Z Fx.size85 (by simp [Value.oneCell',strV]) Z<|.nt<|.rt<|.bR<|.tR<|?_
    refine At.pt (hd := [_,_,_,_]) (tl := bs) (hd' := [_,_,_]) [1,3,0] rfl rfl ?_
    refine Sx.freezeBox fun Hf uf mf => ?_
    exact Sx.ret1 (.inl rfl) rfl (.cell rfl Fx.agg85 (.head _) rfl) fun W t => ⟨(_,_,Hf),by rw [show stmT M k d bd by_ lf = _ from by rw [stmT,if_neg (by omega),if_neg (by omega),if_neg (by omega),if_pos (by omega)],hE67];exact ⟨(u67.trans (u71.trans u78)).trans uf,sm_shut (kd := 4) (nm := []) (hd := []) (ex := [.mk op67 nm67 n67 a67]) (th := _) (el := _) (by first | decide | simp [nmB]) (by first | decide | simp [nmB]) (Rep.mk (n := 1) (c := 1) mf (.single ((r67.up (u71.trans u78).up).up uf.up) rfl) rfl (Nat.le_refl _) (by decide)) ((r71.up u78.up).up uf.up) (r78.up uf.up),q78.up uf.up,l78⟩,rfl,by rw [show stmT M k d bd by_ lf = _ from by rw [stmT,if_neg (by omega),if_neg (by omega),if_neg (by omega),if_pos (by omega)],hE67];exact t.drop⟩
   refine .c3 (X := Value × Value × Hp) Fx.call76 Z (fun W s => hbd (by omega) H71 w0 W _ b _ _ _ _ l71 (hAr.up (u67.trans u71).up) q71  (s.pickT (hd := [_,_,_]) (tl := bs) (hd' := [_,_,_]) [0,1,2] Z Z)) Z (fun z78 hz78 => (.done (by kernel_rfl)<|.done (by kernel_rfl)<|.done (by kernel_rfl)<|.yv (.move Z)<|.yv (.loadW Z Fx.agg58 (.tail _<|.head _) Z)<|.nl)) fun z78 hz78 => ?_
   obtain ⟨x78,v78,H78⟩ := z78
   obtain ⟨u78,r78,q78,l78⟩ := hz78
   dsimp only at u78 r78 q78 ⊢
   obtain ⟨pb78,cb78,eb78,_⟩ := r78.sl
   simp only [List.cons.injEq,and_true,List.length_map] at eb78
   subst eb78
   refine .h1<|.bl Z (Fx.bsl56_1 _ _ _ _) Z fun b73 => .yv (.build Z (Fx.bld85_0_3_4_5 _ _ _ _ _ _ _ _ _ _)) Z<|.fn (tl := [_]) Z<|.sW (.tail<|.tail<|.tail<|.head) Z Z Fx.size85 (by simp [Value.oneCell',strV]) Z<|.nt<|.rt<|.bR<|.tR<|?_
   refine At.pt (hd := [_,_,_,_]) (tl := bs) (hd' := [_,_,_]) [0,3,1] rfl rfl ?_
   refine Sx.freezeBox fun Hf uf mf => ?_
   exact Sx.ret1 (.inl rfl) rfl (.cell rfl Fx.agg85 (.head _) rfl) fun W t => ⟨(_,_,Hf),by rw [show stmT M k d bd by_ lf = _ from by rw [stmT,if_neg (by omega),if_neg (by omega),if_neg (by omega),if_pos (by omega)],hE67];exact ⟨(u67.trans (u71.trans u78)).trans uf,sm_shut (kd := 4) (nm := []) (hd := []) (ex := [.mk op67 nm67 n67 a67]) (th := _) (el := _) (by first | decide | simp [nmB]) (by first | decide | simp [nmB]) (Rep.mk (n := 1) (c := 1) mf (.single ((r67.up (u71.trans u78).up).up uf.up) rfl) rfl (Nat.le_refl _) (by decide)) ((r71.up u78.up).up uf.up) (r78.up uf.up),q78.up uf.up,l78⟩,rfl,by rw [show stmT M k d bd by_ lf = _ from by rw [stmT,if_neg (by omega),if_neg (by omega),if_neg (by omega),if_pos (by omega)],hE67];exact t.drop⟩
  have q55 : ¬ ((k = 5 ∨ k = 6) ∧ d < 3) := by rw [h55] at e55;exact of_decide_eq_false e55.symm
  refine .cu (X := Bool) [(0,_),(1,_),(2,_),(6,_)] ⟨rfl,rfl,rfl,rfl,trivial⟩ (fun z => [(80,.bool z)]) (fun z => H) (fun z => (.box b (mkC M (.slice pA M.ars.length cA) bv (lf : Nat)) 127 :: .box b6 [.int .i64 0,.string ⟨#[]⟩,.string ⟨#[]⟩,.slice none 0 0,.slice none 0 0,.slice none 0 0] 85 :: bs)) (fun z => z = decide (k = 7 ∧ d < 2)) ?_ fun z hC => ?_
  ·
   refine .rg<|.m Z Z<|.yv (.eql Z Z) Z<|.m Z Z<|.b2 (fun h83 => ?_) (fun h83 => ?_)
   ·try simp only [dt] at h83
    exact .gd Z Z<|.yv (.move Z) Z<|.gd Z Z<|.yv (.lss Z Z) Z<|.yv (.pickT Z Z) Z<|.a Z Z<|.nt<|.me _ ⟨rfl,trivial⟩ ⟨rfl,rfl,rfl,rfl,trivial⟩ (fun _ s => s) (by rw [Bool.eq_iff_iff,decide_eq_true_eq];first | (rw [decide_eq_true_eq];omega) | exact ⟨fun _ => by omega,fun _ => rfl⟩ | exact ⟨fun h => (by cases h),fun h => by omega⟩)
   try simp only [df] at h83
   exact .gF Z Z Z Z<|.gF Z Z Z Z<|.yv (.pickF Z Z) Z<|.a Z Z<|.nt<|.me _ ⟨rfl,trivial⟩ ⟨rfl,rfl,rfl,rfl,trivial⟩ (fun _ s => s) (by rw [Bool.eq_iff_iff,decide_eq_true_eq];first | (rw [decide_eq_true_eq];omega) | exact ⟨fun _ => by omega,fun _ => rfl⟩ | exact ⟨fun h => (by cases h),fun h => by omega⟩)
  have e80 := hC
  refine .cd Z (fun h80 => ?_) (fun h80 => ?_)
  ·have q80 : k = 7 ∧ d < 2 := by rw [h80] at e80;exact of_decide_eq_true e80.symm
   refine .sr<|.m Z Z<|.cs (X := List Value × Value × Hp) Fx.call112 Z (fun W s => truth_any M hM.1 2 (by decide) H w0 W _ b _ _ _ by_ hb  (s.pickT (hd := [_,_]) (tl := bs) (hd' := [_,_]) [0,1] Z Z)) Z fun z88 hz88 => ?_
   obtain ⟨x88,v88,H88⟩ := z88
   obtain ⟨u88,r88,q88⟩ := hz88
   dsimp only at u88 r88 q88 ⊢
   generalize hE88 : (truE M 2 by_).1 = e88 at r88
   obtain ⟨op88,nm88,n88,a88⟩ := e88
   obtain ⟨p88,c88,rfl,hs88,hl88⟩ := ex_open r88
   refine .al Fx.zero58 Z fun b9 => .sW .head Z Z Fx.size58 (by simp [Value.oneCell',strV]) Z<|.nt<|.sq<|.ft (p := .light _ _ (.light _ _ (.light _ _ (.light _ _ (.alt _ _ _ (.alt _ _ _ (.light _ _ (.done)) (.no)) (.alt _ _ _ (.alt _ _ _ (.light _ _ (.done)) (.no)) (.no))))))) 7 (.light 0 (.light 2 (.light 3 (.light 4 (.alt 1 0 (.alt 5 2 (.light 6 (.done)) (.no)) (.alt 5 2 (.alt 1 0 (.light 6 (.done)) (.no)) (.no))))))) (by kernel_rfl) (by kernel_rfl) Z<|.yv (.loadW Z Fx.agg58 (.head _) Z) Z<|.m Z Z<|.m Z Z<|.yv (.add Z Z (c := ((d + 1 : Nat) : Int)) ((w6 (by omega)).trans (by omega))) Z<|.h ?_ (.h ?_ .nn)
   ·
    refine .bl Z (Fx.bsl56_1 _ _ _ _) Z fun b90 => .h1<|.c3 (X := Value × Value × Hp) Fx.call76 Z (fun W s => hbd (by omega) H88 w0 W _ b _ _ lf _ hlf (hAr.up u88.up) q88  (s.pickT (hd := [_,_,_,_]) (tl := bs) (hd' := [_,_,_,_]) [2,0,1,3] Z Z)) Z (fun z94 hz94 => (.done (by kernel_rfl)<|.done (by kernel_rfl)<|.done (by kernel_rfl)<|.yv (.loadW Z Fx.agg58 (.tail _<|.tail _<|.head _) Z)<|.nl)) fun z94 hz94 => ?_
    obtain ⟨x94,v94,H94⟩ := z94
    obtain ⟨u94,r94,q94,l94⟩ := hz94
    dsimp only at u94 r94 q94 ⊢
    obtain ⟨pb94,cb94,eb94,_⟩ := r94.sl
    simp only [List.cons.injEq,and_true,List.length_map] at eb94
    subst eb94
    refine .yv (.build Z (Fx.bld85_0_3_4 _ _ _ _ _ _ _)) Z<|.fn (tl := [_]) Z<|.sW (.tail<|.tail<|.tail<|.head) Z Z Fx.size85 (by simp [Value.oneCell',strV]) Z<|.nt<|.rt<|.bR<|.tR<|?_
    refine At.pt (hd := [_,_,_,_]) (tl := bs) (hd' := [_,_,_]) [1,3,0] rfl rfl ?_
    refine Sx.freezeBox fun Hf uf mf => ?_
    exact Sx.ret1 (.inl rfl) rfl (.cell rfl Fx.agg85 (.head _) rfl) fun W t => ⟨(_,_,Hf),by rw [show stmT M k d bd by_ lf = _ from by rw [stmT,if_neg (by omega),if_neg (by omega),if_neg (by omega),if_neg (by omega),if_pos (by omega)],hE88];exact ⟨(u88.trans u94).trans uf,sm_shut (kd := 5) (nm := []) (hd := []) (ex := [.mk op88 nm88 n88 a88]) (th := _) (el := []) (by first | decide | simp [nmB]) (by first | decide | simp [nmB]) (Rep.mk (n := 1) (c := 1) mf (.single ((r88.up (u94).up).up uf.up) rfl) rfl (Nat.le_refl _) (by decide)) (r94.up uf.up) (Rep.empty (by decide)),q94.up uf.up,l94⟩,rfl,by rw [show stmT M k d bd by_ lf = _ from by rw [stmT,if_neg (by omega),if_neg (by omega),if_neg (by omega),if_neg (by omega),if_pos (by omega)],hE88];exact t.drop⟩
   refine .c3 (X := Value × Value × Hp) Fx.call76 Z (fun W s => hbd (by omega) H88 w0 W _ b _ _ lf _ hlf (hAr.up u88.up) q88  (s.pickT (hd := [_,_,_]) (tl := bs) (hd' := [_,_,_]) [1,0,2] Z Z)) Z (fun z94 hz94 => (.done (by kernel_rfl)<|.done (by kernel_rfl)<|.done (by kernel_rfl)<|.yv (.loadW Z Fx.agg58 (.tail _<|.head _) Z)<|.nl)) fun z94 hz94 => ?_
   obtain ⟨x94,v94,H94⟩ := z94
   obtain ⟨u94,r94,q94,l94⟩ := hz94
   dsimp only at u94 r94 q94 ⊢
   obtain ⟨pb94,cb94,eb94,_⟩ := r94.sl
   simp only [List.cons.injEq,and_true,List.length_map] at eb94
   subst eb94
   refine .h1<|.bl Z (Fx.bsl56_1 _ _ _ _) Z fun b90 => .yv (.build Z (Fx.bld85_0_3_4 _ _ _ _ _ _ _)) Z<|.fn (tl := [_]) Z<|.sW (.tail<|.tail<|.tail<|.head) Z Z Fx.size85 (by simp [Value.oneCell',strV]) Z<|.nt<|.rt<|.bR<|.tR<|?_
   refine At.pt (hd := [_,_,_,_]) (tl := bs) (hd' := [_,_,_]) [0,3,1] rfl rfl ?_
   refine Sx.freezeBox fun Hf uf mf => ?_
   exact Sx.ret1 (.inl rfl) rfl (.cell rfl Fx.agg85 (.head _) rfl) fun W t => ⟨(_,_,Hf),by rw [show stmT M k d bd by_ lf = _ from by rw [stmT,if_neg (by omega),if_neg (by omega),if_neg (by omega),if_neg (by omega),if_pos (by omega)],hE88];exact ⟨(u88.trans u94).trans uf,sm_shut (kd := 5) (nm := []) (hd := []) (ex := [.mk op88 nm88 n88 a88]) (th := _) (el := []) (by first | decide | simp [nmB]) (by first | decide | simp [nmB]) (Rep.mk (n := 1) (c := 1) mf (.single ((r88.up (u94).up).up uf.up) rfl) rfl (Nat.le_refl _) (by decide)) (r94.up uf.up) (Rep.empty (by decide)),q94.up uf.up,l94⟩,rfl,by rw [show stmT M k d bd by_ lf = _ from by rw [stmT,if_neg (by omega),if_neg (by omega),if_neg (by omega),if_neg (by omega),if_pos (by omega)],hE88];exact t.drop⟩
  have q80 : ¬ (k = 7 ∧ d < 2) := by rw [h80] at e80;exact of_decide_eq_false e80.symm
  refine .cu (X := Bool) [(0,_),(1,_),(2,_),(6,_)] ⟨rfl,rfl,rfl,rfl,trivial⟩ (fun z => [(96,.bool z)]) (fun z => H) (fun z => (.box b (mkC M (.slice pA M.ars.length cA) bv (lf : Nat)) 127 :: .box b6 [.int .i64 0,.string ⟨#[]⟩,.string ⟨#[]⟩,.slice none 0 0,.slice none 0 0,.slice none 0 0] 85 :: bs)) (fun z => z = decide (k = 8 ∨ k = 9)) ?_ fun z hC => ?_
  ·
   refine .rg<|.m Z Z<|.yv (.eql Z Z) Z<|.m Z Z<|.b2 (fun h99 => ?_) (fun h99 => ?_)
   ·try simp only [dt] at h99
    exact .gF Z Z Z Z<|.gF Z Z Z Z<|.yv (.pickT Z Z) Z<|.a Z Z<|.nt<|.me _ ⟨rfl,trivial⟩ ⟨rfl,rfl,rfl,rfl,trivial⟩ (fun _ s => s) (by rw [Bool.eq_iff_iff,decide_eq_true_eq];first | (rw [decide_eq_true_eq];omega) | exact ⟨fun _ => by omega,fun _ => rfl⟩ | exact ⟨fun h => (by cases h),fun h => by omega⟩)
   try simp only [df] at h99
   exact .gd Z Z<|.yv (.move Z) Z<|.gd Z Z<|.yv (.eql Z Z) Z<|.yv (.pickF Z Z) Z<|.a Z Z<|.nt<|.me _ ⟨rfl,trivial⟩ ⟨rfl,rfl,rfl,rfl,trivial⟩ (fun _ s => s) (by rw [Bool.eq_iff_iff,decide_eq_true_eq];first | (rw [decide_eq_true_eq];omega) | exact ⟨fun _ => by omega,fun _ => rfl⟩ | exact ⟨fun h => (by cases h),fun h => by omega⟩)
  have e96 := hC
  refine .cd Z (fun h96 => ?_) (fun h96 => ?_)
  ·have q96 : k = 8 ∨ k = 9 := by rw [h96] at e96;exact of_decide_eq_true e96.symm
   refine .sr<|.m Z Z<|.m Z Z<|.yv (.nilCheck Z) Z<|.yv (.fieldAddr Z Fx.field127_4) Z<|.yv (.load Z Fx.agg123 (.head _) Z) Z<|.yv (.lenSl Fx.sl123 Z) Z<|.cs (X := Value) Fx.call99 Z (fun W s => next_st M.ars.length hM.2.1 hb  (s.pickT (hd := [_,_]) (tl := bs) (hd' := [_,_]) [0,1] Z Z)) Z fun z109 hz109 => ?_
   have hc := nextB_lt by_ hM.2.1
   have hc3 := hM.2.2.1
   have hal := hM.len hc
   obtain ⟨bA,oA,pR,cR,hpA,mA,hR⟩ := ar_at hAr hc
   subst hpA
   refine .a Z Z<|.ns<|.m Z Z<|.m Z Z<|.yv (.nilCheck Z) Z<|.yv (.fieldAddr Z Fx.field127_4) Z<|.yv (.load Z Fx.agg123 (.head _) Z) Z<|.m Z Z<|.yv (.indexSl Fx.sl123 Z Z (i := (nextB by_ M.ars.length).1) Z (by omega) (q := oA + (nextB by_ M.ars.length).1 * 1) Z) Z<|.yv (.loadM Z Fx.agg124 mA (k := 0) Z Z) Z<|.yv (.lenSl Fx.sl124 Z) Z<|.cs (X := Value) Fx.call99 Z (fun W s => next_st (arL M (nextB by_ M.ars.length).1) hal.1 hz109  (s.pickT (hd := [_,_]) (tl := bs) (hd' := [_,_]) [0,1] Z Z)) Z fun z119 hz119 => ?_
   have hh := nextB_lt (nextB by_ M.ars.length).2 hal.1
   have hn2 := hM.num hc hh
   obtain ⟨bR,oR,hpR,mR⟩ := arn_at hR hh
   subst hpR
   refine .a Z Z<|.nt<|.sq<|.ft (p := .light _ _ (.light _ _ (.light _ _ (.light _ _ (.light _ _ (.light _ _ (.light _ _ (.light _ _ (.light _ _ (.light _ _ (.light _ _ (.light _ _ (.light _ _ (.alt _ _ _ (.light _ _ (.light _ _ (.alt _ _ _ (.light _ _ (.light _ _ (.alt _ _ _ (.light _ _ (.done)) (.no)))) (.no)))) (.alt _ _ _ (.light _ _ (.light _ _ (.alt _ _ _ (.light _ _ (.light _ _ (.alt _ _ _ (.light _ _ (.done)) (.no)))) (.alt _ _ _ (.alt _ _ _ (.light _ _ (.light _ _ (.light _ _ (.done)))) (.no)) (.no))))) (.no)))))))))))))))) 21 (.light 1 (.light 5 (.light 8 (.light 9 (.light 10 (.light 11 (.light 12 (.light 13 (.light 14 (.light 15 (.light 16 (.light 17 (.light 18 (.alt 0 0 (.light 2 (.light 3 (.alt 4 0 (.light 6 (.light 7 (.alt 19 2 (.light 20 (.done)) (.no)))) (.no)))) (.alt 4 0 (.light 6 (.light 7 (.alt 0 0 (.light 2 (.light 3 (.alt 19 2 (.light 20 (.done)) (.no)))) (.alt 19 2 (.alt 0 0 (.light 2 (.light 3 (.light 20 (.done)))) (.no)) (.no))))) (.no)))))))))))))))) (by kernel_rfl) (by kernel_rfl) Z<|.m Z Z<|.m Z Z<|.m Z Z<|.m Z Z<|.yv (.nilCheck Z) Z<|.yv (.fieldAddr Z Fx.field127_4) Z<|.yv (.load Z Fx.agg123 (.head _) Z) Z<|.m Z Z<|.yv (.indexSl Fx.sl123 Z Z (i := (nextB by_ M.ars.length).1) Z (by omega) (q := oA + (nextB by_ M.ars.length).1 * 1) Z) Z<|.yv (.loadM Z Fx.agg124 mA (k := 0) Z Z) Z<|.m Z Z<|.yv (.indexSl Fx.sl124 Z Z (i := (nextB (nextB by_ M.ars.length).2 (arL M (nextB by_ M.ars.length).1)).1) Z (by omega) (q := oR + (nextB (nextB by_ M.ars.length).2 (arL M (nextB by_ M.ars.length).1)).1 * 1) Z) Z<|.yv (.loadM Z Fx.agg3 mR (k := 0) Z Z) Z<|.h ?_ (.h ?_ .nn)
   ·
    refine .bl Z (Fx.bsl54_3 _ _ _) Z fun b120 => .yv (.indexSl Fx.sl54 Z Z (i := (nextB by_ M.ars.length).1) Z (by omega) (q := (nextB by_ M.ars.length).1) (by omega)) Z<|.yv (.load (v := strV [UInt8.ofNat (97 + (nextB by_ M.ars.length).1)]) Z Fx.agg9 (.head _) (abc_at (by omega))) Z<|.h1<|.ct (X := Value) Fx.call39 Z (fun W s => names_any H 104 3 (by omega) W s.agr) Z fun v124 H124 hn124 u124 => ?_
    obtain ⟨pn124,cn124,e124,_⟩ := hn124.sl
    simp only [List.cons.injEq,and_true,List.length_map,namesB_len] at e124
    subst e124
    obtain ⟨bE,oE,hpE,mE⟩ := name_at hn124 (k := (nextB (nextB by_ M.ars.length).2 (arL M (nextB by_ M.ars.length).1)).1) (by omega)
    subst hpE
    refine .yv (.indexSl Fx.sl54 Z Z (i := (nextB (nextB by_ M.ars.length).2 (arL M (nextB by_ M.ars.length).1)).1) Z (by omega) (q := oE + (nextB (nextB by_ M.ars.length).2 (arL M (nextB by_ M.ars.length).1)).1 * 1) Z) Z<|.yv (.loadM Z Fx.agg9 mE (k := 0) Z Z) Z<|.h1<|.c3 (X := Value × Value × Hp) Fx.call114 Z (fun W s => numbers_st hM.1 (arN M (nextB by_ M.ars.length).1 (nextB (nextB by_ M.ars.length).2 (arL M (nextB by_ M.ars.length).1)).1) (by omega) (hz119.up u124.up)  (s.pickT (hd := [_,_,_]) (tl := bs) (hd' := [_,_,_]) [1,0,2] Z Z)) Z (fun z139 hz139 => (.yv (.loadM Z Fx.agg9 (mE.up hz139.1.up) (k := 0) Z Z)<|.yv (.indexSl Fx.sl54 Z Z (i := (nextB (nextB by_ M.ars.length).2 (arL M (nextB by_ M.ars.length).1)).1) Z (by omega) (q := oE + (nextB (nextB by_ M.ars.length).2 (arL M (nextB by_ M.ars.length).1)).1 * 1) Z)<|.yv (.load (v := strV [UInt8.ofNat (97 + (nextB by_ M.ars.length).1)]) Z Fx.agg9 (.tail _<|.head _) (abc_at (by omega)))<|.yv (.indexSl Fx.sl54 Z Z (i := (nextB by_ M.ars.length).1) Z (by omega) (q := (nextB by_ M.ars.length).1) (by omega))<|.done (by kernel_rfl)<|.done (by kernel_rfl)<|.done (by kernel_rfl)<|.done (by kernel_rfl)<|.done (by kernel_rfl)<|.done (by kernel_rfl)<|.done (by kernel_rfl)<|.done (by kernel_rfl)<|.done (by kernel_rfl)<|.done (by kernel_rfl)<|.done (by kernel_rfl)<|.yv (.move Z)<|.yv (.move Z)<|.nl)) fun z139 hz139 => ?_
    obtain ⟨x139,v139,H139⟩ := z139
    obtain ⟨u139,⟨xs139,rz139,rs139,rl139⟩,q139⟩ := hz139
    dsimp only at u139 rz139 rs139 q139 ⊢
    obtain ⟨pn139,cn139,rfl⟩ := rs139.sl
    refine .yv (.build Z (Fx.bld85_0_1_2_3 _ _ _ _ _ _)) Z<|.fn (tl := [_]) Z<|.sW (.tail<|.tail<|.head) Z Z Fx.size85 (by simp [Value.oneCell',strV]) Z<|.nt<|.rt<|.bR<|.tR<|?_
    refine At.pt (hd := [_,_,_]) (tl := bs) (hd' := [_,_]) [2,0] rfl rfl ?_
    exact Sx.ret1 (.inl rfl) rfl (.cell rfl Fx.agg85 (.head _) rfl) fun W t => ⟨(_,_,H139),by rw [show stmT M k d bd by_ lf = _ from by rw [stmT,if_neg (by omega),if_neg (by omega),if_neg (by omega),if_neg (by omega),if_neg (by omega),if_pos (by omega)],senT];exact ⟨(u124.trans u139),sm_shut (kd := 6) (nm := [UInt8.ofNat (97 + (nextB by_ M.ars.length).1)]) (hd := (nmB 104 (nextB (nextB by_ M.ars.length).2 (arL M (nextB by_ M.ars.length).1)).1)) (ex := _) (th := []) (el := []) (by first | decide | simp [nmB]) (by first | decide | simp [nmB]) (rs139.rep rz139 (by rw [List.length_map];exact rl139)) (Rep.empty (by decide)) (Rep.empty (by decide)),q139,hlf⟩,rfl,by rw [show stmT M k d bd by_ lf = _ from by rw [stmT,if_neg (by omega),if_neg (by omega),if_neg (by omega),if_neg (by omega),if_neg (by omega),if_pos (by omega)],senT];exact t.drop⟩
   refine .ct (X := Value) Fx.call39 Z (fun W s => names_any H 104 3 (by omega) W s.agr) Z fun v124 H124 hn124 u124 => ?_
   obtain ⟨pn124,cn124,e124,_⟩ := hn124.sl
   simp only [List.cons.injEq,and_true,List.length_map,namesB_len] at e124
   subst e124
   obtain ⟨bE,oE,hpE,mE⟩ := name_at hn124 (k := (nextB (nextB by_ M.ars.length).2 (arL M (nextB by_ M.ars.length).1)).1) (by omega)
   subst hpE
   refine .yv (.indexSl Fx.sl54 Z Z (i := (nextB (nextB by_ M.ars.length).2 (arL M (nextB by_ M.ars.length).1)).1) Z (by omega) (q := oE + (nextB (nextB by_ M.ars.length).2 (arL M (nextB by_ M.ars.length).1)).1 * 1) Z) Z<|.yv (.loadM Z Fx.agg9 mE (k := 0) Z Z) Z<|.h ?_ (.h ?_ .nn)
   ·
    refine .bl Z (Fx.bsl54_3 _ _ _) Z fun b120 => .yv (.indexSl Fx.sl54 Z Z (i := (nextB by_ M.ars.length).1) Z (by omega) (q := (nextB by_ M.ars.length).1) (by omega)) Z<|.yv (.load (v := strV [UInt8.ofNat (97 + (nextB by_ M.ars.length).1)]) Z Fx.agg9 (.head _) (abc_at (by omega))) Z<|.h1<|.c3 (X := Value × Value × Hp) Fx.call114 Z (fun W s => numbers_st hM.1 (arN M (nextB by_ M.ars.length).1 (nextB (nextB by_ M.ars.length).2 (arL M (nextB by_ M.ars.length).1)).1) (by omega) (hz119.up u124.up)  (s.pickT (hd := [_,_,_]) (tl := bs) (hd' := [_,_,_]) [1,0,2] Z Z)) Z (fun z139 hz139 => (.yv (.load (v := strV [UInt8.ofNat (97 + (nextB by_ M.ars.length).1)]) Z Fx.agg9 (.tail _<|.head _) (abc_at (by omega)))<|.yv (.indexSl Fx.sl54 Z Z (i := (nextB by_ M.ars.length).1) Z (by omega) (q := (nextB by_ M.ars.length).1) (by omega))<|.yv (.loadM Z Fx.agg9 (mE.up hz139.1.up) (k := 0) Z Z)<|.yv (.indexSl Fx.sl54 Z Z (i := (nextB (nextB by_ M.ars.length).2 (arL M (nextB by_ M.ars.length).1)).1) Z (by omega) (q := oE + (nextB (nextB by_ M.ars.length).2 (arL M (nextB by_ M.ars.length).1)).1 * 1) Z)<|.done (by kernel_rfl)<|.done (by kernel_rfl)<|.done (by kernel_rfl)<|.done (by kernel_rfl)<|.done (by kernel_rfl)<|.done (by kernel_rfl)<|.done (by kernel_rfl)<|.done (by kernel_rfl)<|.done (by kernel_rfl)<|.done (by kernel_rfl)<|.done (by kernel_rfl)<|.yv (.move Z)<|.yv (.move Z)<|.nl)) fun z139 hz139 => ?_
    obtain ⟨x139,v139,H139⟩ := z139
    obtain ⟨u139,⟨xs139,rz139,rs139,rl139⟩,q139⟩ := hz139
    dsimp only at u139 rz139 rs139 q139 ⊢
    obtain ⟨pn139,cn139,rfl⟩ := rs139.sl
    refine .yv (.build Z (Fx.bld85_0_1_2_3 _ _ _ _ _ _)) Z<|.fn (tl := [_]) Z<|.sW (.tail<|.tail<|.head) Z Z Fx.size85 (by simp [Value.oneCell',strV]) Z<|.nt<|.rt<|.bR<|.tR<|?_
    refine At.pt (hd := [_,_,_]) (tl := bs) (hd' := [_,_]) [2,0] rfl rfl ?_
    exact Sx.ret1 (.inl rfl) rfl (.cell rfl Fx.agg85 (.head _) rfl) fun W t => ⟨(_,_,H139),by rw [show stmT M k d bd by_ lf = _ from by rw [stmT,if_neg (by omega),if_neg (by omega),if_neg (by omega),if_neg (by omega),if_neg (by omega),if_pos (by omega)],senT];exact ⟨(u124.trans u139),sm_shut (kd := 6) (nm := [UInt8.ofNat (97 + (nextB by_ M.ars.length).1)]) (hd := (nmB 104 (nextB (nextB by_ M.ars.length).2 (arL M (nextB by_ M.ars.length).1)).1)) (ex := _) (th := []) (el := []) (by first | decide | simp [nmB]) (by first | decide | simp [nmB]) (rs139.rep rz139 (by rw [List.length_map];exact rl139)) (Rep.empty (by decide)) (Rep.empty (by decide)),q139,hlf⟩,rfl,by rw [show stmT M k d bd by_ lf = _ from by rw [stmT,if_neg (by omega),if_neg (by omega),if_neg (by omega),if_neg (by omega),if_neg (by omega),if_pos (by omega)],senT];exact t.drop⟩
   refine .c3 (X := Value × Value × Hp) Fx.call114 Z (fun W s => numbers_st hM.1 (arN M (nextB by_ M.ars.length).1 (nextB (nextB by_ M.ars.length).2 (arL M (nextB by_ M.ars.length).1)).1) (by omega) (hz119.up u124.up)  (s.pickT (hd := [_,_]) (tl := bs) (hd' := [_,_]) [0,1] Z Z)) Z (fun z139 hz139 => (.yv (.loadM Z Fx.agg9 (mE.up hz139.1.up) (k := 0) Z Z)<|.yv (.indexSl Fx.sl54 Z Z (i := (nextB (nextB by_ M.ars.length).2 (arL M (nextB by_ M.ars.length).1)).1) Z (by omega) (q := oE + (nextB (nextB by_ M.ars.length).2 (arL M (nextB by_ M.ars.length).1)).1 * 1) Z)<|.done (by kernel_rfl)<|.done (by kernel_rfl)<|.done (by kernel_rfl)<|.done (by kernel_rfl)<|.done (by kernel_rfl)<|.done (by kernel_rfl)<|.done (by kernel_rfl)<|.done (by kernel_rfl)<|.done (by kernel_rfl)<|.done (by kernel_rfl)<|.done (by kernel_rfl)<|.yv (.move Z)<|.yv (.move Z)<|.nl)) fun z139 hz139 => ?_
   obtain ⟨x139,v139,H139⟩ := z139
   obtain ⟨u139,⟨xs139,rz139,rs139,rl139⟩,q139⟩ := hz139
   dsimp only at u139 rz139 rs139 q139 ⊢
   obtain ⟨pn139,cn139,rfl⟩ := rs139.sl
   refine .h1<|.bl Z (Fx.bsl54_3 _ _ _) Z fun b120 => .yv (.indexSl Fx.sl54 Z Z (i := (nextB by_ M.ars.length).1) Z (by omega) (q := (nextB by_ M.ars.length).1) (by omega)) Z<|.yv (.load (v := strV [UInt8.ofNat (97 + (nextB by_ M.ars.length).1)]) Z Fx.agg9 (.head _) (abc_at (by omega))) Z<|.yv (.build Z (Fx.bld85_0_1_2_3 _ _ _ _ _ _)) Z<|.fn (tl := [_]) Z<|.sW (.tail<|.tail<|.head) Z Z Fx.size85 (by simp [Value.oneCell',strV]) Z<|.nt<|.rt<|.bR<|.tR<|?_
   refine At.pt (hd := [_,_,_]) (tl := bs) (hd' := [_,_]) [2,1] rfl rfl ?_
   exact Sx.ret1 (.inl rfl) rfl (.cell rfl Fx.agg85 (.head _) rfl) fun W t => ⟨(_,_,H139),by rw [show stmT M k d bd by_ lf = _ from by rw [stmT,if_neg (by omega),if_neg (by omega),if_neg (by omega),if_neg (by omega),if_neg (by omega),if_pos (by omega)],senT];exact ⟨(u124.trans u139),sm_shut (kd := 6) (nm := [UInt8.ofNat (97 + (nextB by_ M.ars.length).1)]) (hd := (nmB 104 (nextB (nextB by_ M.ars.length).2 (arL M (nextB by_ M.ars.length).1)).1)) (ex := _) (th := []) (el := []) (by first | decide | simp [nmB]) (by first | decide | simp [nmB]) (rs139.rep rz139 (by rw [List.length_map];exact rl139)) (Rep.empty (by decide)) (Rep.empty (by decide)),q139,hlf⟩,rfl,by rw [show stmT M k d bd by_ lf = _ from by rw [stmT,if_neg (by omega),if_neg (by omega),if_neg (by omega),if_neg (by omega),if_neg (by omega),if_pos (by omega)],senT];exact t.drop⟩
  have q96 : ¬ (k = 8 ∨ k = 9) := by rw [h96] at e96;exact of_decide_eq_false e96.symm
  refine .sr<|.m Z Z<|.yv (.eql Z Z) Z<|.a Z Z<|.nt<|.cd Z (fun h141 => ?_) (fun h141 => ?_)
  ·try simp only [dt] at h141
   refine .sq<|?_
   obtain ⟨bA,oA,pR,cR,hpA,mA,hR⟩ := ar_at hAr hM.2.2.2.1
   subst hpA
   have hal := hM.len hM.2.2.2.1
   have hc := hM.2.2.2.1
   refine .fl (trip := [(_,_,_),(_,_,_),(_,_,_),(_,_,_),(_,_,_),(_,_,_),(_,_,_),(_,_,_),(_,_,_),(_,_,_),(_,_,_),(_,_,_),(_,_,_)]) 13 [(0,0),(1,0),(2,0),(3,0),(4,0),(5,0),(6,0),(7,0),(8,0),(9,0),(10,0),(11,0),(12,2)] (by kernel_rfl) (by kernel_rfl) Z<|.m Z Z<|.m Z Z<|.yv (.nilCheck Z) Z<|.yv (.fieldAddr Z Fx.field127_4) Z<|.yv (.load Z Fx.agg123 (.head _) Z) Z<|.m Z Z<|.yv (.nilCheck Z) Z<|.yv (.fieldAddr Z Fx.field127_3) Z<|.yv (.load Z Fx.agg3 (.head _) Z) Z<|.yv (.indexSl Fx.sl123 Z Z (i := M.own) Z (by omega) (q := oA + M.own * 1) Z) Z<|.yv (.loadM Z Fx.agg124 mA (k := 0) Z Z) Z<|.yv (.lenSl Fx.sl124 Z) Z<|.cs (X := Value) Fx.call99 Z (fun W s => next_st (arL M M.own) hal.1 hb  (s.pickT (hd := [_,_]) (tl := bs) (hd' := [_,_]) [0,1] Z Z)) Z fun z156 hz156 => ?_
   have hh := nextB_lt by_ hal.1
   have hn2 := hM.num hM.2.2.2.1 hh
   obtain ⟨bR,oR,hpR,mR⟩ := arn_at hR hh
   subst hpR
   refine .fn (tl := [_]) Z<|.a Z Z<|.ns<|.m Z Z<|.cs (X := List Value × Value × Hp) Fx.call113 Z (fun W s => num_any M hM.1 2 (by decide) H w0 W _ b _ _ _ _ hz156  (s.pickT (hd := [_,_]) (tl := bs) (hd' := [_,_]) [0,1] Z Z)) Z fun z158 hz158 => ?_
   obtain ⟨x158,v158,H158⟩ := z158
   obtain ⟨u158,r158,q158⟩ := hz158
   dsimp only at u158 r158 q158 ⊢
   generalize hE158 : (numE M 2 (nextB by_ (arL M M.own)).2).1 = e158 at r158
   obtain ⟨op158,nm158,n158,a158⟩ := e158
   obtain ⟨p158,c158,rfl,hs158,hl158⟩ := ex_open r158
   have mA2 := mA.up u158.up
   have mR2 := mR.up u158.up
   refine .al Fx.zero58 Z fun b13 => .sW .head Z Z Fx.size58 (by simp [Value.oneCell',strV]) Z<|.nt<|.sq<|.ft (p := .light _ _ (.light _ _ (.light _ _ (.light _ _ (.light _ _ (.light _ _ (.light _ _ (.light _ _ (.light _ _ (.light _ _ (.light _ _ (.light _ _ (.light _ _ (.light _ _ (.light _ _ (.light _ _ (.alt _ _ _ (.light _ _ (.light _ _ (.alt _ _ _ (.alt _ _ _ (.alt _ _ _ (.light _ _ (.done)) (.no)) (.no)) (.alt _ _ _ (.alt _ _ _ (.alt _ _ _ (.light _ _ (.done)) (.no)) (.no)) (.no))))) (.alt _ _ _ (.alt _ _ _ (.light _ _ (.light _ _ (.alt _ _ _ (.alt _ _ _ (.light _ _ (.done)) (.no)) (.no)))) (.no)) (.no))))))))))))))))))) 23 (.light 1 (.light 4 (.light 6 (.light 7 (.light 8 (.light 9 (.light 10 (.light 11 (.light 12 (.light 13 (.light 14 (.light 15 (.light 16 (.light 17 (.light 18 (.light 19 (.alt 0 0 (.light 2 (.light 3 (.alt 5 0 (.alt 20 2 (.alt 21 2 (.light 22 (.done)) (.no)) (.no)) (.alt 20 2 (.alt 5 0 (.alt 21 2 (.light 22 (.done)) (.no)) (.no)) (.no))))) (.alt 5 0 (.alt 0 0 (.light 2 (.light 3 (.alt 20 2 (.alt 21 2 (.light 22 (.done)) (.no)) (.no)))) (.no)) (.no))))))))))))))))))) (by kernel_rfl) (by kernel_rfl) Z<|.m Z Z<|.yv (.loadW Z Fx.agg58 (.head _) Z) Z<|.m Z Z<|.m Z Z<|.yv (.nilCheck Z) Z<|.yv (.fieldAddr Z Fx.field127_4) Z<|.yv (.load Z Fx.agg123 (.tail _<|.head _) Z) Z<|.m Z Z<|.yv (.nilCheck Z) Z<|.yv (.fieldAddr Z Fx.field127_3) Z<|.yv (.load Z Fx.agg3 (.tail _<|.head _) Z) Z<|.yv (.indexSl Fx.sl123 Z Z (i := M.own) Z (by omega) (q := oA + M.own * 1) Z) Z<|.yv (.loadM Z Fx.agg124 mA2 (k := 0) Z Z) Z<|.m Z Z<|.yv (.indexSl Fx.sl124 Z Z (i := (nextB by_ (arL M M.own)).1) Z (by omega) (q := oR + (nextB by_ (arL M M.own)).1 * 1) Z) Z<|.yv (.loadM Z Fx.agg3 mR2 (k := 0) Z Z) Z<|.h ?_ (.h ?_ .nn)
   ·
    refine .ct (X := Value) Fx.call39 Z (fun W s => names_any H158 104 3 (by omega) W s.agr) Z fun v159 H159 hn159 u159 => ?_
    obtain ⟨pn159,cn159,e159,_⟩ := hn159.sl
    simp only [List.cons.injEq,and_true,List.length_map,namesB_len] at e159
    subst e159
    obtain ⟨bE,oE,hpE,mE⟩ := name_at hn159 (k := (nextB by_ (arL M M.own)).1) (by omega)
    subst hpE
    refine .yv (.indexSl Fx.sl54 Z Z (i := (nextB by_ (arL M M.own)).1) Z (by omega) (q := oE + (nextB by_ (arL M M.own)).1 * 1) Z) Z<|.yv (.loadM Z Fx.agg9 mE (k := 0) Z Z) Z<|.h ?_ (.h ?_ .nn)
    ·
     refine .blR Z (Fx.bsl56_1 _ _ _ _) Z (z := 4) Z (by decide) fun b164 => .h1<|.c3 (X := Value × Value × Hp) Fx.call114 Z (fun W s => numbers_st hM.1 (arN M M.own (nextB by_ (arL M M.own)).1) (by omega) (q158.up u159.up)  (s.pickT (hd := [_,_,_,_]) (tl := bs) (hd' := [_,_,_,_]) [2,0,1,3] Z Z)) Z (fun z179 hz179 => (.yv (.loadM Z Fx.agg9 (mE.up hz179.1.up) (k := 0) Z Z)<|.yv (.indexSl Fx.sl54 Z Z (i := (nextB by_ (arL M M.own)).1) Z (by omega) (q := oE + (nextB by_ (arL M M.own)).1 * 1) Z)<|.done (by kernel_rfl)<|.done (by kernel_rfl)<|.done (by kernel_rfl)<|.done (by kernel_rfl)<|.done (by kernel_rfl)<|.done (by kernel_rfl)<|.done (by kernel_rfl)<|.done (by kernel_rfl)<|.done (by kernel_rfl)<|.done (by kernel_rfl)<|.done (by kernel_rfl)<|.done (by kernel_rfl)<|.done (by kernel_rfl)<|.done (by kernel_rfl)<|.yv (.loadW Z Fx.agg58 (.tail _<|.tail _<|.head _) Z)<|.yv (.move Z)<|.nl)) fun z179 hz179 => ?_
     obtain ⟨x179,v179,H179⟩ := z179
     obtain ⟨u179,⟨xs179,rz179,rs179,rl179⟩,q179⟩ := hz179
     dsimp only at u179 rz179 rs179 q179 ⊢
     obtain ⟨pn179,cn179,rfl⟩ := rs179.sl
     refine .h1<|.apR (news := xs179) Fx.row56 Z (fun _ => (.tail<|.head)) Z rs179 (by rw [rz179.len,List.length_map,rl179]) rz179.one (by simp [maxLen];omega) (by omega) Z (fun _ => (.yv (.loadM Z Fx.agg9 (mE.up u179.up) (k := 0) Z Z)<|.yv (.indexSl Fx.sl54 Z Z (i := (nextB by_ (arL M M.own)).1) Z (by omega) (q := oE + (nextB by_ (arL M M.own)).1 * 1) Z)<|.done (by kernel_rfl)<|.done (by kernel_rfl)<|.done (by kernel_rfl)<|.done (by kernel_rfl)<|.done (by kernel_rfl)<|.done (by kernel_rfl)<|.done (by kernel_rfl)<|.done (by kernel_rfl)<|.done (by kernel_rfl)<|.done (by kernel_rfl)<|.done (by kernel_rfl)<|.done (by kernel_rfl)<|.done (by kernel_rfl)<|.done (by kernel_rfl)<|.done (by kernel_rfl)<|.yv (.move Z)<|.nl)) fun p180 c180 => .yv (.build Z (Fx.bld85_0_2_3 _ _ _ _ _)) Z<|.fn (tl := [_]) Z<|.sW (.tail<|.tail<|.tail<|.head) Z Z Fx.size85 (by simp [Value.oneCell',strV]) Z<|.nt<|.rt<|.bR<|.tR<|?_
     refine At.pt (hd := [_,_,_,_]) (tl := bs) (hd' := [_,_,_]) [1,3,0] rfl rfl ?_
     refine Sx.freezeAt fun Hf uf mf => ?_
     exact Sx.ret1 (.inl rfl) rfl (.cell rfl Fx.agg85 (.head _) rfl) fun W t => ⟨(_,_,Hf),by rw [show stmT M k d bd by_ lf = _ from by rw [stmT,if_neg (by omega),if_neg (by omega),if_neg (by omega),if_neg (by omega),if_neg (by omega),if_neg (by omega),if_pos (by omega)],aftT,hE158];exact ⟨(u158.trans (u159.trans u179)).trans uf,sm_shut (kd := 7) (nm := []) (hd := (nmB 104 (nextB by_ (arL M M.own)).1)) (ex := (.mk op158 nm158 n158 a158 :: (numL M (arN M M.own (nextB by_ (arL M M.own)).1) _).1)) (th := []) (el := []) (by first | decide | simp [nmB]) (by first | decide | simp [nmB]) (mf.rep (z := 4) (RepZ.app (RepZ.single (((r158.up u159.up).up u179.up).up uf.up) rfl) (rz179.up uf.up)) (by simp;omega)) (Rep.empty (by decide)) (Rep.empty (by decide)),q179.up uf.up,hlf⟩,rfl,by rw [show stmT M k d bd by_ lf = _ from by rw [stmT,if_neg (by omega),if_neg (by omega),if_neg (by omega),if_neg (by omega),if_neg (by omega),if_neg (by omega),if_pos (by omega)],aftT,hE158];exact t.drop⟩
    refine .c3 (X := Value × Value × Hp) Fx.call114 Z (fun W s => numbers_st hM.1 (arN M M.own (nextB by_ (arL M M.own)).1) (by omega) (q158.up u159.up)  (s.pickT (hd := [_,_,_]) (tl := bs) (hd' := [_,_,_]) [1,0,2] Z Z)) Z (fun z179 hz179 => (.yv (.loadM Z Fx.agg9 (mE.up hz179.1.up) (k := 0) Z Z)<|.yv (.indexSl Fx.sl54 Z Z (i := (nextB by_ (arL M M.own)).1) Z (by omega) (q := oE + (nextB by_ (arL M M.own)).1 * 1) Z)<|.done (by kernel_rfl)<|.done (by kernel_rfl)<|.done (by kernel_rfl)<|.done (by kernel_rfl)<|.done (by kernel_rfl)<|.done (by kernel_rfl)<|.done (by kernel_rfl)<|.done (by kernel_rfl)<|.done (by kernel_rfl)<|.done (by kernel_rfl)<|.done (by kernel_rfl)<|.done (by kernel_rfl)<|.done (by kernel_rfl)<|.done (by kernel_rfl)<|.yv (.loadW Z Fx.agg58 (.tail _<|.head _) Z)<|.yv (.move Z)<|.nl)) fun z179 hz179 => ?_
    obtain ⟨x179,v179,H179⟩ := z179
    obtain ⟨u179,⟨xs179,rz179,rs179,rl179⟩,q179⟩ := hz179
    dsimp only at u179 rz179 rs179 q179 ⊢
    obtain ⟨pn179,cn179,rfl⟩ := rs179.sl
    refine .h1<|.blR Z (Fx.bsl56_1 _ _ _ _) Z (z := 4) Z (by decide) fun b164 => .h1<|.apR (news := xs179) Fx.row56 Z (fun _ => .head) Z rs179 (by rw [rz179.len,List.length_map,rl179]) rz179.one (by simp [maxLen];omega) (by omega) Z (fun _ => (.yv (.loadM Z Fx.agg9 (mE.up u179.up) (k := 0) Z Z)<|.yv (.indexSl Fx.sl54 Z Z (i := (nextB by_ (arL M M.own)).1) Z (by omega) (q := oE + (nextB by_ (arL M M.own)).1 * 1) Z)<|.done (by kernel_rfl)<|.done (by kernel_rfl)<|.done (by kernel_rfl)<|.done (by kernel_rfl)<|.done (by kernel_rfl)<|.done (by kernel_rfl)<|.done (by kernel_rfl)<|.done (by kernel_rfl)<|.done (by kernel_rfl)<|.done (by kernel_rfl)<|.done (by kernel_rfl)<|.done (by kernel_rfl)<|.done (by kernel_rfl)<|.done (by kernel_rfl)<|.done (by kernel_rfl)<|.yv (.move Z)<|.nl)) fun p180 c180 => .yv (.build Z (Fx.bld85_0_2_3 _ _ _ _ _)) Z<|.fn (tl := [_]) Z<|.sW (.tail<|.tail<|.tail<|.head) Z Z Fx.size85 (by simp [Value.oneCell',strV]) Z<|.nt<|.rt<|.bR<|.tR<|?_
    refine At.pt (hd := [_,_,_,_]) (tl := bs) (hd' := [_,_,_]) [0,3,1] rfl rfl ?_
    refine Sx.freezeAt fun Hf uf mf => ?_
    exact Sx.ret1 (.inl rfl) rfl (.cell rfl Fx.agg85 (.head _) rfl) fun W t => ⟨(_,_,Hf),by rw [show stmT M k d bd by_ lf = _ from by rw [stmT,if_neg (by omega),if_neg (by omega),if_neg (by omega),if_neg (by omega),if_neg (by omega),if_neg (by omega),if_pos (by omega)],aftT,hE158];exact ⟨(u158.trans (u159.trans u179)).trans uf,sm_shut (kd := 7) (nm := []) (hd := (nmB 104 (nextB by_ (arL M M.own)).1)) (ex := (.mk op158 nm158 n158 a158 :: (numL M (arN M M.own (nextB by_ (arL M M.own)).1) _).1)) (th := []) (el := []) (by first | decide | simp [nmB]) (by first | decide | simp [nmB]) (mf.rep (z := 4) (RepZ.app (RepZ.single (((r158.up u159.up).up u179.up).up uf.up) rfl) (rz179.up uf.up)) (by simp;omega)) (Rep.empty (by decide)) (Rep.empty (by decide)),q179.up uf.up,hlf⟩,rfl,by rw [show stmT M k d bd by_ lf = _ from by rw [stmT,if_neg (by omega),if_neg (by omega),if_neg (by omega),if_neg (by omega),if_neg (by omega),if_neg (by omega),if_pos (by omega)],aftT,hE158];exact t.drop⟩
   refine .blR Z (Fx.bsl56_1 _ _ _ _) Z (z := 4) Z (by decide) fun b164 => .h1<|.ct (X := Value) Fx.call39 Z (fun W s => names_any H158 104 3 (by omega) W s.agr) Z fun v159 H159 hn159 u159 => ?_
   obtain ⟨pn159,cn159,e159,_⟩ := hn159.sl
   simp only [List.cons.injEq,and_true,List.length_map,namesB_len] at e159
   subst e159
   obtain ⟨bE,oE,hpE,mE⟩ := name_at hn159 (k := (nextB by_ (arL M M.own)).1) (by omega)
   subst hpE
   refine .yv (.indexSl Fx.sl54 Z Z (i := (nextB by_ (arL M M.own)).1) Z (by omega) (q := oE + (nextB by_ (arL M M.own)).1 * 1) Z) Z<|.yv (.loadM Z Fx.agg9 mE (k := 0) Z Z) Z<|.h1<|.c3 (X := Value × Value × Hp) Fx.call114 Z (fun W s => numbers_st hM.1 (arN M M.own (nextB by_ (arL M M.own)).1) (by omega) (q158.up u159.up)  (s.pickT (hd := [_,_,_,_]) (tl := bs) (hd' := [_,_,_,_]) [2,0,1,3] Z Z)) Z (fun z179 hz179 => (.yv (.loadM Z Fx.agg9 (mE.up hz179.1.up) (k := 0) Z Z)<|.yv (.indexSl Fx.sl54 Z Z (i := (nextB by_ (arL M M.own)).1) Z (by omega) (q := oE + (nextB by_ (arL M M.own)).1 * 1) Z)<|.done (by kernel_rfl)<|.done (by kernel_rfl)<|.done (by kernel_rfl)<|.done (by kernel_rfl)<|.done (by kernel_rfl)<|.done (by kernel_rfl)<|.done (by kernel_rfl)<|.done (by kernel_rfl)<|.done (by kernel_rfl)<|.done (by kernel_rfl)<|.done (by kernel_rfl)<|.done (by kernel_rfl)<|.done (by kernel_rfl)<|.done (by kernel_rfl)<|.yv (.loadW Z Fx.agg58 (.tail _<|.tail _<|.head _) Z)<|.yv (.move Z)<|.nl)) fun z179 hz179 => ?_
   obtain ⟨x179,v179,H179⟩ := z179
   obtain ⟨u179,⟨xs179,rz179,rs179,rl179⟩,q179⟩ := hz179
   dsimp only at u179 rz179 rs179 q179 ⊢
   obtain ⟨pn179,cn179,rfl⟩ := rs179.sl
   refine .h1<|.apR (news := xs179) Fx.row56 Z (fun _ => (.tail<|.head)) Z rs179 (by rw [rz179.len,List.length_map,rl179]) rz179.one (by simp [maxLen];omega) (by omega) Z (fun _ => (.yv (.loadM Z Fx.agg9 (mE.up u179.up) (k := 0) Z Z)<|.yv (.indexSl Fx.sl54 Z Z (i := (nextB by_ (arL M M.own)).1) Z (by omega) (q := oE + (nextB by_ (arL M M.own)).1 * 1) Z)<|.done (by kernel_rfl)<|.done (by kernel_rfl)<|.done (by kernel_rfl)<|.done (by kernel_rfl)<|.done (by kernel_rfl)<|.done (by kernel_rfl)<|.done (by kernel_rfl)<|.done (by kernel_rfl)<|.done (by kernel_rfl)<|.done (by kernel_rfl)<|.done (by kernel_rfl)<|.done (by kernel_rfl)<|.done (by kernel_rfl)<|.done (by kernel_rfl)<|.done (by kernel_rfl)<|.yv (.move Z)<|.nl)) fun p180 c180 => .yv (.build Z (Fx.bld85_0_2_3 _ _ _ _ _)) Z<|.fn (tl := [_]) Z<|.sW (.tail<|.tail<|.tail<|.head) Z Z Fx.size85 (by simp [Value.oneCell',strV]) Z<|.nt<|.rt<|.bR<|.tR<|?_
   refine At.pt (hd := [_,_,_,_]) (tl := bs) (hd' := [_,_,_]) [1,3,0] rfl rfl ?_
   refine Sx.freezeAt fun Hf uf mf => ?_
   exact Sx.ret1 (.inl rfl) rfl (.cell rfl Fx.agg85 (.head _) rfl) fun W t => ⟨(_,_,Hf),by rw [show stmT M k d bd by_ lf = _ from by rw [stmT,if_neg (by omega),if_neg (by omega),if_neg (by omega),if_neg (by omega),if_neg (by omega),if_neg (by omega),if_pos (by omega)],aftT,hE158];exact ⟨(u158.trans (u159.trans u179)).trans uf,sm_shut (kd := 7) (nm := []) (hd := (nmB 104 (nextB by_ (arL M M.own)).1)) (ex := (.mk op158 nm158 n158 a158 :: (numL M (arN M M.own (nextB by_ (arL M M.own)).1) _).1)) (th := []) (el := []) (by first | decide | simp [nmB]) (by first | decide | simp [nmB]) (mf.rep (z := 4) (RepZ.app (RepZ.single (((r158.up u159.up).up u179.up).up uf.up) rfl) (rz179.up uf.up)) (by simp;omega)) (Rep.empty (by decide)) (Rep.empty (by decide)),q179.up uf.up,hlf⟩,rfl,by rw [show stmT M k d bd by_ lf = _ from by rw [stmT,if_neg (by omega),if_neg (by omega),if_neg (by omega),if_neg (by omega),if_neg (by omega),if_neg (by omega),if_pos (by omega)],aftT,hE158];exact t.drop⟩
  try simp only [df] at h141
  refine .cu (X := Bool) [(0,_),(1,_),(2,_),(6,_)] ⟨rfl,rfl,rfl,rfl,trivial⟩ (fun z => [(182,.bool z)]) (fun z => H) (fun z => (.box b (mkC M (.slice pA M.ars.length cA) bv (lf : Nat)) 127 :: .box b6 [.int .i64 0,.string ⟨#[]⟩,.string ⟨#[]⟩,.slice none 0 0,.slice none 0 0,.slice none 0 0] 85 :: bs)) (fun z => z = decide (k = 11 ∧ d < 3)) ?_ fun z hC => ?_
  ·
   refine .rg<|.m Z Z<|.yv (.eql Z Z) Z<|.m Z Z<|.b2 (fun h185 => ?_) (fun h185 => ?_)
   ·try simp only [dt] at h185
    exact .gd Z Z<|.yv (.move Z) Z<|.gd Z Z<|.yv (.lss Z Z) Z<|.yv (.pickT Z Z) Z<|.a Z Z<|.nt<|.me _ ⟨rfl,trivial⟩ ⟨rfl,rfl,rfl,rfl,trivial⟩ (fun _ s => s) (by rw [Bool.eq_iff_iff,decide_eq_true_eq];first | (rw [decide_eq_true_eq];omega) | exact ⟨fun _ => by omega,fun _ => rfl⟩ | exact ⟨fun h => (by cases h),fun h => by omega⟩)
   try simp only [df] at h185
   exact .gF Z Z Z Z<|.gF Z Z Z Z<|.yv (.pickF Z Z) Z<|.a Z Z<|.nt<|.me _ ⟨rfl,trivial⟩ ⟨rfl,rfl,rfl,rfl,trivial⟩ (fun _ s => s) (by rw [Bool.eq_iff_iff,decide_eq_true_eq];first | (rw [decide_eq_true_eq];omega) | exact ⟨fun _ => by omega,fun _ => rfl⟩ | exact ⟨fun h => (by cases h),fun h => by omega⟩)
  have e182 := hC
  refine .cd Z (fun h182 => ?_) (fun h182 => ?_)
  ·have q182 : k = 11 ∧ d < 3 := by rw [h182] at e182;exact of_decide_eq_true e182.symm
   refine .sq<|.sr<|.m Z Z<|.cs (X := Value) Fx.call99 Z (fun W s => next_st 2 (by decide) hb  (s.pickT (hd := [_,_]) (tl := bs) (hd' := [_,_]) [0,1] Z Z)) Z fun z190 hz190 => .yv (.eql Z Z) Z<|.nt<|.cd Z (fun h191 => ?_) (fun h191 => ?_)
   ·try simp only [dt] at h191
    refine .sr<|.m Z Z<|.cs (X := Value × Value × Hp) Fx.call114 Z (fun W s => numbers_st hM.1 2 (by decide) hz190  (s.pickT (hd := [_,_]) (tl := bs) (hd' := [_,_]) [0,1] Z Z)) Z fun z193 hz193 => ?_
    obtain ⟨x193,v193,H193⟩ := z193
    obtain ⟨u193,⟨xs193,rz193,rs193,rl193⟩,q193⟩ := hz193
    dsimp only at u193 rz193 rs193 q193 ⊢
    obtain ⟨pn193,cn193,rfl⟩ := rs193.sl
    refine .a Z Z<|.ns<|.m Z Z<|.m Z Z<|.m Z Z<|.yv (.add Z Z (c := ((d + 1 : Nat) : Int)) ((w6 (by omega)).trans (by omega))) Z<|.cs (X := Value × Value × Hp) Fx.call76 Z (fun W s => hbd (by omega) H193 w0 W _ b _ _ lf _ hlf (hAr.up u193.up) q193  (s.pickT (hd := [_,_]) (tl := bs) (hd' := [_,_]) [0,1] Z Z)) Z fun z198 hz198 => ?_
    obtain ⟨x198,v198,H198⟩ := z198
    obtain ⟨u198,r198,q198,l198⟩ := hz198
    dsimp only at u198 r198 q198 ⊢
    obtain ⟨pb198,cb198,eb198,_⟩ := r198.sl
    simp only [List.cons.injEq,and_true,List.length_map] at eb198
    subst eb198
    refine .yv (.build Z (Fx.bld85_0_3_5 _ _ _ _ _ _ _)) Z<|.sW (.tail<|.head) Z Z Fx.size85 (by simp [Value.oneCell',strV]) Z<|.nt<|.rt<|.tR<|.bR<|.tR<|?_
    refine At.pt (hd := [_,_]) (tl := bs) (hd' := [_,_]) [1,0] rfl rfl ?_
    exact Sx.ret1 (.inl rfl) rfl (.cell rfl Fx.agg85 (.head _) rfl) fun W t => ⟨(_,_,H198),by rw [show stmT M k d bd by_ lf = _ from by rw [stmT,if_neg (by omega),if_neg (by omega),if_neg (by omega),if_neg (by omega),if_neg (by omega),if_neg (by omega),if_neg (by omega),if_pos (by omega)],if_pos (by omega)];exact ⟨(u193.trans u198),sm_shut (kd := 8) (nm := []) (hd := []) (ex := _) (th := []) (el := _) (by first | decide | simp [nmB]) (by first | decide | simp [nmB]) ((rs193.up u198.up).rep (rz193.up u198.up) (by rw [List.length_map];exact rl193)) (Rep.empty (by decide)) r198,q198,l198⟩,rfl,by rw [show stmT M k d bd by_ lf = _ from by rw [stmT,if_neg (by omega),if_neg (by omega),if_neg (by omega),if_neg (by omega),if_neg (by omega),if_neg (by omega),if_neg (by omega),if_pos (by omega)],if_pos (by omega)];exact t.drop⟩
   try simp only [df] at h191
   refine .sk<|.tN<|.sr<|.m Z Z<|.cs (X := Value × Hp) Fx.call115 Z (fun W s => integer_st hM.1 hz190  (s.pickT (hd := [_,_]) (tl := bs) (hd' := [_,_]) [0,1] Z Z)) Z fun z201 hz201 => .a Z Z<|.ns<|.m Z Z<|.cs (X := List Value × Value × Hp) Fx.call113 Z (fun W s => num_any M hM.1 3 (by decide) z201.2 w0 W _ b _ _ _ _ hz201.2  (s.pickT (hd := [_,_]) (tl := bs) (hd' := [_,_]) [0,1] Z Z)) Z fun z203 hz203 => ?_
   obtain ⟨x203,v203,H203⟩ := z203
   obtain ⟨u203,r203,q203⟩ := hz203
   dsimp only at u203 r203 q203 ⊢
   generalize hE203 : (numE M 3 (nextB (nextB by_ 2).2 M.ints).2).1 = e203 at r203
   obtain ⟨op203,nm203,n203,a203⟩ := e203
   obtain ⟨p203,c203,rfl,hs203,hl203⟩ := ex_open r203
   refine .al Fx.zero58 Z fun b16 => .sW .head Z Z Fx.size58 (by simp [Value.oneCell',strV]) Z<|.nt<|.sq<|.ft (p := .light _ _ (.light _ _ (.light _ _ (.light _ _ (.light _ _ (.alt _ _ _ (.alt _ _ _ (.light _ _ (.done)) (.no)) (.alt _ _ _ (.alt _ _ _ (.light _ _ (.done)) (.no)) (.no)))))))) 8 (.light 0 (.light 1 (.light 3 (.light 4 (.light 5 (.alt 2 0 (.alt 6 2 (.light 7 (.done)) (.no)) (.alt 6 2 (.alt 2 0 (.light 7 (.done)) (.no)) (.no)))))))) (by kernel_rfl) (by kernel_rfl) Z<|.m Z Z<|.yv (.loadW Z Fx.agg58 (.head _) Z) Z<|.m Z Z<|.m Z Z<|.yv (.add Z Z (c := ((d + 1 : Nat) : Int)) ((w6 (by omega)).trans (by omega))) Z<|.h ?_ (.h ?_ .nn)
   ·
    refine .bl Z (Fx.bsl56_1 _ _ _ _) Z fun b206 => .h1<|.c3 (X := Value × Value × Hp) Fx.call76 Z (fun W s => hbd (by omega) H203 w0 W _ b _ _ lf _ hlf (hAr.up (hz201.1.trans u203).up) q203  (s.pickT (hd := [_,_,_,_]) (tl := bs) (hd' := [_,_,_,_]) [2,0,1,3] Z Z)) Z (fun z210 hz210 => (.done (by kernel_rfl)<|.done (by kernel_rfl)<|.done (by kernel_rfl)<|.yv (.loadW Z Fx.agg58 (.tail _<|.tail _<|.head _) Z)<|.yv (.move Z)<|.nl)) fun z210 hz210 => ?_
    obtain ⟨x210,v210,H210⟩ := z210
    obtain ⟨u210,r210,q210,l210⟩ := hz210
    dsimp only at u210 r210 q210 ⊢
    obtain ⟨pb210,cb210,eb210,_⟩ := r210.sl
    simp only [List.cons.injEq,and_true,List.length_map] at eb210
    subst eb210
    refine .yv (.build Z (Fx.bld85_0_1_3_5 _ _ _ _ _ _ _ _)) Z<|.fn (tl := [_]) Z<|.sW (.tail<|.tail<|.tail<|.head) Z Z Fx.size85 (by simp [Value.oneCell',strV]) Z<|.nt<|.rt<|.bR<|.tR<|?_
    refine At.pt (hd := [_,_,_,_]) (tl := bs) (hd' := [_,_,_]) [1,3,0] rfl rfl ?_
    refine Sx.freezeBox fun Hf uf mf => ?_
    exact Sx.ret1 (.inl rfl) rfl (.cell rfl Fx.agg85 (.head _) rfl) fun W t => ⟨(_,_,Hf),by rw [show stmT M k d bd by_ lf = _ from by rw [stmT,if_neg (by omega),if_neg (by omega),if_neg (by omega),if_neg (by omega),if_neg (by omega),if_neg (by omega),if_neg (by omega),if_pos (by omega)],if_neg (by omega),fetT,hE203];exact ⟨(hz201.1.trans (u203.trans u210)).trans uf,sm_shut (kd := 9) (nm := (nmB 120 _)) (hd := []) (ex := [.mk op203 nm203 n203 a203]) (th := []) (el := _) (by first | decide | simp [nmB]) (by first | decide | simp [nmB]) (Rep.mk (n := 1) (c := 1) mf (.single ((r203.up (u210).up).up uf.up) rfl) rfl (Nat.le_refl _) (by decide)) (Rep.empty (by decide)) (r210.up uf.up),q210.up uf.up,l210⟩,rfl,by rw [show stmT M k d bd by_ lf = _ from by rw [stmT,if_neg (by omega),if_neg (by omega),if_neg (by omega),if_neg (by omega),if_neg (by omega),if_neg (by omega),if_neg (by omega),if_pos (by omega)],if_neg (by omega),fetT,hE203];exact t.drop⟩
   refine .c3 (X := Value × Value × Hp) Fx.call76 Z (fun W s => hbd (by omega) H203 w0 W _ b _ _ lf _ hlf (hAr.up (hz201.1.trans u203).up) q203  (s.pickT (hd := [_,_,_]) (tl := bs) (hd' := [_,_,_]) [1,0,2] Z Z)) Z (fun z210 hz210 => (.done (by kernel_rfl)<|.done (by kernel_rfl)<|.done (by kernel_rfl)<|.yv (.loadW Z Fx.agg58 (.tail _<|.head _) Z)<|.yv (.move Z)<|.nl)) fun z210 hz210 => ?_
   obtain ⟨x210,v210,H210⟩ := z210
   obtain ⟨u210,r210,q210,l210⟩ := hz210
   dsimp only at u210 r210 q210 ⊢
   obtain ⟨pb210,cb210,eb210,_⟩ := r210.sl
   simp only [List.cons.injEq,and_true,List.length_map] at eb210
   subst eb210
   refine .h1<|.bl Z (Fx.bsl56_1 _ _ _ _) Z fun b206 => .yv (.build Z (Fx.bld85_0_1_3_5 _ _ _ _ _ _ _ _)) Z<|.fn (tl := [_]) Z<|.sW (.tail<|.tail<|.tail<|.head) Z Z Fx.size85 (by simp [Value.oneCell',strV]) Z<|.nt<|.rt<|.bR<|.tR<|?_
   refine At.pt (hd := [_,_,_,_]) (tl := bs) (hd' := [_,_,_]) [0,3,1] rfl rfl ?_
   refine Sx.freezeBox fun Hf uf mf => ?_
   exact Sx.ret1 (.inl rfl) rfl (.cell rfl Fx.agg85 (.head _) rfl) fun W t => ⟨(_,_,Hf),by rw [show stmT M k d bd by_ lf = _ from by rw [stmT,if_neg (by omega),if_neg (by omega),if_neg (by omega),if_neg (by omega),if_neg (by omega),if_neg (by omega),if_neg (by omega),if_pos (by omega)],if_neg (by omega),fetT,hE203];exact ⟨(hz201.1.trans (u203.trans u210)).trans uf,sm_shut (kd := 9) (nm := (nmB 120 _)) (hd := []) (ex := [.mk op203 nm203 n203 a203]) (th := []) (el := _) (by first | decide | simp [nmB]) (by first | decide | simp [nmB]) (Rep.mk (n := 1) (c := 1) mf (.single ((r203.up (u210).up).up uf.up) rfl) rfl (Nat.le_refl _) (by decide)) (Rep.empty (by decide)) (r210.up uf.up),q210.up uf.up,l210⟩,rfl,by rw [show stmT M k d bd by_ lf = _ from by rw [stmT,if_neg (by omega),if_neg (by omega),if_neg (by omega),if_neg (by omega),if_neg (by omega),if_neg (by omega),if_neg (by omega),if_pos (by omega)],if_neg (by omega),fetT,hE203];exact t.drop⟩
  have q182 : ¬ (k = 11 ∧ d < 3) := by rw [h182] at e182;exact of_decide_eq_false e182.symm
  refine .sr<|.m Z Z<|.yv (.eql Z Z) Z<|.m Z Z<|.b2 (fun h215 => ?_) (fun h215 => ?_)
  ·try simp only [dt] at h215
   refine .gd Z Z<|.yv (.move Z) Z<|.gd Z Z<|.cs (X := Value) Fx.call99 Z (fun W s => next_st 3 (by decide) hb  (s.pickT (hd := [_,_]) (tl := bs) (hd' := [_,_]) [0,1] Z Z)) Z fun z217 hz217 => .gd Z Z<|.yv (.eql Z Z) Z<|.yv (.pickT Z Z) Z<|.a Z Z<|.nt<|.cd Z (fun h212 => ?_) (fun h212 => ?_)
   ·try simp only [dt] at h212
    refine .sr<|.yv (.build Z (Fx.bld85_0 _)) Z<|.sW (.tail<|.head) Z Z Fx.size85 (by simp [Value.oneCell',strV]) Z<|.nt<|.rt<|.bR<|.tR<|?_
    refine At.pt (hd := [_,_]) (tl := bs) (hd' := [_,_]) [1,0] rfl rfl ?_
    exact Sx.ret1 (.inl rfl) rfl (.cell rfl Fx.agg85 (.head _) rfl) fun W t => ⟨(_,_,H),by rw [show stmT M k d bd by_ lf = _ from by rw [stmT,if_neg (by omega),if_neg (by omega),if_neg (by omega),if_neg (by omega),if_neg (by omega),if_neg (by omega),if_neg (by omega),if_neg (by omega),if_pos (by omega)]];exact ⟨.refl,sm_shut (kd := 10) (nm := []) (hd := []) (ex := []) (th := []) (el := []) (by first | decide | simp [nmB]) (by first | decide | simp [nmB]) (Rep.empty (by decide)) (Rep.empty (by decide)) (Rep.empty (by decide)),hz217,hlf⟩,rfl,by rw [show stmT M k d bd by_ lf = _ from by rw [stmT,if_neg (by omega),if_neg (by omega),if_neg (by omega),if_neg (by omega),if_neg (by omega),if_neg (by omega),if_neg (by omega),if_neg (by omega),if_pos (by omega)]];exact t.drop⟩
   try simp only [df] at h212
   exact .sk<|.bN<|.tN<|.me _ trivial ⟨rfl,rfl,trivial⟩ (fun _ s => s) (by first | exact ⟨by rw [if_neg (by omega)];exact hb,by omega⟩ | exact ⟨by rw [if_pos (by omega)];exact hz217,by omega⟩)
  try simp only [df] at h215
  exact .gF Z Z Z Z<|.gF Z Z Z Z<|.gF Z Z Z Z<|.yv (.pickF Z Z) Z<|.a Z Z<|.nt<|.cF Z<|.sk<|.bN<|.tN<|.me _ trivial ⟨rfl,rfl,trivial⟩ (fun _ s => s) (by first | exact ⟨by rw [if_neg (by omega)];exact hb,by omega⟩ | exact ⟨by rw [if_pos (by omega)];exact hz217,by omega⟩)
 obtain ⟨hbz,hc1,hc2,hc3,hc4,hc5,hc6,hc7,hc8,hc9⟩ := hC
 generalize hb1 : (if k = 12 then (nextB by_ 3).2 else by_) = b1 at hbz
 refine .sr<|.m Z Z<|.cs (X := Value × Hp) Fx.call115 Z (fun W s => integer_st hM.1 hbz  (s.pickT (hd := [_,_]) (tl := bs) (hd' := [_,_]) [0,1] Z Z)) Z fun z222 hz222 => .a Z Z<|.ns<|.m Z Z<|.m Z Z<|.cs (X := List Value × Value × Hp) Fx.call113 Z (fun W s => num_any M hM.1 3 (by decide) z222.2 w0 W _ b _ _ _ _ hz222.2  (s.pickT (hd := [_,_]) (tl := bs) (hd' := [_,_]) [0,1] Z Z)) Z fun z225 hz225 => ?_
 obtain ⟨x225,v225,H225⟩ := z225
 obtain ⟨u225,r225,q225⟩ := hz225
 dsimp only at u225 r225 q225 ⊢
 generalize hE225 : (numE M 3 (nextB b1 M.ints).2).1 = e225 at r225
 obtain ⟨op225,nm225,n225,a225⟩ := e225
 obtain ⟨p225,c225,rfl,hs225,hl225⟩ := ex_open r225
 refine .bl Z (Fx.bsl56_1 _ _ _ _) Z fun b226 => .yv (.build Z (Fx.bld85_0_1_3 _ _ _ _ _)) Z<|.sW (.tail<|.tail<|.head) Z Z Fx.size85 (by simp [Value.oneCell',strV]) Z<|.nt<|.rt<|?_
 refine At.pt (hd := [_,_,_]) (tl := bs) (hd' := [_,_,_]) [0,2,1] rfl rfl ?_
 refine Sx.freezeBox fun Hf uf mf => ?_
 exact Sx.ret1 (.inl rfl) rfl (.cell rfl Fx.agg85 (.head _) rfl) fun W t => ⟨(_,_,Hf),by rw [show stmT M k d bd by_ lf = _ from by rw [stmT,if_neg (by omega),if_neg (by omega),if_neg (by omega),if_neg (by omega),if_neg (by omega),if_neg (by omega),if_neg (by omega),if_neg (by omega),if_neg (by omega)],hb1,asgT,hE225];exact ⟨(hz222.1.trans u225).trans uf,sm_shut (kd := 1) (nm := (nmB 120 _)) (hd := []) (ex := [.mk op225 nm225 n225 a225]) (th := []) (el := []) (by first | decide | simp [nmB]) (by first | decide | simp [nmB]) (Rep.mk (n := 1) (c := 1) mf (.single ((r225).up uf.up) rfl) rfl (Nat.le_refl _) (by decide)) (Rep.empty (by decide)) (Rep.empty (by decide)),q225.up uf.up,hlf⟩,rfl,by rw [show stmT M k d bd by_ lf = _ from by rw [stmT,if_neg (by omega),if_neg (by omega),if_neg (by omega),if_neg (by omega),if_neg (by omega),if_neg (by omega),if_neg (by omega),if_neg (by omega),if_neg (by omega)],hb1,asgT,hE225];exact t.drop⟩
def StPl (st : Nat → Bs → Nat → Sm × (Bs × Nat)) (M : Mk) (d : Nat) : Prop := ∀ (H : Hp) (w0 W : World) (bs : List Res) (b : Nat) (arV bv : Value) (lf : Nat) (by_ : Bs) (k : Nat),lf ≤ 12 → Rep H (.seq 1 (M.ars.map dAr)) [arV] → Rep H (.seq 1 ((by_).map dU8)) [bv] → St H w0 (.box b (mkC M arV bv (lf : Nat)) 127 :: bs) W →
 Calls Tryz.prog 100 #[.pointer (some ⟨b,0,none⟩),.int .i64 (k : Nat),.int .i64 (d : Nat)] W fun e W' => ∃ z : List Value × Value × Hp,(HUp w0 H z.2.2 ∧ Rep z.2.2 (dSm .i64 (st k by_ lf).1) z.1 ∧ Rep z.2.2 (.seq 1 (((st k by_ lf).2.1).map dU8)) [z.2.1] ∧ (st k by_ lf).2.2 ≤ 12) ∧ e = .returned (.agg z.1.toArray) ∧ St z.2.2 w0 (.box b (mkC M arV z.2.1 ((st k by_ lf).2.2 : Nat)) 127 :: bs) W'
set_option maxRecDepth 100000 in
theorem body_step (M : Mk) (d : Nat) (hd : d ≤ 3) (st : Nat → Bs → Nat → Sm × (Bs × Nat)) (hst_ : StPl st M d) (hmono : ∀ k b lf,(st k b lf).2.2 ≤ lf) : BodOf (bodL st 13) M d := by
 intro H w0 W bs b arV bv lf by_ hlf hAr hb s
 obtain ⟨pA,cA,eA,_⟩ := hAr.sl
 simp only [List.cons.injEq,and_true,List.length_map] at eA
 subst eA
 refine Sx.enterS Tryz.func76 rfl Tryz.ntmps76 rfl s ?_
 refine .sr<|.a Z Z<|.ns<|.a Z Z<|?_
 refine Sx.row0 85 6 ?_
 refine .nt<|.sq<|.bk<|.lp (X := Nat × Nat × Hp × Value × List Value × Value × Nat) [(0,_),(1,_)] ⟨rfl,rfl,trivial⟩ (bs) (fun z => [(5,z.2.2.2.1)]) (fun z => z.2.2.1) (fun z => [.row 85 6 z.2.2.2.1 z.1 z.2.2.2.2.1,.box b (mkC M (.slice pA M.ars.length cA) z.2.2.2.2.2.1 (z.2.2.2.2.2.2 : Nat)) 127]) (fun z => z.2.2.2.2.2.2 < z.2.1 ∧ z.2.2.2.2.2.2 ≤ 12 ∧ z.1 + z.2.2.2.2.2.2 ≤ 12 ∧ HUp w0 H z.2.2.1 ∧ ∃ (es : List Sm) (b1 : Bs),es.length = z.1 ∧ RepZ z.2.2.1 6 (es.map (dSm .i64)) z.2.2.2.2.1 ∧ Rep z.2.2.1 (.seq 1 ((b1).map dU8)) [z.2.2.2.2.2.1] ∧ bodL st 13 (by_,lf) = (es ++ (bodL st z.2.1 (b1,z.2.2.2.2.2.2)).1,(bodL st z.2.1 (b1,z.2.2.2.2.2.2)).2)) (fun z => z.2.1) (0,13,H,.slice none 0 0,[],bv,lf) (fun _ s => s) ⟨rfl,trivial⟩ ⟨by dsimp only;omega,hlf,by dsimp only;omega,.refl,[],by_,rfl,RepZ.nil,hb,rfl⟩ fun z hC => ?_
 obtain ⟨k,f,H1,r,xs,bv,lf1⟩ := z
 dsimp only at hC ⊢
 obtain ⟨hf,hl1,hkl,u1,es,b1,hlen,hz,hb1,heq⟩ := hC
 obtain ⟨f,rfl⟩ : ∃ g,f = g + 1 := ⟨f - 1,by omega⟩
 obtain ⟨pB,cB,eB,hcB⟩ := hb1.sl
 simp only [List.cons.injEq,and_true,List.length_map] at eB hcB
 subst eB
 have hcapB := hb1.cap
 refine .sq<|.sr<|.m Z Z<|.yv (.nilCheck Z) Z<|.yv (.fieldAddr Z Fx.field127_6) Z<|.yv (.load Z Fx.agg22 (.tail _<|.head _) Z) Z<|.yv (.lenSl Fx.sl22 Z) Z<|.yv (.gtr Z Z) Z<|.m Z Z<|.b2 (fun h13 => ?_) (fun h13 => ?_)
 ·try simp only [dt] at h13
  have hb0 : b1 ≠ [] := by intro e;rw [e] at h13;simp at h13
  refine .gd Z Z<|.yv (.move Z) Z<|.gd Z Z<|.yv (.nilCheck Z) Z<|.gd Z Z<|.yv (.fieldAddr Z Fx.field127_7) Z<|.gd Z Z<|.yv (.load Z Fx.agg3 (.tail _<|.head _) Z) Z<|.gd Z Z<|.yv (.gtr Z Z) Z<|.yv (.pickT Z Z) Z<|.nt<|.cd Z (fun h19 => ?_) (fun h19 => ?_)
  ·try simp only [dt] at h19
   have hnn : ¬ (b1 = [] ∨ lf1 = 0) := fun h => h.elim hb0 (fun e => by omega)
   refine .sk<|.tN<|.bk<|.sr<|.m Z Z<|.cs (X := Value) Fx.call99 Z (fun W s => next_st 14 (by decide) hb1  (s.pickT (hd := [_,_]) (tl := bs) (hd' := [_,_]) [1,0] Z Z)) Z fun z21 hz21 => .a Z Z<|.nt<|.sq<|.sr<|.m Z Z<|.yv (.eql Z Z) Z<|.nt<|.cd Z (fun h23 => ?_) (fun h23 => ?_)
   ·try simp only [dt] at h23
    have h13 : (nextB b1 14).1 = 13 := by omega
    have heqF : bodL st 13 (by_,lf) = (es,((nextB b1 14).2,lf1)) := by rw [heq,bodL,if_neg hnn,if_pos h13,List.append_nil]
    refine .sr<|.m Z Z<|.a Z Z<|.nt<|.rt<|.tR<|.bR<|.tR<|.bR<|.tR<|?_
    refine At.pt (hd := [_,_]) (tl := bs) (hd' := [_,_]) [1,0] rfl rfl ?_
    refine Sx.freezeSeq (ds := es.map (dSm .i64)) (by simp;omega) hz fun H3 p3 c3 u3 hr3 hs3 => ?_
    exact Sx.ret1 (.inl rfl) rfl (.tmp rfl) fun W t => ⟨(r,_,H3),by rw [heqF];exact ⟨u1.trans u3,hs3,hz21.up u3.up,hl1⟩,rfl,by rw [heqF];exact t⟩
   try simp only [df] at h23
   have h13 : ¬ (nextB b1 14).1 = 13 := by omega
   refine .sk<|.tN<|.sr<|.m Z Z<|.yv (.nilCheck Z) Z<|.yv (.fieldAddr Z Fx.field127_7) Z<|.yv (.load Z Fx.agg3 (.head _) Z) Z<|.yv (.sub Z Z (c := ((lf1 - 1 : Nat) : Int)) ((w6 (by omega)).trans (by omega))) Z<|.yv (.nilCheck Z) Z<|.yv (.fieldAddr Z Fx.field127_7) Z<|.st (l' := mkC M (.slice pA M.ars.length cA) z21 (lf1 - 1 : Nat)) .head Z Z Fx.size3 Z (nb Z) Z<|.nt<|.rg<|.m Z Z<|.m Z Z<|.m Z Z<|.m Z Z<|.cs (X := List Value × Value × Hp) Fx.call100 Z (fun W s => hst_ H1 w0 W _ b _ _ (lf1 - 1) (nextB b1 14).2 (nextB b1 14).1 (by omega) (hAr.up u1.up) hz21  (s.pickT (hd := [_,_]) (tl := bs) (hd' := [_,_]) [0,1] Z Z)) Z fun z36 hz36 => ?_
   have hst := hmono (nextB b1 14).1 (nextB b1 14).2 (lf1 - 1)
   obtain ⟨x36,v36,H36⟩ := z36
   obtain ⟨u36,r36,q36,l36⟩ := hz36
   dsimp only at u36 r36 q36 ⊢
   generalize hE36 : (st (nextB b1 14).1 (nextB b1 14).2 (lf1 - 1)) = e36 at r36 q36 l36 ⊢
   obtain ⟨e36,b36s,lf36⟩ := e36
   dsimp only at r36 q36 l36 ⊢
   obtain ⟨kd,nm,hd_,ex,th,el⟩ := e36
   obtain ⟨p1,c1,p2,c2,p3,c3,rfl,hs1,hs2,hs3,hn1,hn2⟩ := sm_open r36
   rw [hE36] at hst
   dsimp only at hst
   exact .bl Z (Fx.bsl80_1 _ _ _ _ _ _) Z fun b37 => .ap (news := [.int .i64 kd.toNat,strV nm,strV hd_,.slice p1 ex.length c1,.slice p2 th.length c2,.slice p3 el.length c3]) Fx.row80 Z (fun _ => (.tail<|.tail<|.head)) Z (.box (.head _) z0) Z (by simp [Value.oneCell',strV]) (by simp [maxLen];omega) (by omega) Z fun r38 _ => .a Z Z<|.nl<|.bN<|.tN<|.ag (x := (k,f + 1,H1,r,xs,.slice pB b1.length cB,lf1)) (k + 1,f,H36,r38,xs ++ [.int .i64 kd.toNat,strV nm,strV hd_,.slice p1 ex.length c1,.slice p2 th.length c2,.slice p3 el.length c3],v36,lf36) ⟨rfl,trivial⟩ ⟨rfl,rfl,trivial⟩ (fun _ s => (s.pickT (hd := [_,_,_]) (tl := bs) (hd' := [_,_]) [2,1] Z Z)) ⟨by dsimp only;have := hst;omega,l36,by dsimp only;omega,u1.trans u36,es ++ [.mk kd nm hd_ ex th el],b36s,by simp;omega,by dsimp only;rw [List.map_append];exact (hz.up u36.up).snoc r36 Z,q36,by dsimp only;rw [heq,bodL,if_neg hnn,if_neg h13,hE36,List.append_assoc];rfl⟩ (by dsimp only;omega)
  try simp only [df] at h19
  have hbe : b1 = [] ∨ lf1 = 0 := .inr (by omega)
  have heqF : bodL st 13 (by_,lf) = (es,(b1,lf1)) := by rw [heq,bodL,if_pos hbe,List.append_nil]
  refine .ex<|.tE<|.tE<|.bE<|.tN<|.sr<|.m Z Z<|.a Z Z<|.nt<|.rt<|?_
  refine At.pt (hd := [_,_]) (tl := bs) (hd' := [_,_]) [0,1] rfl rfl ?_
  refine Sx.freezeSeq (ds := es.map (dSm .i64)) (by simp;omega) hz fun H3 p3 c3 u3 hr3 hs3 => ?_
  exact Sx.ret1 (.inl rfl) rfl (.tmp rfl) fun W t => ⟨(r,_,H3),by rw [heqF];exact ⟨u1.trans u3,hs3,hb1.up u3.up,hl1⟩,rfl,by rw [heqF];exact t⟩
 try simp only [df] at h13
 have hbe : b1 = [] ∨ lf1 = 0 := .inl (List.eq_nil_of_length_eq_zero (by omega))
 have heqF : bodL st 13 (by_,lf) = (es,(b1,lf1)) := by rw [heq,bodL,if_pos hbe,List.append_nil]
 refine .gF Z Z Z Z<|.gF Z Z Z Z<|.gF Z Z Z Z<|.gF Z Z Z Z<|.gF Z Z Z Z<|.yv (.pickF Z Z) Z<|.nt<|.cF Z<|.ex<|.tE<|.tE<|.bE<|.tN<|.sr<|.m Z Z<|.a Z Z<|.nt<|.rt<|?_
 refine At.pt (hd := [_,_]) (tl := bs) (hd' := [_,_]) [0,1] rfl rfl ?_
 refine Sx.freezeSeq (ds := es.map (dSm .i64)) (by simp;omega) hz fun H3 p3 c3 u3 hr3 hs3 => ?_
 exact Sx.ret1 (.inl rfl) rfl (.tmp rfl) fun W t => ⟨(r,_,H3),by rw [heqF];exact ⟨u1.trans u3,hs3,hb1.up u3.up,hl1⟩,rfl,by rw [heqF];exact t⟩
theorem stmT_mono (M : Mk) (k d : Nat) (bd : Bs × Nat → List Sm × (Bs × Nat)) (hm : ∀ x,(bd x).2.2 ≤ x.2) (b : Bs) (lf : Nat) : (stmT M k d bd b lf).2.2 ≤ lf := by
 unfold stmT
 split
 ·exact Nat.le_refl _
 split
 ·exact Nat.le_refl _
 split
 ·exact Nat.le_refl _
 split
 ·exact Nat.le_trans (hm _) (hm _)
 split
 ·exact hm _
 split
 ·exact Nat.le_refl _
 split
 ·exact Nat.le_refl _
 split
 ·split
  ·exact hm _
  ·exact hm _
 split
 ·exact Nat.le_refl _
 ·exact Nat.le_refl _
theorem bodL_mono (st : Nat → Bs → Nat → Sm × (Bs × Nat)) (hm : ∀ k b lf,(st k b lf).2.2 ≤ lf) : ∀ f x,(bodL st f x).2.2 ≤ x.2
 | 0,x => Nat.le_refl _
 | f + 1,(b,lf) => by
  unfold bodL
  split
  ·exact Nat.le_refl _
  ·split
   ·exact Nat.le_refl _
   ·refine Nat.le_trans (bodL_mono st hm f _) (Nat.le_trans (hm _ _ _) (Nat.sub_le _ _))
theorem bodE_mono (M : Mk) : ∀ f x,(bodE M f x).2.2 ≤ x.2
 | 0,x => bodL_mono _ (fun k b lf => stmT_mono M k 3 _ (fun _ => Nat.le_refl _) b lf) _ _
 | f + 1,x => bodL_mono _ (fun k b lf => stmT_mono M k (2 - f) _ (bodE_mono M f) b lf) _ _
theorem bodyJ_any (M : Mk) (hM : okA M) : ∀ f,f ≤ 3 → BodOf (bodE M f) M (3 - f)
 | 0,_ => body_step M 3 (by omega) _ (stmt_step M hM 3 (by omega) _ fun h => by omega) fun k b lf => stmT_mono M k 3 _ (fun _ => Nat.le_refl _) b lf
 | f + 1,hf => by
  have e : 3 - (f + 1) = 2 - f := by omega
  rw [e]
  refine body_step M (2 - f) (by omega) (fun k => stmT M k (2 - f) (bodE M f)) (stmt_step M hM (2 - f) (by omega) _ fun _ => ?_) fun k b lf => stmT_mono M k (2 - f) _ (bodE_mono M f) b lf
  rw [show 2 - f + 1 = 3 - f by omega]
  exact bodyJ_any M hM f (by omega)
theorem take_min {α : Type} (l : List α) (n : Nat) : l.take (min l.length n) = l.take n := by
 by_cases h : n ≤ l.length
 ·rw [Nat.min_eq_right h]
 ·rw [Nat.min_eq_left (by omega),List.take_length,List.take_of_length_le (by omega)]
def okB (M : Mk) : Prop := 0 < M.ints ∧ M.ints ≤ 3 ∧ M.flags ≤ 2 ∧ 0 < M.ars.length ∧ M.ars.length ≤ 3 ∧ M.own < M.ars.length ∧ ∀ l ∈ M.ars,0 < l.length ∧ l.length ≤ 3 ∧ ∀ n ∈ l,n ≤ 2
theorem okB_at {M : Mk} (h : okB M) {k : Nat} (hk : k < arL M M.own) : okA (M.at k) := by
 obtain ⟨h1,h2,h3,h4,h5,h6,h7⟩ := h
 refine ⟨⟨h1,h2,?_,h3⟩,h4,h5,h6,h7⟩
 have h8 := h7 _ (List.getElem_mem h6)
 unfold arL at hk
 show arN M M.own k ≤ 2
 unfold arN
 rw [getD_at h6] at hk ⊢
 rw [getD_at hk];exact h8.2.2 _ (List.getElem_mem hk)
set_option maxHeartbeats 1000000 in
set_option maxRecDepth 100000 in
theorem handlers_st (M : Mk) (hM : okB M) (l : List Cd) (hll : l.length ≤ arL M M.own) (H : Hp) (w0 W : World) (bs : List Res) (b : Nat) (arV bv v : Value) (left : Int) (hv : Rep H (.seq 2 (l.map dCd)) [v]) (hAr : Rep H (.seq 1 (M.ars.map dAr)) [arV]) (s : St H w0 (.box b (mkC M arV bv left) 127 :: bs) W) :
 Calls Tryz.prog 41 #[.pointer (some ⟨b,0,none⟩),v] W fun e W' => ∃ z : Value × Nat × Hp × Value × Int,(HUp w0 H z.2.2.1 ∧ Rep z.2.2.1 (.seq 3 ((hdsP M 0 l).map (dHd .i64))) [z.1]) ∧ e = .returned z.1 ∧ St z.2.2.1 w0 (.box b (mkC { M with params := z.2.1 } arV z.2.2.2.1 z.2.2.2.2) 127 :: bs) W' := by
 obtain ⟨pA,cA,eA,_⟩ := hAr.sl
 simp only [List.cons.injEq,and_true,List.length_map] at eA
 subst eA
 obtain ⟨bA,oA,pR,cR,hpA,mA,hR⟩ := ar_at hAr hM.2.2.2.2.2.1
 subst hpA
 obtain ⟨pl,cl,el,_⟩ := hv.sl
 simp only [List.cons.injEq,and_true,List.length_map] at el
 subst el
 have hs := hv
 have hcap := hs.cap
 refine Sx.enterS Tryz.func41 rfl Tryz.ntmps41 rfl s ?_
 refine .sr<|.a Z Z<|.ns<|.a Z Z<|?_
 refine Sx.row0 82 3 ?_
 refine .nt<|.sq<|.sr<|.m Z Z<|.yv (.lenSl Fx.sl119 Z) Z<|.m Z Z<|.nt<|.bk<|.lp (X := Nat × Nat × Hp × Value × List Value × Value × Int) [(0,_),(8,_),(9,_)] ⟨rfl,rfl,rfl,trivial⟩ (bs) (fun z => [(5,z.2.2.2.1),(10,.int .i64 (z.1 : Nat))]) (fun z => z.2.2.1) (fun z => [.row 82 3 z.2.2.2.1 z.1 z.2.2.2.2.1,.box b (mkC ({ M with params := z.2.1 }) (.slice (some ⟨bA,oA,none⟩) M.ars.length cA) z.2.2.2.2.2.1 z.2.2.2.2.2.2) 127]) (fun z => z.1 ≤ l.length ∧ HUp w0 H z.2.2.1 ∧ RepZ z.2.2.1 3 ((hdsP M 0 (l.take z.1)).map (dHd .i64)) z.2.2.2.2.1) (fun z => l.length - z.1) (0,M.params,H,.slice none 0 0,[],bv,left) (fun _ s => s) ⟨rfl,rfl,trivial⟩ ⟨by simp,.refl,RepZ.nil⟩ fun z hC => ?_
 obtain ⟨k,pv,H1,r,xs,bv,left⟩ := z
 dsimp only at hC ⊢
 obtain ⟨hk0,u1,hz⟩ := hC
 refine .sr<|.yv (.lss Z Z) Z<|.nt<|.sq<|.cd Z (fun h11 => ?_) (fun h11 => ?_)
 ·try simp only [dt] at h11
  have hk : k < l.length := by omega
  obtain ⟨bE,oE,cE,hpE,rE,lE,mE⟩ := (hs.up u1.up).elem (map_at (f := dCd) hk)
  cases hpE
  generalize hx : l[k] = cd at rE
  obtain ⟨pc,cc,rfl,hcb⟩ := cd_open rE
  have hal := hM.2.2.2.2.2.2 _ (List.getElem_mem hM.2.2.2.2.2.1)
  have hown := hM.2.2.2.2.2.1
  have hkA : k < arL M M.own := by omega
  have hokA : okA (M.at k) := okB_at hM hkA
  have hn2 : arN M M.own k ≤ 2 := (hokA.1).2.2.1
  have hk3 : k < 3 := by have := (hokA.len hown).2;exact Nat.lt_of_lt_of_le hkA this
  obtain ⟨bR,oR,hpR,mR⟩ := arn_at hR hkA
  subst hpR
  have mA1 := mA.up u1.up
  have mR1 := mR.up u1.up
  have hccap := hcb.cap
  refine .sk<|.tN<|.sq<|.bk<|.sr<|.m Z Z<|.yv (.indexSl Fx.sl119 Z Z Z (by omega) (q := oE + k * 2) Z) Z<|.yv (.loadMW Z Fx.agg129 mE Z) Z<|.al Fx.zero129 Z fun b7 => .a Z Z<|.sW .head Z Z Fx.size129 (by simp [Value.oneCell',strV]) Z<|.nt<|.sq<|.fl (trip := [(_,_,_),(_,_,_),(_,_,_),(_,_,_),(_,_,_),(_,_,_),(_,_,_),(_,_,_),(_,_,_),(_,_,_),(_,_,_),(_,_,_),(_,_,_),(_,_,_),(_,_,_),(_,_,_)]) 16 [(0,0),(1,0),(2,0),(3,0),(4,0),(5,0),(6,0),(7,0),(8,0),(9,0),(10,0),(11,0),(12,0),(13,0),(14,0),(15,0)] (by kernel_rfl) (by kernel_rfl) Z<|.m Z Z<|.m Z Z<|.yv (.nilCheck Z) Z<|.yv (.fieldAddr Z Fx.field127_4) Z<|.yv (.load Z Fx.agg123 (.tail _<|.tail _<|.head _) Z) Z<|.m Z Z<|.yv (.nilCheck Z) Z<|.yv (.fieldAddr Z Fx.field127_3) Z<|.yv (.load Z Fx.agg3 (.tail _<|.tail _<|.head _) Z) Z<|.yv (.indexSl Fx.sl123 Z Z (i := M.own) Z (by omega) (q := oA + M.own * 1) Z) Z<|.yv (.loadM Z Fx.agg124 mA1 (k := 0) Z Z) Z<|.m Z Z<|.yv (.indexSl Fx.sl124 Z Z (i := k) Z (by omega) (q := oR + k * 1) Z) Z<|.yv (.loadM Z Fx.agg3 mR1 (k := 0) Z Z) Z<|.yv (.nilCheck Z) Z<|.yv (.fieldAddr Z Fx.field127_5) Z<|.fn (tl := [_]) Z<|.st (l' := mkC (M.at k) (.slice (some ⟨bA,oA,none⟩) M.ars.length cA) bv left) (.tail<|.tail<|.head) Z Z Fx.size3 Z (nb Z) Z<|.nt<|.sq<|.fl (trip := [(_,_,_),(_,_,_),(_,_,_),(_,_,_),(_,_,_),(_,_,_),(_,_,_),(_,_,_),(_,_,_),(_,_,_)]) 10 [(0,0),(1,0),(2,0),(3,0),(4,0),(5,0),(6,0),(7,0),(8,0),(9,0)] (by kernel_rfl) (by kernel_rfl) Z<|.m Z Z<|.yv (.fieldAddr Z Fx.field129_1) Z<|.yv (.load Z Fx.agg22 (.head _) Z) Z<|.yv (.fieldAddr Z Fx.field129_1) Z<|.yv (.load Z Fx.agg22 (.head _) Z) Z<|.yv (.lenSl Fx.sl22 Z) Z<|.yv (.call Fx.call38 Z (fun W s => least_any H1 cd.bytes.length 40 W s.agr)) Z<|.yv (.cutHi2 Fx.sl22 Z Z (h := min cd.bytes.length 40) Z (by have := hcb.len.2.1;omega)) Z<|.yv (.nilCheck Z) Z<|.yv (.fieldAddr Z Fx.field127_6) Z<|.fn (tl := [_]) Z<|.st (l' := mkC (M.at k) (.slice (some ⟨bA,oA,none⟩) M.ars.length cA) _ left) (.tail<|.tail<|.head) Z Z Fx.size22 Z (nb Z) Z<|.ns<|.m Z Z<|.yv (.nilCheck Z) Z<|.yv (.fieldAddr Z Fx.field127_7) Z<|.st (l' := mkC (M.at k) (.slice (some ⟨bA,oA,none⟩) M.ars.length cA) _ ((12 : Nat) : Int)) (.tail<|.tail<|.head) Z Z Fx.size3 Z (nb Z) Z<|?_
  have hb40 := rep_take2 hcb (hi := min cd.bytes.length 40) (by omega)
  rw [← List.map_take,take_min] at hb40
  refine .nt<|.fl (trip := [(_,_,_),(_,_,_),(_,_,_),(_,_,_),(_,_,_),(_,_,_),(_,_,_),(_,_,_),(_,_,_),(_,_,_),(_,_,_),(_,_,_),(_,_,_),(_,_,_)]) 14 [(0,0),(2,0),(5,0),(6,0),(7,0),(8,0),(10,0),(1,1),(3,0),(4,0),(9,1),(11,3),(12,0),(13,1)] (by kernel_rfl) (by kernel_rfl) Z<|.m Z Z<|.m Z Z<|.m Z Z<|.yv (.nilCheck Z) Z<|.yv (.fieldAddr Z Fx.field127_5) Z<|.yv (.load Z Fx.agg3 (.tail _<|.tail _<|.head _) Z) Z<|.m Z Z<|.ct (X := Value) Fx.call39 Z (fun W s => names_any H1 104 3 (by omega) W s.agr) Z fun v45 H45 hn45 u45 => ?_
  obtain ⟨pn45,cn45,e45,_⟩ := hn45.sl
  simp only [List.cons.injEq,and_true,List.length_map,namesB_len] at e45
  subst e45
  obtain ⟨bN,oN,hpN,mN⟩ := name_at hn45 (k := k) hk3
  subst hpN
  refine .yv (.indexSl Fx.sl54 Z Z (i := k) Z (by omega) (q := oN + k * 1) Z) Z<|.yv (.loadM Z Fx.agg9 mN (k := 0) Z Z) Z<|.ct (X := Value) Fx.call39 Z (fun W s => names_any H45 112 (arN M M.own k) (by omega) W s.agr) Z fun v53 H53 hn53 u53 => ?_
  obtain ⟨pn53,cn53,e53,_⟩ := hn53.sl
  simp only [List.cons.injEq,and_true,List.length_map,namesB_len] at e53
  subst e53
  refine .c3 (X := Value × Value × Hp) Fx.call76 Z (fun W s => bodyJ_any (M.at k) hokA 3 (by decide) H53 w0 W _ b _ _ 12 (cd.bytes.take 40) (by decide) (hAr.up (u1.trans (u45.trans u53)).up) (hb40.up (u45.trans u53).up)  (s.pickT (hd := [_,_,_]) (tl := bs) (hd' := [_,_,_]) [2,0,1] Z Z)) Z (fun z55 hz55 => (.yv (.loadM Z Fx.agg9 (mN.up (u53.up.trans hz55.1.up)) (k := 0) Z Z)<|.yv (.indexSl Fx.sl54 Z Z (i := k) Z (by omega) (q := oN + k * 1) Z)<|.done (by kernel_rfl)<|.done (by kernel_rfl)<|.done (by kernel_rfl)<|.done (by kernel_rfl)<|.done (by kernel_rfl)<|.yv (.move Z)<|.yv (.move Z)<|.nl)) fun z55 hz55 => ?_
  obtain ⟨x55,v55,H55⟩ := z55
  obtain ⟨u55,r55,q55,l55⟩ := hz55
  dsimp only at u55 r55 q55 ⊢
  obtain ⟨pb55,cb55,eb55,_⟩ := r55.sl
  simp only [List.cons.injEq,and_true,List.length_map] at eb55
  subst eb55
  exact .yv (.build Z (Fx.bld82_0_1_2 _ _ _ _ _ _ _)) Z<|.bl Z (Fx.bsl79_1 _ _ _) Z fun b57 => .fn (tl := [_,_]) Z<|.ap (news := [strV (nmB 104 k),.slice pn53 (arN M M.own k) cn53,.slice pb55 (bodE (M.at k) 3 (cd.bytes.take 40,12)).1.length cb55]) Fx.row79 Z (fun _ => (.tail<|.tail<|.tail<|.head)) Z (.box (.head _) z0) Z (by simp [Value.oneCell',strV]) (by simp [maxLen];omega) (by omega) Z fun r58 _ => .a Z Z<|.nl<|.bN<|.tN<|.rg<|.yv (.add Z Z (w6 (by omega))) Z<|.m Z Z<|.nt<|.ag (x := (k,pv,H1,r,xs,bv,left)) (k + 1,arN M M.own k,H55,r58,xs ++ [strV (nmB 104 k),.slice pn53 (arN M M.own k) cn53,.slice pb55 (bodE (M.at k) 3 (cd.bytes.take 40,12)).1.length cb55],v55,((bodE (M.at k) 3 (cd.bytes.take 40,12)).2.2 : Nat)) ⟨rfl,rfl,trivial⟩ ⟨rfl,rfl,rfl,trivial⟩ (fun _ s => (s.pickT (hd := [_,_,_,_]) (tl := bs) (hd' := [_,_]) [3,1] Z Z)) ⟨by dsimp only;omega,u1.trans (u45.trans (u53.trans u55)),by dsimp only;rw [hdsP_succ hk,hx,List.map_append];exact (hz.up ((u45.trans (u53.trans u55)).up)).snoc (hd_shut (x := hdS M k cd) (by simp [hdS,nmB]) (by simpa [hdS,namesB_len] using hn53.up u55.up) (by simpa [hdS] using r55)) Z⟩ (by dsimp only;omega)
 try simp only [df] at h11
 obtain rfl : k = l.length := by omega
 rw [List.take_length] at hz
 refine .ex<|.tE<|.tE<|.bE<|.tN<|.sr<|.m Z Z<|.a Z Z<|.nt<|.rt<|?_
 refine At.pt (hd := [_,_]) (tl := bs) (hd' := [_,_]) [0,1] rfl rfl ?_
 refine Sx.freezeSeq (ds := (hdsP M 0 l).map (dHd .i64)) (by simp [hdsP_len]) hz fun H3 p3 c3 u3 hr3 hs3 => ?_
 exact Sx.ret1 (.inl rfl) rfl (.tmp rfl) fun W t => ⟨(r,pv,H3,bv,left),⟨u1.trans u3,hs3⟩,rfl,t⟩
theorem nat_shut {H : Hp} (n : Nat) : Rep H (dNat n) [.int .i64 (n : Nat)] := repV rfl trivial
set_option maxRecDepth 100000 in
theorem arity_prt (H : Hp) (x : Prt) (cs : List Value) (w : World) (h : Rep H (dPrt x) cs) (hA : Agr H w) : Calls Tryz.prog 40 #[.agg cs.toArray] w fun r w' => ∃ (v : Value) (H' : Hp),Rep H' (.seq 1 ((arP x).map dNat)) [v] ∧ r = .returned v ∧ Grow H w H' w' := by
 obtain ⟨p1,c1,p2,c2,rfl,h1,h2⟩ := prt_open h
 have hcap1 := h1.cap
 have hcap2 := h2.cap
 refine Sx.enter (H := H) Tryz.func40 rfl Tryz.ntmps40 rfl hA ?_
 refine .sr<|.bx Z Z Z fun b1 => .a Z Z<|.ns<|.a Z Z<|?_
 refine Sx.row0 3 1 ?_
 refine .nt<|.sq<|.sr<|.a Z Z<|.nt<|.bk<|.lp (X := Nat × Nat × Value × List Value) [(1,_)] ⟨rfl,trivial⟩ [_] (fun z => [(3,z.2.2.1),(4,.int .i64 (z.1 : Nat))]) (fun z => H) (fun z => [.row 3 1 z.2.2.1 z.2.1 z.2.2.2]) (fun z => z.1 ≤ 3 ∧ z.2.1 = (arUp x z.1).length ∧ RepZ H 1 ((arUp x z.1).map dNat) z.2.2.2) (fun z => 3 - z.1) (0,0,.slice none 0 0,[]) (fun _ s => s) ⟨rfl,rfl,trivial⟩ ⟨by simp,rfl,RepZ.nil⟩ fun z hC => ?_
 obtain ⟨k,n,r,xs⟩ := z
 dsimp only at hC ⊢
 obtain ⟨hk0,hn,hz⟩ := hC
 have hn3 := arUp_len x k
 refine .sq<|.sr<|.m Z Z<|.yv (.lss Z Z) Z<|.nt<|.cd Z (fun h6 => ?_) (fun h6 => ?_)
 ·try simp only [dt] at h6
  have hk3 : k < 3 := by omega
  refine .sk<|.tN<|.sq<|.bk<|.bk<|.sr<|.m Z Z<|.yv (.fieldAddr Z Fx.field121_2) Z<|.yv (.load Z Fx.agg119 (.tail _<|.head _) Z) Z<|.yv (.lenSl Fx.sl119 Z) Z<|.yv (.lss Z Z) Z<|.a Z Z<|.nt<|.cd Z (fun h9 => ?_) (fun h9 => ?_)
  ·try simp only [dt] at h9
   have hk : k < x.hs.length := by omega
   obtain ⟨bE,oE,cE,hpE,rE,lE,mE⟩ := h1.elem (map_at (f := dCd) hk)
   cases hpE
   obtain ⟨pc,cc,rfl,_⟩ := cd_open rE
   exact .rg<|.m Z Z<|.yv (.fieldAddr Z Fx.field121_2) Z<|.yv (.load Z Fx.agg119 (.tail _<|.head _) Z) Z<|.m Z Z<|.yv (.indexSl Fx.sl119 Z Z Z (by omega) (q := oE + k * 2) Z) Z<|.yv (.fieldAddr Z Fx.field129_0) Z<|.yv (.loadM Z Fx.agg5 mE (k := 0) Z Z) Z<|.yv (.rem Z Z (by decide) (c := ((x.hs[k].ps.toNat % 3 : Nat) : Int)) (by rw [Int.tmod_eq_emod_of_nonneg (by omega)];omega)) Z<|.yv (.conv Z Fx.int5 Fx.int3 (c := ((x.hs[k].ps.toNat % 3 : Nat) : Int)) (w6 (by omega))) Z<|.bl Z (Fx.bsl124_1 _) Z fun b24 => .ap (news := [.int .i64 (x.hs[k].ps.toNat % 3 : Nat)]) Fx.row124 Z (fun _ => (.tail<|.head)) Z (.box (.head _) z0) Z (by simp [Value.oneCell']) (by simp [maxLen];omega) (by omega) Z fun r25 _ => .a Z Z<|.nl<|.bN<|.bN<|.tN<|.rg<|.m Z Z<|.yv (.add Z Z (w6 (by omega))) Z<|.a Z Z<|.nt<|.ag (x := (k,n,r,xs)) (k + 1,n + 1,r25,xs ++ [.int .i64 (x.hs[k].ps.toNat % 3 : Nat)]) ⟨rfl,rfl,trivial⟩ ⟨rfl,trivial⟩ (fun _ s => (s.pick [1,2] _ Z Z)) (by have hA1 : arK x k = [x.hs[k].ps.toNat % 3] := (by unfold arK;rw [dif_pos hk]);exact ⟨by dsimp only;omega,by dsimp only;rw [arUp_succ,hA1];simp [hn],by dsimp only;rw [arUp_succ,hA1,List.map_append];exact hz.snoc (nat_shut _) Z⟩) (by dsimp only;omega)
  try simp only [df] at h9
  have hna : ¬ k < x.hs.length := by omega
  refine .sr<|.m Z Z<|.yv (.eql Z Z) Z<|.a Z Z<|.nt<|.cd Z (fun h26 => ?_) (fun h26 => ?_)
  ·try simp only [dt] at h26
   have hb : k = 0 := by omega
   exact .rg<|.m Z Z<|.bl Z (Fx.bsl124_1 _) Z fun b30 => .ap (news := [.int .i64 (1 : Nat)]) Fx.row124 Z (fun _ => (.tail<|.head)) Z (.box (.head _) z0) Z (by simp [Value.oneCell']) (by simp [maxLen];omega) (by omega) Z fun r31 _ => .a Z Z<|.nl<|.bN<|.bN<|.tN<|.rg<|.m Z Z<|.yv (.add Z Z (w6 (by omega))) Z<|.a Z Z<|.nt<|.ag (x := (k,n,r,xs)) (k + 1,n + 1,r31,xs ++ [.int .i64 (1 : Nat)]) ⟨rfl,rfl,trivial⟩ ⟨rfl,trivial⟩ (fun _ s => (s.pick [1,2] _ Z Z)) (by have hA1 : arK x k = [1] := (by unfold arK;rw [dif_neg hna,if_pos hb]);exact ⟨by dsimp only;omega,by dsimp only;rw [arUp_succ,hA1];simp [hn],by dsimp only;rw [arUp_succ,hA1,List.map_append];exact hz.snoc (nat_shut _) Z⟩) (by dsimp only;omega)
  try simp only [df] at h26
  have hnb : ¬ k = 0 := by omega
  refine .sr<|.m Z Z<|.yv (.fieldAddr Z Fx.field121_3) Z<|.yv (.load Z Fx.agg119 (.tail _<|.head _) Z) Z<|.yv (.lenSl Fx.sl119 Z) Z<|.yv (.lss Z Z) Z<|.a Z Z<|.nt<|.cd Z (fun h32 => ?_) (fun h32 => ?_)
  ·try simp only [dt] at h32
   have hk : k < x.sec.length := by omega
   obtain ⟨bE,oE,cE,hpE,rE,lE,mE⟩ := h2.elem (map_at (f := dCd) hk)
   cases hpE
   obtain ⟨pc,cc,rfl,_⟩ := cd_open rE
   exact .rg<|.m Z Z<|.yv (.fieldAddr Z Fx.field121_3) Z<|.yv (.load Z Fx.agg119 (.tail _<|.head _) Z) Z<|.m Z Z<|.yv (.indexSl Fx.sl119 Z Z Z (by omega) (q := oE + k * 2) Z) Z<|.yv (.fieldAddr Z Fx.field129_0) Z<|.yv (.loadM Z Fx.agg5 mE (k := 0) Z Z) Z<|.yv (.rem Z Z (by decide) (c := ((x.sec[k].ps.toNat % 3 : Nat) : Int)) (by rw [Int.tmod_eq_emod_of_nonneg (by omega)];omega)) Z<|.yv (.conv Z Fx.int5 Fx.int3 (c := ((x.sec[k].ps.toNat % 3 : Nat) : Int)) (w6 (by omega))) Z<|.bl Z (Fx.bsl124_1 _) Z fun b47 => .ap (news := [.int .i64 (x.sec[k].ps.toNat % 3 : Nat)]) Fx.row124 Z (fun _ => (.tail<|.head)) Z (.box (.head _) z0) Z (by simp [Value.oneCell']) (by simp [maxLen];omega) (by omega) Z fun r48 _ => .a Z Z<|.nl<|.bN<|.bN<|.tN<|.rg<|.m Z Z<|.yv (.add Z Z (w6 (by omega))) Z<|.a Z Z<|.nt<|.ag (x := (k,n,r,xs)) (k + 1,n + 1,r48,xs ++ [.int .i64 (x.sec[k].ps.toNat % 3 : Nat)]) ⟨rfl,rfl,trivial⟩ ⟨rfl,trivial⟩ (fun _ s => (s.pick [1,2] _ Z Z)) (by have hA1 : arK x k = [x.sec[k].ps.toNat % 3] := (by unfold arK;rw [dif_neg hna,if_neg hnb,dif_pos hk]);exact ⟨by dsimp only;omega,by dsimp only;rw [arUp_succ,hA1];simp [hn],by dsimp only;rw [arUp_succ,hA1,List.map_append];exact hz.snoc (nat_shut _) Z⟩) (by dsimp only;omega)
  try simp only [df] at h32
  have hnc : ¬ k < x.sec.length := by omega
  exact .sk<|.bN<|.bN<|.tN<|.rg<|.m Z Z<|.yv (.add Z Z (w6 (by omega))) Z<|.a Z Z<|.nt<|.ag (x := (k,n,r,xs)) (k + 1,n,r,xs) ⟨rfl,rfl,trivial⟩ ⟨rfl,trivial⟩ (fun _ s => (s.pick [0,1] _ Z Z)) (by have hA1 : arK x k = [] := (by unfold arK;rw [dif_neg hna,if_neg hnb,dif_neg hnc]);exact ⟨by dsimp only;omega,by dsimp only;rw [arUp_succ,hA1,List.append_nil];exact hn,by dsimp only;rw [arUp_succ,hA1,List.append_nil];exact hz⟩) (by dsimp only;omega)
 try simp only [df] at h6
 obtain rfl : k = 3 := by omega
 refine .ex<|.tE<|.tE<|.bE<|.tN<|.sr<|.m Z Z<|.a Z Z<|.nt<|.rt<|?_
 refine At.pm [0] [_] rfl rfl ?_
 refine Sx.freezeSeq (ds := (arUp x 3).map dNat) (by simp [hn]) hz fun H3 p3 c3 u3 hr3 hs3 => ?_
 exact Sx.ret1 (.inl rfl) rfl (.tmp rfl) fun W t => ⟨r,H3,hs3,rfl,u3.grow t⟩
end Go.Proofs.YtohfacbajcenoaaGreatDoor
