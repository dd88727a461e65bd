/- Texts of the proof, one behind the other. -/
import Derived.Test.YthhoebdlfjffkaaDoorMd
import Derived.Test.YthhoebdlfjffkaaDoorTie
import Derived.ProofKit
import Derived.OpenShut
import Derived.ShutString
import Derived.Lay
import Derived.Stop.LaidErr
import Derived.Stop.Joined
import Derived.Shelf.Vars
import Derived.Lib.LaidTab
import Derived.Lib.SmallJoins
import Derived.SevenTiedAt
set_option linter.all false
namespace Go.Proofs.YthhoebdlfjffkaaDoor
open Go.RowKit Go.Par Go.Sx
theorem Fx.call8 : callN Tryd.prog 8 = Bool.true := by kernel_rfl
theorem Fx.call15 : callN Tryd.prog 15 = Bool.true := by kernel_rfl
theorem awA_check : checkE (opE 16 [opE 10 [nmE 97],nmE 98]) = 0 := by decide +kernel
theorem parse_bad {H : Hp} (G : Gl H) {w0 W : World} {bs : List Res} {t : Str} {c o : Nat} (ht : t.length ≤ 9223372036854775807) (hc : (sgZ gFt t).e = c) (ho : (sgZ gFt t).o = o) (h0 : c ≠ 0)
 (hcp : (up t.length (gMany [108,105,110,107] gLk) (up t.length (gMany [102,108,97,103] gFg) (up t.length (gNd [123]) (up t.length gNm (up t.length (gNd [102,108,101,101,116]) (sg0 t)))))).e = 0 → False) (s : St H w0 bs W) :
 Calls Tryd.prog 15 #[strV t] W fun e W' => ∃ z : Hp,HUp w0 H z ∧ e = .returned (.tuple #[.agg ([.string ⟨#[]⟩,.slice none 0 0,.slice none 0 0,.slice none 0 0] : List Value).toArray,.int .i64 (o : Nat),.int .i64 (c : Nat)]) ∧ St z w0 bs W' := by
 subst hc ho
 refine (parse_st G t ht (fun f _ h => absurd h h0) (fun h => (hcp h).elim) s).mono ?_
 rintro e W' ⟨z,⟨h1,h2,h3⟩,h4,h5⟩
 refine ⟨z.2.2,h2,?_,h5⟩
 rw [h4]
 unfold pzR pzO pzE
 simp only [h0,if_false,false_and]
set_option maxRecDepth 100000 in
theorem awake_any (H : Hp) (G : Gl H) (w : World) (hA : Agr H w) : Calls Tryd.prog 6 #[] w fun r w' => r = .returned (.bool true) ∧ Ext w w' := by
 refine Sx.enter (H := H) Tryd.func6 rfl Tryd.ntmps6 rfl hA ?_
 refine .sr<|.a Z Z<|.ns<|.cs (X := List Value × Hp) Fx.call8 Z (fun W s => exprP_ok (t := txA) G (by decide) awA awA_check s) Z fun z1 hz1 => ?_
 obtain ⟨c1,H1⟩ := z1
 obtain ⟨u1,r1⟩ := hz1
 dsimp only at u1 r1 ⊢
 obtain ⟨p,c,rfl,hs,_⟩ := ex_open r1
 obtain ⟨bE,oE,cE,hpE,rE,lE,mE⟩ := hs.elem (i := 0) (d := dEx .u8 (opE 10 [nmE 97])) rfl
 obtain ⟨bF,oF,cF,hpF,rF,lF,mF⟩ := hs.elem (i := 1) (d := dEx .u8 (nmE 98)) rfl
 cases hpE
 cases hpF
 obtain ⟨p2,c2,rfl,_,_⟩ := ex_open rE
 obtain ⟨p3,c3,rfl,_,_⟩ := ex_open rF
 refine .m Z Z<|.yv (.extract Z Z) Z<|.yv (.extract Z Z) Z<|.yv (.extract Z Z) Z<|.al Fx.zero31 Z fun b1 => .sW .head Z Z Fx.size31 (Rep.one r1) Z<|.a Z Z<|.a Z Z<|.nt<|.sq<|.sr<|.m Z Z<|.yv (.cast (.neq Z Z) (congrArg Value.bool (decide_eq_false (fun h => h Z)))) Z<|.m Z Z<|.gd Z Z<|.yv (.move Z) Z<|.gd Z Z<|.yv (.cast (.neq Z Z) (congrArg Value.bool (decide_eq_false (fun h => h Z)))) Z<|.yv (.pickF Z Z) Z<|.m Z Z<|.gd Z Z<|.yv (.fieldAddr Z Fx.field31_0) Z<|.gd Z Z<|.yv (.load Z Fx.agg28 (.head _) Z) Z<|.gd Z Z<|.yv (.cast (.neq Z Z) (congrArg Value.bool (decide_eq_false (fun h => h Z)))) Z<|.yv (.pickF Z Z) Z<|.m Z Z<|.gd Z Z<|.yv (.fieldAddr Z Fx.field31_3) Z<|.gd Z Z<|.yv (.load Z Fx.agg29 (.head _) Z) Z<|.gd Z Z<|.yv (.lenSl Fx.sl29 Z) Z<|.gd Z Z<|.yv (.cast (.neq Z Z) (congrArg Value.bool (decide_eq_false (fun h => h Z)))) Z<|.yv (.pickF Z Z) Z<|.m Z Z<|.gd Z Z<|.yv (.fieldAddr Z Fx.field31_3) Z<|.gd Z Z<|.yv (.load Z Fx.agg29 (.head _) Z) Z<|.gd Z Z<|.yv (.indexSl Fx.sl29 Z Z (i := 0) Z (by decide) (q := oE + 0 * 4) (by omega)) Z<|.gd Z Z<|.yv (.fieldAddr Z Fx.field31_0) Z<|.gd Z Z<|.yv (.loadM Z Fx.agg28 mE (k := 0) Z Z) Z<|.gd Z Z<|.yv (.cast (.neq Z Z) (congrArg Value.bool (decide_eq_false (fun h => h Z)))) Z<|.yv (.pickF Z Z) Z<|.m Z Z<|.gd Z Z<|.yv (.fieldAddr Z Fx.field31_3) Z<|.gd Z Z<|.yv (.load Z Fx.agg29 (.head _) Z) Z<|.gd Z Z<|.yv (.indexSl Fx.sl29 Z Z (i := 1) Z (by decide) (q := oE + 1 * 4) (by omega)) Z<|.gd Z Z<|.yv (.fieldAddr Z Fx.field31_1) Z<|.gd Z Z<|.yv (.loadM Z Fx.agg9 mF (k := 1) Z Z) Z<|.gd Z Z<|.yv (.cast (.neS Z Z) (congrArg Value.bool (decide_eq_false (fun h => h Z)))) Z<|.yv (.pickF Z Z) Z<|.nt<|.cF Z<|.sk<|.tN<|.sr<|.cs (X := Hp) Fx.call8 Z (fun W s => exprP_bad (t := txB) (G.up u1.up) (by decide) awB.1 awB.2 (by decide) s) Z fun H2 u2 => .m Z Z<|.yv (.extract Z Z) Z<|.yv (.extract Z Z) Z<|.yv (.extract Z Z) Z<|.a Z Z<|.a Z Z<|.ns<|.cs (X := Hp) Fx.call15 Z (fun W s => parse_bad (t := txC) ((G.up u1.up).up u2.up) (by decide) awC.1 awC.2 (by decide) (fun h => absurd h (by decide +kernel)) s) Z fun H3 u3 => .m Z Z<|.yv (.extract Z Z) Z<|.yv (.extract Z Z) Z<|.yv (.extract Z Z) Z<|.al Fx.zero49 Z fun b4 => .sW .head Z Z Fx.size49 (by simp [Value.oneCell']) Z<|.a Z Z<|.a Z Z<|.ns<|.cs (X := Hp) Fx.call8 Z (fun W s => exprP_bad (t := txD) (((G.up u1.up).up u2.up).up u3.up) (by decide) awD.1 awD.2 (by decide) s) Z fun H4 u4 => .m Z Z<|.yv (.extract Z Z) Z<|.yv (.extract Z Z) Z<|.yv (.extract Z Z) Z<|.al Fx.zero31 Z fun b7 => .sW .head Z Z Fx.size31 (by simp [Value.oneCell']) Z<|.a Z Z<|.a Z Z<|.ns<|.m Z Z<|.yv (.cast (.eql Z Z) (congrArg Value.bool (decide_eq_true Z))) Z<|.m Z Z<|.gd Z Z<|.yv (.move Z) Z<|.gd Z Z<|.yv (.cast (.eql Z Z) (congrArg Value.bool (decide_eq_true Z))) Z<|.yv (.pickT Z Z) Z<|.m Z Z<|.gd Z Z<|.yv (.move Z) Z<|.gd Z Z<|.yv (.cast (.eql Z Z) (congrArg Value.bool (decide_eq_true Z))) Z<|.yv (.pickT Z Z) Z<|.m Z Z<|.gd Z Z<|.yv (.move Z) Z<|.gd Z Z<|.yv (.cast (.eql Z Z) (congrArg Value.bool (decide_eq_true Z))) Z<|.yv (.pickT Z Z) Z<|.m Z Z<|.gd Z Z<|.yv (.move Z) Z<|.gd Z Z<|.yv (.cast (.eql Z Z) (congrArg Value.bool (decide_eq_true Z))) Z<|.yv (.pickT Z Z) Z<|.m Z Z<|.gd Z Z<|.yv (.move Z) Z<|.gd Z Z<|.yv (.cast (.eql Z Z) (congrArg Value.bool (decide_eq_true Z))) Z<|.yv (.pickT Z Z) Z<|.a Z Z<|.nt<|.rt<|?_
 exact Sx.ret1 (.inl rfl) rfl (.tmp rfl) fun W s => ⟨rfl,s.ext⟩
noncomputable def eqP (p : Prop) : Bool := @decide p (Classical.propDecidable p)
theorem eqP_iff {p : Prop} : eqP p = true ↔ p := by unfold eqP;exact @decide_eq_true_iff p (Classical.propDecidable p)
def EqAt (gf : FuncId) {α : Type} (d : α → D) (H : Hp) (a b : α) : Prop := ∀ (ca cb : List Value) (w : World),Rep H (d a) ca → Rep H (d b) cb → Agr H w → Calls Tryd.prog gf #[.agg ca.toArray,.agg cb.toArray] w fun r w' => r = .returned (.bool (eqP (a = b))) ∧ Ext w w'
theorem take_eq_succ {α : Type} {l m : List α} {k : Nat} (h : k < l.length) (h2 : k < m.length) (ht : l.take k = m.take k) (he : l[k] = m[k]) : l.take (k + 1) = m.take (k + 1) := by rw [take_snoc h,take_snoc h2,ht,he]
set_option maxRecDepth 100000 in
theorem eqFuncE (H : Hp) (gf : FuncId) (hgf : callN Tryd.prog gf = true) (l m : List Ex) (hq : ∀ a ∈ l,∀ b,EqAt gf (dEx .u8) H a b) (v u : Value) (hs : Rep H (.seq 4 (l.map (dEx .u8))) [v]) (ht : Rep H (.seq 4 (m.map (dEx .u8))) [u]) (w : World) (hA : Agr H w) :
 Calls Tryd.prog 21 #[v,u,.func (.func gf) #[] #[]] w fun r w' => r = .returned (.bool (eqP (l = m))) ∧ Ext w w' := by
 obtain ⟨p,c,e,_⟩ := hs.sl
 simp only [List.cons.injEq,and_true,List.length_map] at e
 subst e
 obtain ⟨p2,c2,e,_⟩ := ht.sl
 simp only [List.cons.injEq,and_true,List.length_map] at e
 subst e
 have hcap := hs.cap
 have hcap2 := ht.cap
 refine Sx.enter (H := H) Tryd.func21 rfl Tryd.ntmps21 rfl hA ?_
 refine .sr<|.a Z Z<|.nt<|.sq<|.sr<|.m Z Z<|.yv (.lenSl Fx.sl29 Z) Z<|.m Z Z<|.yv (.lenSl Fx.sl29 Z) Z<|.yv (.neq Z Z) Z<|.nt<|.cd Z (fun h14 => ?_) (fun h14 => ?_)
 ·try simp only [dt] at h14
  have hne : ¬ l = m := fun e => by rw [e] at h14;exact h14 rfl
  refine .sr<|.a Z Z<|.nt<|.rt<|.tR<|?_
  refine Sx.ret1 (.inl rfl) rfl (.tmp rfl) fun W s => ⟨retB ?_,s.ext⟩
  first
   | (rw [eqP_iff];exact ⟨fun h => (by cases h),fun h => absurd h hne⟩)
   | (rw [eqP_iff];exact ⟨fun _ => heq,fun _ => rfl⟩)
 try simp only [df] at h14
 have hlen : l.length = m.length := by omega
 refine .sk<|.tN<|.sq<|.sr<|.m Z Z<|.yv (.lenSl Fx.sl29 Z) Z<|.m Z Z<|.nt<|.bk<|.lp (X := Nat) [(1,_),(2,_),(15,_),(16,_)] ⟨rfl,rfl,rfl,rfl,trivial⟩ [] (fun k => [(17,.int .i64 (k : Nat))]) (fun k => H) (fun k => []) (fun k => k ≤ l.length ∧ l.take k = m.take k) (fun k => l.length - k) 0 (fun _ s => s) ⟨rfl,trivial⟩ ⟨by omega,rfl⟩ fun k hC => ?_
 obtain ⟨hk0,hal⟩ := hC
 refine .sr<|.yv (.lss Z Z) Z<|.nt<|.sq<|.cd Z (fun h18 => ?_) (fun h18 => ?_)
 ·try simp only [dt] at h18
  have hk : k < l.length := by omega
  have hkm : k < m.length := by omega
  obtain ⟨bE,oE,cE,hpE,rE,lE,mE⟩ := hs.elem (map_at hk)
  cases hpE
  obtain ⟨bF,oF,cF,hpF,rF,lF,mF⟩ := ht.elem (map_at hkm)
  cases hpF
  refine .sk<|.tN<|.sq<|.bk<|.sr<|.m Z Z<|.yv (.indexSl Fx.sl29 Z Z Z (by omega) (q := oE + k * 4) Z) Z<|.yv (.loadMW Z Fx.agg31 mE lE) Z<|.al Fx.zero31 Z fun b8 => .a Z Z<|.sV .head Z Z Fx.size31 lE rE.one Z<|.ns<|.m Z Z<|.m Z Z<|.yv (.indexSl Fx.sl29 Z Z Z (by omega) (q := oF + k * 4) Z) Z<|.yv (.loadMW Z Fx.agg31 mF lF) Z<|.al Fx.zero31 Z fun b9 => .sV .head Z Z Fx.size31 lF rF.one Z<|.ns<|.m Z Z<|.yv (.loadW Z Fx.agg31 (.tail _<|.head _) lE) Z<|.yv (.loadW Z Fx.agg31 (.head _) lF) Z<|.yv (.callV (fi := []) (ca := []) Z hgf Z (fun W s => hq _ (List.getElem_mem hk) _ cE cF W rE rF s.agr)) Z<|.yv (.not Z) Z<|.nt<|.cd Z (fun h30 => ?_) (fun h30 => ?_)
  ·try simp only [dt] at h30
   have hne : ¬ l = m := fun e => by subst e;rw [eqP_iff.2 rfl] at h30;cases h30
   refine .sr<|.a Z Z<|.nt<|.rt<|.bR<|.tR<|.tR<|.bR<|.tR<|?_
   refine Sx.ret1 (.inl rfl) rfl (.tmp rfl) fun W s => ⟨retB ?_,s.ext⟩
   first
    | (rw [eqP_iff];exact ⟨fun h => (by cases h),fun h => absurd h hne⟩)
    | (rw [eqP_iff];exact ⟨fun _ => heq,fun _ => rfl⟩)
  try simp only [df] at h30
  have heq : l[k] = m[k] := eqP_iff.1 (by simpa using h30)
  exact .sk<|.bN<|.tN<|.rg<|.yv (.add Z Z (w6 (by omega))) Z<|.m Z Z<|.nt<|.ag (k + 1) ⟨rfl,trivial⟩ ⟨rfl,rfl,rfl,rfl,trivial⟩ (fun _ s => s.pick [] [] Z Z) ⟨by omega,take_eq_succ hk hkm hal heq⟩ (by omega)
 try simp only [df] at h18
 have heq : l = m := by
  have e : k = l.length := by omega
  have e2 : k = m.length := by omega
  have h1 := hal
  rw [e,List.take_length,hlen,List.take_length] at h1
  exact h1
 refine .ex<|.tE<|.tE<|.bE<|.tN<|.sr<|.a Z Z<|.nt<|.rt<|?_
 refine Sx.ret1 (.inl rfl) rfl (.tmp rfl) fun W s => ⟨retB ?_,s.ext⟩
 first
  | (rw [eqP_iff];exact ⟨fun h => (by cases h),fun h => absurd h hne⟩)
  | (rw [eqP_iff];exact ⟨fun _ => heq,fun _ => rfl⟩)
set_option maxRecDepth 100000 in
theorem equalExpr_any (H : Hp) (a : Ex) : ∀ b,EqAt 10 (dEx .u8) H a b := by
 induction a using Ex.ind with | _ op nm n args ih
 intro b ca cb w ha hb hA
 obtain ⟨op2,nm2,n2,args2⟩ := b
 obtain ⟨p,c,rfl,hs,hnm⟩ := ex_open ha
 obtain ⟨p2,c2,rfl,hs2,hnm2⟩ := ex_open hb
 refine Sx.enter (H := H) Tryd.func10 rfl Tryd.ntmps10 rfl hA ?_
 refine .sr<|.bx Z Z Z fun b2 => .bx Z Z Z fun b3 => .a Z Z<|.ns<|.yv (.fieldAddr Z Fx.field31_0) Z<|.yv (.load Z Fx.agg28 (.tail _<|.head _) Z) Z<|.yv (.fieldAddr Z Fx.field31_0) Z<|.yv (.load Z Fx.agg28 (.head _) Z) Z<|.yv (.eql Z Z) Z<|.m Z Z<|.b2 (fun h10 => ?_) (fun h10 => ?_)
 ·try simp only [dt] at h10
  have e1 : op = op2 := UInt8.toNat_inj.1 (by omega)
  refine .gd Z Z<|.yv (.fieldAddr Z Fx.field31_1) Z<|.gd Z Z<|.yv (.load Z Fx.agg9 (.tail _<|.head _) Z) Z<|.gd Z Z<|.yv (.fieldAddr Z Fx.field31_1) Z<|.gd Z Z<|.yv (.load Z Fx.agg9 (.head _) Z) Z<|.gd Z Z<|.yv (.eqS Z Z) Z<|.yv (.pickT Z Z) Z<|.m Z Z<|.b2 (fun h17 => ?_) (fun h17 => ?_)
  ·try simp only [dt] at h17
   have e2 : nm = nm2 := h17
   refine .gd Z Z<|.yv (.fieldAddr Z Fx.field31_2) Z<|.gd Z Z<|.yv (.load Z Fx.agg2 (.tail _<|.head _) Z) Z<|.gd Z Z<|.yv (.fieldAddr Z Fx.field31_2) Z<|.gd Z Z<|.yv (.load Z Fx.agg2 (.head _) Z) Z<|.gd Z Z<|.yv (.eql Z Z) Z<|.yv (.pickT Z Z) Z<|.m Z Z<|.b2 (fun h24 => ?_) (fun h24 => ?_)
   ·try simp only [dt] at h24
    have e3 : n = n2 := Int64.toInt_inj.1 h24
    refine .gd Z Z<|.yv (.fieldAddr Z Fx.field31_3) Z<|.gd Z Z<|.yv (.load Z Fx.agg29 (.tail _<|.head _) Z) Z<|.gd Z Z<|.yv (.fieldAddr Z Fx.field31_3) Z<|.gd Z Z<|.yv (.load Z Fx.agg29 (.head _) Z) Z<|.gd Z Z<|.yv (.call Fx.call21 Z (fun W s => eqFuncE H 10 Fx.call10 args args2 ih _ _ hs hs2 W s.agr)) Z<|.yv (.pickT Z Z) Z<|.a Z Z<|.nt<|.rt<|?_
    refine Sx.ret1 (.inl rfl) rfl (.tmp rfl) fun W s => ⟨retB ?_,s.ext⟩
    first
     | (rw [eqP_iff,eqP_iff,Ex.mk.injEq];exact ⟨fun d => ⟨e1,e2,e3,d⟩,fun h => h.2.2.2⟩)
     | (rw [eqP_iff,Ex.mk.injEq];exact ⟨fun h => (by cases h),fun h => absurd h.1 e1⟩)
     | (rw [eqP_iff,Ex.mk.injEq];exact ⟨fun h => (by cases h),fun h => absurd h.2.1 e2⟩)
     | (rw [eqP_iff,Ex.mk.injEq];exact ⟨fun h => (by cases h),fun h => absurd h.2.2.1 e3⟩)
   try simp only [df] at h24
   have e3 : ¬ n = n2 := fun e => h24 (by rw [e])
   refine .gF Z Z Z Z<|.gF Z Z Z Z<|.gF Z Z Z Z<|.gF Z Z Z Z<|.gF Z Z Z Z<|.yv (.pickF Z Z) Z<|.a Z Z<|.nt<|.rt<|?_
   refine Sx.ret1 (.inl rfl) rfl (.tmp rfl) fun W s => ⟨retB ?_,s.ext⟩
   first
    | (rw [eqP_iff,eqP_iff,Ex.mk.injEq];exact ⟨fun d => ⟨e1,e2,e3,d⟩,fun h => h.2.2.2⟩)
    | (rw [eqP_iff,Ex.mk.injEq];exact ⟨fun h => (by cases h),fun h => absurd h.1 e1⟩)
    | (rw [eqP_iff,Ex.mk.injEq];exact ⟨fun h => (by cases h),fun h => absurd h.2.1 e2⟩)
    | (rw [eqP_iff,Ex.mk.injEq];exact ⟨fun h => (by cases h),fun h => absurd h.2.2.1 e3⟩)
  try simp only [df] at h17
  have e2 : ¬ nm = nm2 := h17
  refine .gF Z Z Z Z<|.gF Z Z Z Z<|.gF Z Z Z Z<|.gF Z Z Z Z<|.gF Z Z Z Z<|.yv (.pickF Z Z) Z<|.m Z Z<|.gF Z Z Z Z<|.gF Z Z Z Z<|.gF Z Z Z Z<|.gF Z Z Z Z<|.gF Z Z Z Z<|.yv (.pickF Z Z) Z<|.a Z Z<|.nt<|.rt<|?_
  refine Sx.ret1 (.inl rfl) rfl (.tmp rfl) fun W s => ⟨retB ?_,s.ext⟩
  first
   | (rw [eqP_iff,eqP_iff,Ex.mk.injEq];exact ⟨fun d => ⟨e1,e2,e3,d⟩,fun h => h.2.2.2⟩)
   | (rw [eqP_iff,Ex.mk.injEq];exact ⟨fun h => (by cases h),fun h => absurd h.1 e1⟩)
   | (rw [eqP_iff,Ex.mk.injEq];exact ⟨fun h => (by cases h),fun h => absurd h.2.1 e2⟩)
   | (rw [eqP_iff,Ex.mk.injEq];exact ⟨fun h => (by cases h),fun h => absurd h.2.2.1 e3⟩)
 try simp only [df] at h10
 have e1 : ¬ op = op2 := fun e => h10 (by rw [e])
 refine .gF Z Z Z Z<|.gF Z Z Z Z<|.gF Z Z Z Z<|.gF Z Z Z Z<|.gF Z Z Z Z<|.yv (.pickF Z Z) Z<|.m Z Z<|.gF Z Z Z Z<|.gF Z Z Z Z<|.gF Z Z Z Z<|.gF Z Z Z Z<|.gF Z Z Z Z<|.yv (.pickF Z Z) Z<|.m Z Z<|.gF Z Z Z Z<|.gF Z Z Z Z<|.gF Z Z Z Z<|.gF Z Z Z Z<|.gF Z Z Z Z<|.yv (.pickF Z Z) Z<|.a Z Z<|.nt<|.rt<|?_
 refine Sx.ret1 (.inl rfl) rfl (.tmp rfl) fun W s => ⟨retB ?_,s.ext⟩
 first
  | (rw [eqP_iff,eqP_iff,Ex.mk.injEq];exact ⟨fun d => ⟨e1,e2,e3,d⟩,fun h => h.2.2.2⟩)
  | (rw [eqP_iff,Ex.mk.injEq];exact ⟨fun h => (by cases h),fun h => absurd h.1 e1⟩)
  | (rw [eqP_iff,Ex.mk.injEq];exact ⟨fun h => (by cases h),fun h => absurd h.2.1 e2⟩)
  | (rw [eqP_iff,Ex.mk.injEq];exact ⟨fun h => (by cases h),fun h => absurd h.2.2.1 e3⟩)
theorem Fx.call6 : callN Tryd.prog 6 = Bool.true := by kernel_rfl
theorem exprP_okG (H : Hp) (G : Gl H) (t : Str) (x : Ex) (ht : t.length ≤ 20000) (hx : gX 0 (lexR t) = .ok x []) (hc : checkE x = 0) (W : World) (hA : Agr H W) :
 Calls Tryd.prog 8 #[strV t] W fun e W' => ∃ (c : List Value) (H' : Hp),Rep H' (dEx .u8 x) c ∧ e = .returned (.tuple #[.agg c.toArray,.int .i64 0,.int .i64 0]) ∧ Grow H W H' W' :=
 (exprP_ok G ht hx hc (St.start hA)).mono fun e W' ⟨z,⟨u,r⟩,he,s⟩ => ⟨z.1,z.2,r,he,u.grow s⟩
theorem eqx_same (H : Hp) (a : Ex) (ca cb : List Value) (w : World) (ha : Rep H (dEx .u8 a) ca) (hb : Rep H (dEx .u8 a) cb) (hA : Agr H w) : Calls Tryd.prog 10 #[.agg ca.toArray,.agg cb.toArray] w fun r w' => r = .returned (.bool true) ∧ Ext w w' :=
 (equalExpr_any H a a ca cb w ha hb hA).mono fun e W' ⟨h1,h2⟩ => ⟨by rw [h1,eqP_iff.2 rfl],h2⟩
end Go.Proofs.YthhoebdlfjffkaaDoor
namespace Go.Proofs.YthhoebdlfjffkaaDoor
def parP (ks : List Kt) : List Kt := (4,[40]) :: (ks ++ [(4,[41])])
def RdK (ks : List Kt) (e : Ex) : Prop := ∀ le r,le.map kt = ks → Stp 0 r → pX 0 (le ++ r) = .ok e r
def Rd5 (ks : List Kt) (e : Ex) : Prop := ∀ le r,le.map kt = ks → isT [91] r = false → pX 5 (le ++ r) = .ok e r
theorem up0 {l r : List Tk} {a : Ex} {j : Nat} (hj : j ≤ 5) (h : pX j l = .ok a r) {lv : Nat} (hl : lv ≤ j) (hs : Stp lv r) : pX lv l = .ok a r := by
 by_cases e : lv = j
 ·rw [e];exact h
 ·rw [pX_up (j - lv - 1) lv j (by omega) hj h (hs.up (by omega)),pL_none (hs.1 _ (Nat.le_refl _) (by omega))]
theorem Rd5.low {ks : List Kt} {e : Ex} (h : Rd5 ks e) : RdK ks e := fun le r hk hs => up0 (Nat.le_refl 5) (h le r hk hs.2) (by omega) hs
theorem RdK.par {ks : List Kt} {e : Ex} (h : RdK ks e) {le r : List Tk} (hk : le.map kt = parP ks) : pX 5 (le ++ r) = .ok e r := by
 unfold parP at hk
 obtain ⟨t,l1,rfl,ht,hk⟩ := List.map_eq_cons_iff.1 hk
 obtain ⟨l2,l3,rfl,h2,h3⟩ := List.map_eq_append_iff.1 hk
 obtain ⟨t2,l4,rfl,ht2,h4⟩ := List.map_eq_cons_iff.1 h3
 obtain rfl := List.map_eq_nil_iff.1 h4
 simp only [List.cons_append,List.append_assoc,List.nil_append]
 have hf := h l2 (t2 :: r) h2 (.of (by rw [ht2];decide) (by rw [ht2];decide))
 rw [pX_un,isT_cons,isT_cons,ht,if_neg (by decide),if_neg (by decide),primE]
 have hk0 : t.k = 4 := congrArg Prod.fst ht
 simp only [isT_cons,ht]
 rw [if_neg (by rw [hk0];decide),if_neg (by decide),if_neg (by decide),if_neg (by decide),if_neg (by decide),if_pos (by decide),hf]
 show needT [41] (t2 :: r) _ = _
 rw [needT,isT_cons,ht2,if_pos (by decide)]
 rfl
theorem RdK.par5 {ks : List Kt} {e : Ex} (h : RdK ks e) : Rd5 (parP ks) e := fun _ _ hk _ => h.par hk
def parN (ks : List Kt) : Nat → List Kt
 | 0 => ks
 | m + 1 => parP (parN ks m)
theorem RdK.parN {ks : List Kt} {e : Ex} (h : RdK ks e) : ∀ m,RdK (parN ks m) e
 | 0 => h
 | m + 1 => (RdK.parN h m).par5.low
theorem rdK_good {e : Ex} (h : Ex.all frmE e = true) : RdK (ktE e) e := fun le r hk hs => (rd_all e h).1.full hk (by omega) (by have := (rd_all e h).2;omega) hs
theorem stp_nil (j : Nat) : Stp j [] := ⟨fun i _ _ => opAt_nil i,rfl⟩
theorem RdK.lex {ks : List Kt} {e : Ex} (h : RdK ks e) {s : Str} (hs : (lexR s).map kt = ks) : gX 0 (lexR s) = .ok e [] := by
 have := h (lexR s) [] hs (stp_nil 0)
 rw [List.append_nil] at this
 exact this
end Go.Proofs.YthhoebdlfjffkaaDoor
/- Plain: expressions with all parentheses are read back: the cases beside two operands. -/
namespace Go.Proofs.YthhoebdlfjffkaaDoor
end Go.Proofs.YthhoebdlfjffkaaDoor
namespace Go.Proofs.YthhoebdlfjffkaaDoor
theorem shape_k : ∀ op ∈ ([1,2,3,4,5,6,7,8,9,10,11,12,13,14,15,16,17,18,19,20,21,22,23] : List UInt8),
 ((shapeOf op).n = 0 ∨ ((shapeOf op).n = 1 ∧ (op = 6 ∨ op = 7 ∨ ((op = 9 ∨ op = 10) ∧ (shapeOf op).nm = false)) ∧ ¬ op = 1) ∨ ((shapeOf op).n = 2 ∧ op ∈ ([11,12,13,14,15,16,17,18,19,20,21,22,23] : List UInt8) ∧ (shapeOf op).nm = false ∧ ¬ op = 1)) := by decide
end Go.Proofs.YthhoebdlfjffkaaDoor
/- Plain: the text of an expression with all parentheses has its tokens. -/
namespace Go.Proofs.YthhoebdlfjffkaaDoor
end Go.Proofs.YthhoebdlfjffkaaDoor
namespace Go.Proofs.YthhoebdlfjffkaaDoor
def parT (s : Str) : Nat → Str
 | 0 => s
 | m + 1 => 40 :: (parT s m ++ [41])
theorem lx_parT {e : Ex} (h : LxE e) : ∀ (m : Nat) (r : Str) (ks : List Kt),sepB r → Lx r ks → Lx (parT e.text m ++ r) (parN (ktE e) m ++ ks) ∧ hdB (parT e.text m ++ r)
 | 0,r,ks,hs,hk => h r ks hs hk
 | m + 1,r,ks,hs,hk => by
  obtain ⟨k1,k2⟩ := lx_parT h m (41 :: r) ((4,[41]) :: ks) cl_sep (.sy (by decide) hs.hd hk)
  have e1 : parT e.text (m + 1) ++ r = 40 :: (parT e.text m ++ 41 :: r) := by simp [parT]
  have e2 : parN (ktE e) (m + 1) ++ ks = (4,[40]) :: (parN (ktE e) m ++ (4,[41]) :: ks) := by simp [parN,parP]
  rw [e1,e2]
  exact ⟨.sy (by decide) k2 k1,hdB_cons (by decide)⟩
theorem prints_read {e : Ex} (h : Ex.all frmE e = true) (hq : Ex.all namE e = true) (m : Nat) : gX 0 (lexR (parT e.text m)) = .ok e [] := by
 obtain ⟨k,_⟩ := lx_parT (lx_all e h hq) m [] [] sepB_nil .nil
 rw [List.append_nil,List.append_nil] at k
 exact ((rdK_good h).parN m).lex k.lex
end Go.Proofs.YthhoebdlfjffkaaDoor
namespace Go.Proofs.YthhoebdlfjffkaaDoor
open Go.RowKit Go.Par Go.Sx
structure Nf where
 op : UInt8
 nm : UInt8
 a : UInt8
 b : UInt8
 n : UInt32
def cNf (x : Nf) : List Value := [.int .u8 x.op.toNat,.int .u8 x.nm.toNat,.int .u8 x.a.toNat,.int .u8 x.b.toNat,.int .u32 x.n.toNat]
def dNf (x : Nf) : D := .str [.val (.int .u8 x.op.toNat),.val (.int .u8 x.nm.toNat),.val (.int .u8 x.a.toNat),.val (.int .u8 x.b.toNat),.val (.int .u32 x.n.toNat)]
theorem nf_open {H : Hp} {x : Nf} {cs : List Value} (h : Rep H (dNf x) cs) : cs = cNf x := by
 rw [dNf,repS] at h
 obtain ⟨_,rfl,_,_,h⟩ := repL_val.1 h
 obtain ⟨_,rfl,_,_,h⟩ := repL_val.1 h
 obtain ⟨_,rfl,_,_,h⟩ := repL_val.1 h
 obtain ⟨_,rfl,_,_,h⟩ := repL_val.1 h
 obtain ⟨_,rfl,_,_,h⟩ := repL_val.1 h
 rw [repL_nil] at h
 subst h
 rfl
theorem has_u32 {n : Int} (h : (Lit.int .u32 n).wf = true) : ∃ x : UInt32,n = x.toNat := by
 have e1 : IntKind.u32.min = 0 := rfl
 have e2 : IntKind.u32.max = 4294967295 := rfl
 simp only [Lit.wf,e1,e2,Bool.and_eq_true,decide_eq_true_eq] at h
 exact ⟨UInt32.ofNat n.toNat,by simp [UInt32.toNat_ofNat'];omega⟩
def nmsF : List Str := [[97],[98],[116],[120,49]]
def nmF (c : UInt8) : Str := nmsF.getD (c.toNat % 4) []
def opF7 (f : Nat) (o : UInt8) : Nat := if f = 0 ∧ (1 + o.toNat % 23 = 6 ∨ 1 + o.toNat % 23 = 7 ∨ 8 < 1 + o.toNat % 23) then 5 else 1 + o.toNat % 23
def nodeT (op : Nat) (x : Nf) (ra rb : Ex) : Ex :=
 if op = 1 then .mk 1 [] (Int64.ofNat x.n.toNat) []
 else if op ≤ 4 then .mk (UInt8.ofNat op) [] 0 []
 else if op = 5 ∨ op = 8 then .mk (UInt8.ofNat op) (nmF x.nm) 0 []
 else if op ≤ 7 then .mk (UInt8.ofNat op) (nmF x.nm) 0 [ra]
 else if op ≤ 10 then .mk (UInt8.ofNat op) [] 0 [ra]
 else .mk (UInt8.ofNat op) [] 0 [ra,rb]
def kidN (k : Nat) (v : UInt8) : Nat := if 0 < k then v.toNat % k + 1 else 0
def treeT (l : List Nf) : Nat → Nat → Ex
 | _,0 => .mk 4 [] 0 []
 | 0,k + 1 => match l[k]? with | none => .mk 4 [] 0 [] | some x => nodeT (opF7 0 x.op) x (.mk 4 [] 0 []) (.mk 4 [] 0 [])
 | f + 1,k + 1 => match l[k]? with | none => .mk 4 [] 0 [] | some x => nodeT (opF7 (f + 1) x.op) x (treeT l f (kidN k x.a)) (treeT l f (kidN k x.b))
theorem opF7_rng (f : Nat) (o : UInt8) : 1 ≤ opF7 f o ∧ opF7 f o ≤ 23 := by unfold opF7;split <;> omega
theorem opF7_low {o : UInt8} : opF7 0 o ≤ 5 ∨ opF7 0 o = 8 := by unfold opF7;split <;> omega
theorem nmF_len (c : UInt8) : (nmF c).length ≤ 2 := by
 have key : ∀ i ∈ List.range 4,(nmsF.getD i []).length ≤ 2 := by decide
 exact key _ (List.mem_range.2 (by omega))
theorem node_leaf {D op : Nat} {x : Nf} {ra rb : Ex} (h1 : 1 ≤ op) (h : op ≤ 5 ∨ op = 8) : wfE (D + 1) (nodeT op x ra rb) := by
 unfold nodeT
 split
 ·refine wfE0 ?_ (by show (!(shapeOf 1).nm || nameB []) = true;decide)
  have hn : (Int64.ofNat x.n.toNat).toInt = (x.n.toNat : Int) := Int64.toInt_ofNat_of_lt (by have := x.n.toNat_lt;omega)
  unfold frmE
  simp only [if_true,hn]
  have : decide (0 ≤ (x.n.toNat : Int)) = true := decide_eq_true (by omega)
  rw [this]
  decide
 split
 ·have key : ∀ i ∈ List.range 5,2 ≤ i → frmE (.mk (UInt8.ofNat i) [] 0 []) = true ∧ namE (.mk (UInt8.ofNat i) [] 0 []) = true := by decide +kernel
  obtain ⟨k1,k2⟩ := key op (List.mem_range.2 (by omega)) (by omega)
  exact wfE0 k1 k2
 split
 ·rename_i h3
  have key : ∀ i ∈ List.range 4,(frmE (.mk 5 (nmsF.getD i []) 0 []) = true ∧ namE (.mk 5 (nmsF.getD i []) 0 []) = true) ∧ frmE (.mk 8 (nmsF.getD i []) 0 []) = true ∧ namE (.mk 8 (nmsF.getD i []) 0 []) = true := by decide +kernel
  obtain ⟨⟨k1,k2⟩,k3,k4⟩ := key (x.nm.toNat % 4) (List.mem_range.2 (by omega))
  rcases h3 with rfl | rfl
  ·exact wfE0 k1 k2
  ·exact wfE0 k3 k4
 ·omega
theorem node_wf {D op : Nat} {x : Nf} {ra rb : Ex} (h1 : 1 ≤ op) (h2 : op ≤ 23) (ha : wfE (D + 1) ra) (hb : wfE (D + 1) rb) : wfE (D + 2) (nodeT op x ra rb) := by
 by_cases h : op ≤ 5 ∨ op = 8
 ·exact node_leaf h1 h
 ·unfold nodeT
  rw [if_neg (by omega),if_neg (by omega),if_neg (by omega)]
  split
  ·have key : ∀ i ∈ List.range 4,(frmE (.mk 6 (nmsF.getD i []) 0 [e0]) = true ∧ namE (.mk 6 (nmsF.getD i []) 0 []) = true) ∧ frmE (.mk 7 (nmsF.getD i []) 0 [e0]) = true ∧ namE (.mk 7 (nmsF.getD i []) 0 []) = true := by decide +kernel
   obtain ⟨⟨k1,k2⟩,k3,k4⟩ := key (x.nm.toNat % 4) (List.mem_range.2 (by omega))
   obtain rfl | rfl : op = 6 ∨ op = 7 := by omega
   ·exact wfE1 k1 k2 ha
   ·exact wfE1 k3 k4 ha
  split
  ·obtain rfl | rfl : op = 9 ∨ op = 10 := by omega
   ·exact wfE1 (by decide) (by decide) ha
   ·exact wfE1 (by decide) (by decide) ha
  ·have key : ∀ i ∈ List.range 24,11 ≤ i → frmE (.mk (UInt8.ofNat i) [] 0 [e0,e0]) = true ∧ namE (.mk (UInt8.ofNat i) [] 0 []) = true := by decide +kernel
   obtain ⟨k1,k2⟩ := key op (List.mem_range.2 (by omega)) (by omega)
   exact wfE2 k1 k2 ha hb
theorem treeT_wf (l : List Nf) : ∀ f k,wfE (f + 1) (treeT l f k)
 | 0,0 => wfE0 (by decide) (by decide)
 | f + 1,0 => wfE0 (by decide) (by decide)
 | 0,k + 1 => by
  unfold treeT
  split
  ·exact wfE0 (by decide) (by decide)
  ·exact node_leaf (opF7_rng _ _).1 opF7_low
 | f + 1,k + 1 => by
  unfold treeT
  split
  ·exact wfE0 (by decide) (by decide)
  ·exact node_wf (opF7_rng _ _).1 (opF7_rng _ _).2 (treeT_wf l f _) (treeT_wf l f _)
theorem wf_check {e : Ex} (h : wfE 8 e) : checkE e = 0 := by
 unfold checkE
 rw [if_neg (by have := h.1;omega),if_neg (by rw [h.2.2];decide),if_neg (by rw [h.2.1];decide)]
theorem frm_narrow (e : Ex) : Ex.all frmE e = true → Ex.all narrow e = true := by
 induction e using Ex.ind with
 | _ op nm n args ih =>
  intro h
  rw [all_mk,Bool.and_eq_true] at h ⊢
  obtain ⟨hf,hr⟩ := h
  refine ⟨?_,?_⟩
  ·simp only [frmE,Bool.and_eq_true,decide_eq_true_eq] at hf
   rw [narrow_mk,decide_eq_true_eq]
   have := shape_k op (ok_cases hf.1.1.1)
   omega
  ·have key : ∀ (l : List Ex),(∀ a ∈ l,Ex.all frmE a = true → Ex.all narrow a = true) → Ex.alls frmE l = true → Ex.alls narrow l = true := by
    intro l
    induction l with
    | nil => intro _ _;rfl
    | cons a l ih2 =>
     intro k h
     unfold Ex.alls at h ⊢
     rw [Bool.and_eq_true] at h ⊢
     exact ⟨k a (by simp) h.1,ih2 (fun b hb => k b (by simp [hb])) h.2⟩
   exact key args (fun a ha => ih a ha) hr
theorem Fx.agg5 : aggN Tryd.prog 5 = Option.some Option.none := by kernel_rfl
theorem Fx.agg65 : aggN Tryd.prog 65 = Option.some Option.none := by kernel_rfl
theorem Fx.agg67 : aggN Tryd.prog 67 = Option.some (Option.some 5) := by kernel_rfl
theorem Fx.call16 : callN Tryd.prog 16 = Bool.true := by kernel_rfl
theorem Fx.field67_0 : fieldN Tryd.prog 67 0 = Option.some 0 := by kernel_rfl
theorem Fx.field67_1 : fieldN Tryd.prog 67 1 = Option.some 1 := by kernel_rfl
theorem Fx.field67_2 : fieldN Tryd.prog 67 2 = Option.some 2 := by kernel_rfl
theorem Fx.field67_3 : fieldN Tryd.prog 67 3 = Option.some 3 := by kernel_rfl
theorem Fx.field67_4 : fieldN Tryd.prog 67 4 = Option.some 4 := by kernel_rfl
theorem Fx.int65 : intN Tryd.prog 65 = Option.some Go.IntKind.u32 := by kernel_rfl
theorem Fx.size67 : sizeN Tryd.prog 67 = Option.some 5 := by kernel_rfl
theorem Fx.sl22 : slN Tryd.prog 22 = Option.some 5 := by kernel_rfl
theorem Fx.zero67 : zeroN Tryd.prog 67 = Option.some
 [Go.Value.int Go.IntKind.u8 (Int.ofNat 0),Go.Value.int Go.IntKind.u8 (Int.ofNat 0),
  Go.Value.int Go.IntKind.u8 (Int.ofNat 0),Go.Value.int Go.IntKind.u8 (Int.ofNat 0),
  Go.Value.int Go.IntKind.u32 (Int.ofNat 0)] := by kernel_rfl
theorem Fx.bld26_0 (x0 : Int) : buildN Tryd.prog 26 [(0,.int .i64 x0)] = some [.int .i64 x0,.string ⟨#[]⟩,.int .i64 0,.slice none 0 0] := by kernel_rfl
theorem Fx.bld26_0_1 (x0 : Int) (x1 : ByteArray) : buildN Tryd.prog 26 [(0,.int .i64 x0),(1,.string x1)] = some [.int .i64 x0,.string x1,.int .i64 0,.slice none 0 0] := by kernel_rfl
theorem Fx.bld26_0_1_3 (x0 : Int) (x1 : ByteArray) (x3p : Option Addr) (x3n x3c : Nat) : buildN Tryd.prog 26 [(0,.int .i64 x0),(1,.string x1),(3,.slice x3p x3n x3c)] = some [.int .i64 x0,.string x1,.int .i64 0,.slice x3p x3n x3c] := by kernel_rfl
theorem Fx.bld26_0_2 (x0 : Int) (x2 : Int) : buildN Tryd.prog 26 [(0,.int .i64 x0),(2,.int .i64 x2)] = some [.int .i64 x0,.string ⟨#[]⟩,.int .i64 x2,.slice none 0 0] := by kernel_rfl
theorem Fx.bld26_0_3 (x0 : Int) (x3p : Option Addr) (x3n x3c : Nat) : buildN Tryd.prog 26 [(0,.int .i64 x0),(3,.slice x3p x3n x3c)] = some [.int .i64 x0,.string ⟨#[]⟩,.int .i64 0,.slice x3p x3n x3c] := by kernel_rfl
theorem Fx.bsl24_1 (x00 x01 x02 x03 : Value) : bslN Tryd.prog 24 1 [(0,.agg [x00,x01,x02,x03].toArray)] = some (26,[x00,x01,x02,x03]) := by kernel_rfl
theorem Fx.bsl24_2 (x00 x01 x02 x03 : Value) (x10 x11 x12 x13 : Value) : bslN Tryd.prog 24 2 [(0,.agg [x00,x01,x02,x03].toArray),(1,.agg [x10,x11,x12,x13].toArray)] = some (26,[x00,x01,x02,x03,x10,x11,x12,x13]) := by kernel_rfl
theorem Fx.bsl39_4 (x0 : ByteArray) (x1 : ByteArray) (x2 : ByteArray) (x3 : ByteArray) : bslN Tryd.prog 39 4 [(0,.string x0),(1,.string x1),(2,.string x2),(3,.string x3)] = some (9,[.string x0,.string x1,.string x2,.string x3]) := by kernel_rfl
def kzI : Nat → Int
 | 0 => -1
 | k + 1 => (k : Nat)
theorem tree_zero (l : List Nf) (f : Nat) : treeT l f 0 = .mk 4 [] 0 [] := by cases f <;> rfl
def kidT (l : List Nf) (f k : Nat) (v : UInt8) : Ex := match f with | 0 => .mk 4 [] 0 [] | f + 1 => treeT l f (kidN k v)
theorem tree_at {l : List Nf} {f k : Nat} {x : Nf} (hx : l[k]? = some x) : treeT l f (k + 1) = nodeT (opF7 f x.op) x (kidT l f k x.a) (kidT l f k x.b) := by
 cases f with
 | zero => rw [treeT,hx];rfl
 | succ f => rw [treeT,hx];rfl
theorem kid_le {l : List Nf} {k : Nat} {v : UInt8} (hk : k < l.length) : kidN k v ≤ l.length := by
 unfold kidN
 split
 ·have := Nat.mod_lt v.toNat (show k > 0 by assumption)
  omega
 ·omega
theorem node1 {o : UInt8} {x : Nf} {ra rb : Ex} (h : o.toNat = 1) : nodeT o.toNat x ra rb = .mk o [] (Int64.ofNat x.n.toNat) [] := by
 obtain rfl : o = 1 := UInt8.toNat_inj.1 h
 rfl
theorem node2 {o : UInt8} {x : Nf} {ra rb : Ex} (h : ¬ o.toNat = 1) (h2 : o.toNat ≤ 4) : nodeT o.toNat x ra rb = .mk o [] 0 [] := by unfold nodeT;rw [if_neg h,if_pos h2,UInt8.ofNat_toNat]
theorem node3 {o : UInt8} {x : Nf} {ra rb : Ex} (h : ¬ o.toNat = 1) (h2 : ¬ o.toNat ≤ 4) (h3 : o.toNat = 5 ∨ o.toNat = 8) : nodeT o.toNat x ra rb = .mk o (nmF x.nm) 0 [] := by unfold nodeT;rw [if_neg h,if_neg h2,if_pos h3,UInt8.ofNat_toNat]
theorem node4 {o : UInt8} {x : Nf} {ra rb : Ex} (h : ¬ o.toNat = 1) (h2 : ¬ o.toNat ≤ 4) (h3 : ¬ (o.toNat = 5 ∨ o.toNat = 8)) (h4 : o.toNat ≤ 7) : nodeT o.toNat x ra rb = .mk o (nmF x.nm) 0 [ra] := by unfold nodeT;rw [if_neg h,if_neg h2,if_neg h3,if_pos h4,UInt8.ofNat_toNat]
theorem node5 {o : UInt8} {x : Nf} {ra rb : Ex} (h : ¬ o.toNat = 1) (h2 : ¬ o.toNat ≤ 4) (h3 : ¬ (o.toNat = 5 ∨ o.toNat = 8)) (h4 : ¬ o.toNat ≤ 7) (h5 : o.toNat ≤ 10) : nodeT o.toNat x ra rb = .mk o [] 0 [ra] := by unfold nodeT;rw [if_neg h,if_neg h2,if_neg h3,if_neg h4,if_pos h5,UInt8.ofNat_toNat]
theorem node6 {o : UInt8} {x : Nf} {ra rb : Ex} (h : ¬ o.toNat = 1) (h2 : ¬ o.toNat ≤ 4) (h3 : ¬ (o.toNat = 5 ∨ o.toNat = 8)) (h4 : ¬ o.toNat ≤ 7) (h5 : ¬ o.toNat ≤ 10) : nodeT o.toNat x ra rb = .mk o [] 0 [ra,rb] := by unfold nodeT;rw [if_neg h,if_neg h2,if_neg h3,if_neg h4,if_neg h5,UInt8.ofNat_toNat]
theorem tmN (a b : Nat) : Int.tmod ((a : Nat) : Int) ((b : Nat) : Int) = ((a % b : Nat) : Int) := by
 rw [Int.tmod_eq_emod_of_nonneg (by omega)]
 rfl
theorem nms_at (c : UInt8) : ([.string ⟨#[97]⟩,.string ⟨#[98]⟩,.string ⟨#[116]⟩,.string ⟨#[120,49]⟩] : List Value)[c.toNat % 4]? = some (strV (nmF c)) := by
 have h2 : c.toNat % 4 < nmsF.length := Nat.mod_lt _ (by decide)
 have e : (nmsF.map strV)[c.toNat % 4]? = some (strV (nmF c)) := by
  unfold nmF
  rw [List.getElem?_map,List.getElem?_eq_getElem h2,List.getD_eq_getElem?_getD,List.getElem?_eq_getElem h2]
  rfl
 exact e
set_option maxRecDepth 100000 in
theorem treez_any (l : List Nf) (f : Nat) (hf : f ≤ 6) (H : Hp) (v : Value) (w : World) (hA : Agr H w) :
 Calls Tryd.prog 16 #[v,.int .i64 (-1),.int .i64 (f + 1 : Nat)] w fun r w' => ∃ (y : List Value) (H' : Hp),Rep H' (dEx .i64 (treeT l f 0)) y ∧ r = .returned (.agg y.toArray) ∧ Grow H w H' w' := by
 refine Sx.enter (H := H) Tryd.func16 rfl Tryd.ntmps16 rfl hA ?_
 refine .sr<|.al Fx.zero26 Z fun b6 => .nt<|.sq<|.sr<|.m Z Z<|.yv (.lss Z Z) Z<|.nt<|.cd Z (fun h13 => ?_) (fun h13 => ?_)
 ·skip
  refine .sr<|.yv (.build Z (Fx.bld26_0 _)) Z<|.sW .head Z Z Fx.size26 (by simp [Value.oneCell',strV]) Z<|.nt<|.rt<|.tR<|?_
  refine Sx.ret1 (.inl rfl) rfl (.cell rfl Fx.agg26 (.head _) rfl) fun W s => ⟨[.int .i64 4,.string ⟨#[]⟩,.int .i64 0,.slice none 0 0],H,?_,rfl,.pure hA s.ext⟩
  rw [tree_zero]
  exact ex_shut (op := 4) (nm := []) (n := 0) (args := []) (by decide) (Rep.empty (p := none) (c := 0) (by decide))
 exact absurd (show (-1 : Int) < 0 by decide) (of_decide_eq_false h13)
set_option maxRecDepth 100000 in
theorem tree_any (l : List Nf) : ∀ (f : Nat),f ≤ 6 → ∀ (kz : Nat),kz ≤ l.length → ∀ (H : Hp) (v : Value) (w : World),Rep H (.seq 5 (l.map dNf)) [v] → Agr H w →
 Calls Tryd.prog 16 #[v,.int .i64 (kzI kz),.int .i64 (f + 1 : Nat)] w fun r w' => ∃ (y : List Value) (H' : Hp),Rep H' (dEx .i64 (treeT l f kz)) y ∧ r = .returned (.agg y.toArray) ∧ Grow H w H' w' := by
 intro f
 induction f using Nat.strongRecOn with | _ f ih
 intro hf kz hkz H v w hs hA
 match kz,hkz with
 | 0,_ => exact treez_any l f hf H v w hA
 | k + 1,hkz =>
 obtain ⟨p,c,e,_⟩ := hs.sl
 simp only [List.cons.injEq,and_true,List.length_map] at e
 subst e
 have hcap := hs.cap
 have hk : k < l.length := hkz
 obtain ⟨bE,oE,cE,hpE,rE,lE,mE⟩ := hs.elem (map_at (f := dNf) hk)
 cases hpE
 obtain ⟨x,hxk⟩ : ∃ x,x = l[k] := ⟨_,rfl⟩
 rw [← hxk] at rE
 have hx : l[k]? = some x := by rw [hxk];exact List.getElem?_eq_getElem hk
 obtain rfl := nf_open rE
 have hn32 : (Int64.ofNat x.n.toNat).toInt = (x.n.toNat : Int) := Int64.toInt_ofNat_of_lt (by have := x.n.toNat_lt;omega)
 have hnlt := x.n.toNat_lt
 have halt := x.a.toNat_lt
 have hblt := x.b.toNat_lt
 have holt := x.op.toNat_lt
 show Calls Tryd.prog 16 #[_,.int .i64 (k : Nat),_] w _
 refine Sx.enter (H := H) Tryd.func16 rfl Tryd.ntmps16 rfl hA ?_
 refine .sr<|.al Fx.zero26 Z fun b6 => .nt<|.sq<|.sr<|.m Z Z<|.yv (.lss Z Z) Z<|.nt<|.cd Z (fun h13 => ?_) (fun h13 => ?_)
 ·exact absurd (of_decide_eq_true h13) (by omega)
 skip
 refine .sk<|.tN<|.sr<|.m Z Z<|.m Z Z<|.yv (.indexSl Fx.sl22 Z Z (i := k) Z hk (q := oE + k * 5) Z) Z<|.yv (.loadMW Z Fx.agg67 mE Z) Z<|.al Fx.zero67 Z fun b7 => .sW .head Z Z Fx.size67 (by simp [Value.oneCell',strV,cNf]) Z<|.ns<|.bl Z (Fx.bsl39_4 _ _ _ _) Z fun b19 => ?_
 refine Sx.freezeBox fun H1 u1 m1 => ?_
 refine .yv (.fieldAddr Z Fx.field67_1) Z<|.yv (.load Z Fx.agg5 (.head _) Z) Z<|.yv (.rem Z Z (by decide) (c := ((x.nm.toNat % 4 : Nat) : Int)) (by rw [Int.tmod_eq_emod_of_nonneg (by omega)];omega)) Z<|.yv (.indexSl Fx.sl39 Z Z (i := x.nm.toNat % 4) Z (by omega) (q := x.nm.toNat % 4) (by omega)) Z<|.yv (.loadM Z Fx.agg9 m1 (k := x.nm.toNat % 4) (by omega) (nms_at x.nm)) Z<|.a Z Z<|.ns<|.yv (.fieldAddr Z Fx.field67_0) Z<|.yv (.load Z Fx.agg5 (.head _) Z) Z<|.yv (.conv Z Fx.int5 Fx.int3 (c := ((x.op.toNat : Nat) : Int)) (w6 (by omega))) Z<|.yv (.rem Z Z (by decide) (c := ((x.op.toNat % 23 : Nat) : Int)) (by rw [Int.tmod_eq_emod_of_nonneg (by omega)];omega)) Z<|.yv (.add Z Z (c := ((1 + x.op.toNat % 23 : Nat) : Int)) ((w6 (by omega)).trans (by omega))) Z<|.a Z Z<|.nt<|.cu (X := Nat) [(0,_),(1,_),(2,_),(6,_),(7,_),(8,_)] ⟨rfl,rfl,rfl,rfl,rfl,rfl,trivial⟩ (fun z => [(9,.int .i64 (z : Nat))]) (fun z => H1) (fun z => [.box b7 (cNf x) 67,.box b6 [.int .i64 0,.string ⟨#[]⟩,.int .i64 0,.slice none 0 0] 26]) (fun z => z = opF7 f x.op) ?_ fun z hC => ?_
 ·
  refine .sr<|.m Z Z<|.yv (.eql Z Z) Z<|.m Z Z<|.b2 (fun h32 => ?_) (fun h32 => ?_)
  ·try simp only [dt] at h32
   refine .gd Z Z<|.yv (.move Z) Z<|.gd Z Z<|.yv (.eql Z Z) Z<|.gd Z Z<|.yv (.move Z) Z<|.b2 (fun h35 => ?_) (fun h35 => ?_)
   ·try simp only [dt] at h35
    exact .gF Z Z Z Z<|.gF Z Z Z Z<|.gd Z Z<|.yv (.pickT Z Z) Z<|.gd Z Z<|.yv (.move Z) Z<|.gF Z Z Z Z<|.gF Z Z Z Z<|.gd Z Z<|.yv (.pickT Z Z) Z<|.yv (.pickT Z Z) Z<|.nt<|.cT Z<|.rg<|.a Z Z<|.nt<|.me 5 ⟨rfl,trivial⟩ ⟨rfl,rfl,rfl,rfl,rfl,rfl,trivial⟩ (fun _ s => s) (by unfold opF7;first | rw [if_pos ⟨by omega,by omega⟩] | rw [if_neg (by omega)])
   try simp only [df] at h35
   refine .gd Z Z<|.yv (.move Z) Z<|.gd Z Z<|.yv (.eql Z Z) Z<|.gd Z Z<|.yv (.pickF Z Z) Z<|.gd Z Z<|.yv (.move Z) Z<|.b2 (fun h39 => ?_) (fun h39 => ?_)
   ·try simp only [dt] at h39
    exact .gF Z Z Z Z<|.gF Z Z Z Z<|.gd Z Z<|.yv (.pickT Z Z) Z<|.yv (.pickT Z Z) Z<|.nt<|.cT Z<|.rg<|.a Z Z<|.nt<|.me 5 ⟨rfl,trivial⟩ ⟨rfl,rfl,rfl,rfl,rfl,rfl,trivial⟩ (fun _ s => s) (by unfold opF7;first | rw [if_pos ⟨by omega,by omega⟩] | rw [if_neg (by omega)])
   try simp only [df] at h39
   refine .gd Z Z<|.yv (.move Z) Z<|.gd Z Z<|.yv (.gtr Z Z) Z<|.gd Z Z<|.yv (.pickF Z Z) Z<|.yv (.pickT Z Z) Z<|.nt<|.cd Z (fun h43 => ?_) (fun h43 => ?_)
   ·try simp only [dt] at h43
    exact .rg<|.a Z Z<|.nt<|.me 5 ⟨rfl,trivial⟩ ⟨rfl,rfl,rfl,rfl,rfl,rfl,trivial⟩ (fun _ s => s) (by unfold opF7;first | rw [if_pos ⟨by omega,by omega⟩] | rw [if_neg (by omega)])
   try simp only [df] at h43
   exact .sk<|.tN<|.me (1 + x.op.toNat % 23) ⟨rfl,trivial⟩ ⟨rfl,rfl,rfl,rfl,rfl,rfl,trivial⟩ (fun _ s => s) (by unfold opF7;first | rw [if_pos ⟨by omega,by omega⟩] | rw [if_neg (by omega)])
  try simp only [df] at h32
  exact .gF Z Z Z Z<|.gF Z Z Z Z<|.gF Z Z Z Z<|.gU Z Z Z<|.gU Z Z Z<|.gF Z Z Z Z<|.gF Z Z Z Z<|.gU Z Z Z<|.gU Z Z Z<|.gF Z Z Z Z<|.yv (.pickF Z Z) Z<|.nt<|.cF Z<|.sk<|.tN<|.me (1 + x.op.toNat % 23) ⟨rfl,trivial⟩ ⟨rfl,rfl,rfl,rfl,rfl,rfl,trivial⟩ (fun _ s => s) (by unfold opF7;first | rw [if_pos ⟨by omega,by omega⟩] | rw [if_neg (by omega)])
 have hrng := opF7_rng f x.op
 rw [← hC] at hrng
 obtain ⟨o,ho⟩ : ∃ o : UInt8,o.toNat = z := ⟨UInt8.ofNat z,by simp [UInt8.toNat_ofNat'];omega⟩
 subst ho
 have hop := hC
 refine .sr<|.a Z Z<|.a Z Z<|.nt<|.cu (X := Int × Int) [(0,_),(2,_),(6,_),(7,_),(8,_),(9,_)] ⟨rfl,rfl,rfl,rfl,rfl,rfl,trivial⟩ (fun z => [(10,.int .i64 z.1),(11,.int .i64 z.2)]) (fun z => H1) (fun z => [.box b7 (cNf x) 67,.box b6 [.int .i64 0,.string ⟨#[]⟩,.int .i64 0,.slice none 0 0] 26]) (fun z => z.1 = kzI (kidN k x.a) ∧ z.2 = kzI (kidN k x.b)) ?_ fun z hC => ?_
 ·
  refine .sr<|.m Z Z<|.yv (.gtr Z Z) Z<|.nt<|.cd Z (fun h45 => ?_) (fun h45 => ?_)
  ·try simp only [dt] at h45
   have hk0 : 0 < k := by omega
   exact .fl (trip := [(_,_,_),(_,_,_),(_,_,_),(_,_,_),(_,_,_),(_,_,_),(_,_,_),(_,_,_),(_,_,_),(_,_,_),(_,_,_)]) 11 [(0,0),(1,0),(2,0),(3,0),(4,0),(5,0),(6,0),(7,0),(8,0),(9,0),(10,0)] (by kernel_rfl) (by kernel_rfl) Z<|.yv (.fieldAddr Z Fx.field67_2) Z<|.yv (.load Z Fx.agg5 (.head _) Z) Z<|.yv (.conv Z Fx.int5 Fx.int3 (c := ((x.a.toNat : Nat) : Int)) (w6 (by omega))) Z<|.m Z Z<|.yv (.rem Z Z (by omega) (c := ((x.a.toNat % k : Nat) : Int)) (tmN _ _)) Z<|.yv (.fieldAddr Z Fx.field67_3) Z<|.yv (.load Z Fx.agg5 (.head _) Z) Z<|.yv (.conv Z Fx.int5 Fx.int3 (c := ((x.b.toNat : Nat) : Int)) (w6 (by omega))) Z<|.m Z Z<|.yv (.rem Z Z (by omega) (c := ((x.b.toNat % k : Nat) : Int)) (tmN _ _)) Z<|.a Z Z<|.fn (tl := [_]) Z<|.a Z Z<|.nt<|.me (((x.a.toNat % k : Nat) : Int),((x.b.toNat % k : Nat) : Int)) ⟨rfl,rfl,trivial⟩ ⟨rfl,rfl,rfl,rfl,rfl,rfl,trivial⟩ (fun _ s => s) ⟨by unfold kidN;rw [if_pos (by omega)];rfl,by unfold kidN;rw [if_pos (by omega)];rfl⟩
  try simp only [df] at h45
  exact .sk<|.tN<|.me (-1,-1) ⟨rfl,rfl,trivial⟩ ⟨rfl,rfl,rfl,rfl,rfl,rfl,trivial⟩ (fun _ s => s) ⟨by unfold kidN;rw [if_neg (by omega)];rfl,by unfold kidN;rw [if_neg (by omega)];rfl⟩
 obtain ⟨ka,kb⟩ := z
 obtain ⟨hka,hkb⟩ := hC
 dsimp only at hka hkb ⊢
 subst hka hkb
 refine .sq<|.bk<|.sr<|.m Z Z<|.yv (.eql Z Z) Z<|.a Z Z<|.nt<|.cd Z (fun h56 => ?_) (fun h56 => ?_)
 ·try simp only [dt] at h56
  skip
  refine .sr<|.m Z Z<|.yv (.fieldAddr Z Fx.field67_4) Z<|.yv (.load Z Fx.agg65 (.head _) Z) Z<|.yv (.conv Z Fx.int65 Fx.int2 (c := ((x.n.toNat : Nat) : Int)) (w6 (by omega))) Z<|.yv (.build Z (Fx.bld26_0_2 _ _)) Z<|.sW (.tail<|.head) Z Z Fx.size26 (by simp [Value.oneCell',strV,cNf]) Z<|.nt<|.rt<|.bR<|.tR<|?_
  refine Sx.ret1 (.inl rfl) rfl (.cell rfl Fx.agg26 (.tail _<|.head _) rfl) fun W s => ⟨[.int .i64 (o.toNat : Nat),.string ⟨#[]⟩,.int .i64 (x.n.toNat : Nat),.slice none 0 0],H1,?_,rfl,u1.grow s⟩
  rw [tree_at hx,← hop]
  rw [node1 (by omega)];have := ex_shut (H := H1) (k := .i64) (op := o) (nm := []) (n := Int64.ofNat x.n.toNat) (args := []) (by decide) (Rep.empty (p := none) (c := 0) (by decide));rw [hn32] at this;exact this
 try simp only [df] at h56
 refine .sr<|.m Z Z<|.yv (.leq Z Z) Z<|.a Z Z<|.nt<|.cd Z (fun h64 => ?_) (fun h64 => ?_)
 ·try simp only [dt] at h64
  skip
  refine .sr<|.m Z Z<|.yv (.build Z (Fx.bld26_0 _)) Z<|.sW (.tail<|.head) Z Z Fx.size26 (by simp [Value.oneCell',strV,cNf]) Z<|.nt<|.rt<|.bR<|.tR<|?_
  refine Sx.ret1 (.inl rfl) rfl (.cell rfl Fx.agg26 (.tail _<|.head _) rfl) fun W s => ⟨[.int .i64 (o.toNat : Nat),.string ⟨#[]⟩,.int .i64 0,.slice none 0 0],H1,?_,rfl,u1.grow s⟩
  rw [tree_at hx,← hop]
  rw [node2 (by omega) (by omega)];exact ex_shut (op := o) (nm := []) (n := 0) (args := []) (by decide) (Rep.empty (p := none) (c := 0) (by decide))
 try simp only [df] at h64
 refine .sr<|.m Z Z<|.yv (.eql Z Z) Z<|.m Z Z<|.b2 (fun h72 => ?_) (fun h72 => ?_)
 ·have h69p : o.toNat = 5 ∨ o.toNat = 8 := by have := of_decide_eq_true h72;omega
  refine .gF Z Z Z Z<|.gF Z Z Z Z<|.yv (.pickT Z Z) Z<|.a Z Z<|.nt<|.cT Z<|.sr<|.m Z Z<|.m Z Z<|.yv (.build Z (Fx.bld26_0_1 _ _)) Z<|.sW (.tail<|.head) Z Z Fx.size26 (by simp [Value.oneCell',strV,cNf]) Z<|.nt<|.rt<|.bR<|.tR<|?_
  refine Sx.ret1 (.inl rfl) rfl (.cell rfl Fx.agg26 (.tail _<|.head _) rfl) fun W s => ⟨[.int .i64 (o.toNat : Nat),strV (nmF x.nm),.int .i64 0,.slice none 0 0],H1,?_,rfl,u1.grow s⟩
  rw [tree_at hx,← hop]
  rw [node3 (by omega) (by omega) h69p];exact ex_shut (op := o) (nm := nmF x.nm) (n := 0) (args := []) (by have := nmF_len x.nm;omega) (Rep.empty (p := none) (c := 0) (by decide))
 skip
 refine .gd Z Z<|.yv (.move Z) Z<|.gd Z Z<|.yv (.eql Z Z) Z<|.yv (.pickF Z Z) Z<|.a Z Z<|.nt<|.cd Z (fun h69 => ?_) (fun h69 => ?_)
 ·have h69p : o.toNat = 5 ∨ o.toNat = 8 := by first | (have := of_decide_eq_true h72;omega) | (have := of_decide_eq_true h69;omega)
  refine .sr<|.m Z Z<|.m Z Z<|.yv (.build Z (Fx.bld26_0_1 _ _)) Z<|.sW (.tail<|.head) Z Z Fx.size26 (by simp [Value.oneCell',strV,cNf]) Z<|.nt<|.rt<|.bR<|.tR<|?_
  refine Sx.ret1 (.inl rfl) rfl (.cell rfl Fx.agg26 (.tail _<|.head _) rfl) fun W s => ⟨[.int .i64 (o.toNat : Nat),strV (nmF x.nm),.int .i64 0,.slice none 0 0],H1,?_,rfl,u1.grow s⟩
  rw [tree_at hx,← hop]
  rw [node3 (by omega) (by omega) h69p];exact ex_shut (op := o) (nm := nmF x.nm) (n := 0) (args := []) (by have := nmF_len x.nm;omega) (Rep.empty (p := none) (c := 0) (by decide))
 have h69n : ¬ (o.toNat = 5 ∨ o.toNat = 8) := by have := of_decide_eq_false h72;have := of_decide_eq_false h69;omega
 refine .sr<|.m Z Z<|.yv (.leq Z Z) Z<|.a Z Z<|.nt<|.cd Z (fun h79 => ?_) (fun h79 => ?_)
 ·try simp only [dt] at h79
  obtain ⟨f1,rfl⟩ : ∃ f1,f = f1 + 1 := ⟨f - 1,by have := opF7_low (o := x.op);rcases Nat.eq_zero_or_pos f with rfl | h <;> omega⟩
  refine .sr<|.m Z Z<|.m Z Z<|.m Z Z<|.m Z Z<|.m Z Z<|.yv (.sub Z Z (c := ((f1 + 1 : Nat) : Int)) ((w6 (by omega)).trans (by omega))) Z<|.ct (X := List Value) Fx.call16 Z (fun W s => ih f1 (by omega) (by omega) (kidN k x.a) (kid_le hk) H1 _ W (hs.up u1.up) s.agr) Z fun ya H2 rya uya => ?_
  obtain ⟨ya1,ya2,ya3,ya4,rfl⟩ := four (ex_len rya)
  refine .bl Z (Fx.bsl24_1 _ _ _ _) Z fun b89 => ?_
  refine Sx.freezeBox fun H3 u3 m3 => ?_
  refine .yv (.build Z (Fx.bld26_0_1_3 _ _ _ _ _)) Z<|.sW (.tail<|.head) Z Z Fx.size26 (by simp [Value.oneCell',strV,cNf]) Z<|.nt<|.rt<|.bR<|.tR<|?_
  refine Sx.ret1 (.inl rfl) rfl (.cell rfl Fx.agg26 (.tail _<|.head _) rfl) fun W s => ⟨[.int .i64 (o.toNat : Nat),strV (nmF x.nm),.int .i64 0,.slice (some ⟨b89,0,none⟩) 1 1],H3,?_,rfl,(u1.trans (uya.trans u3)).grow s⟩
  rw [tree_at hx,← hop]
  rw [node4 (by omega) (by omega) h69n (by omega)];exact ex_shut (op := o) (nm := nmF x.nm) (n := 0) (args := [_]) (by have := nmF_len x.nm;omega) (Rep.mk (n := 1) (c := 1) m3 (.single (rya.up u3.up) rfl) rfl (Nat.le_refl _) (by decide))
 try simp only [df] at h79
 refine .sr<|.m Z Z<|.yv (.leq Z Z) Z<|.a Z Z<|.nt<|.cd Z (fun h91 => ?_) (fun h91 => ?_)
 ·try simp only [dt] at h91
  obtain ⟨f1,rfl⟩ : ∃ f1,f = f1 + 1 := ⟨f - 1,by have := opF7_low (o := x.op);rcases Nat.eq_zero_or_pos f with rfl | h <;> omega⟩
  refine .sr<|.m Z Z<|.m Z Z<|.m Z Z<|.m Z Z<|.yv (.sub Z Z (c := ((f1 + 1 : Nat) : Int)) ((w6 (by omega)).trans (by omega))) Z<|.ct (X := List Value) Fx.call16 Z (fun W s => ih f1 (by omega) (by omega) (kidN k x.a) (kid_le hk) H1 _ W (hs.up u1.up) s.agr) Z fun ya H2 rya uya => ?_
  obtain ⟨ya1,ya2,ya3,ya4,rfl⟩ := four (ex_len rya)
  refine .bl Z (Fx.bsl24_1 _ _ _ _) Z fun b100 => ?_
  refine Sx.freezeBox fun H3 u3 m3 => ?_
  refine .yv (.build Z (Fx.bld26_0_3 _ _ _ _)) Z<|.sW (.tail<|.head) Z Z Fx.size26 (by simp [Value.oneCell',strV,cNf]) Z<|.nt<|.rt<|.bR<|.tR<|?_
  refine Sx.ret1 (.inl rfl) rfl (.cell rfl Fx.agg26 (.tail _<|.head _) rfl) fun W s => ⟨[.int .i64 (o.toNat : Nat),.string ⟨#[]⟩,.int .i64 0,.slice (some ⟨b100,0,none⟩) 1 1],H3,?_,rfl,(u1.trans (uya.trans u3)).grow s⟩
  rw [tree_at hx,← hop]
  rw [node5 (by omega) (by omega) h69n (by omega) (by omega)];exact ex_shut (op := o) (nm := []) (n := 0) (args := [_]) (by decide) (Rep.mk (n := 1) (c := 1) m3 (.single (rya.up u3.up) rfl) rfl (Nat.le_refl _) (by decide))
 try simp only [df] at h91
 obtain ⟨f1,rfl⟩ : ∃ f1,f = f1 + 1 := ⟨f - 1,by have := opF7_low (o := x.op);rcases Nat.eq_zero_or_pos f with rfl | h <;> omega⟩
 refine .sk<|.bN<|.tN<|.sr<|.m Z Z<|.m Z Z<|.m Z Z<|.m Z Z<|.yv (.sub Z Z (c := ((f1 + 1 : Nat) : Int)) ((w6 (by omega)).trans (by omega))) Z<|.ct (X := List Value) Fx.call16 Z (fun W s => ih f1 (by omega) (by omega) (kidN k x.a) (kid_le hk) H1 _ W (hs.up u1.up) s.agr) Z fun ya H2 rya uya => ?_
 obtain ⟨ya1,ya2,ya3,ya4,rfl⟩ := four (ex_len rya)
 refine .m Z Z<|.m Z Z<|.m Z Z<|.yv (.sub Z Z (c := ((f1 + 1 : Nat) : Int)) ((w6 (by omega)).trans (by omega))) Z<|.ct (X := List Value) Fx.call16 Z (fun W s => ih f1 (by omega) (by omega) (kidN k x.b) (kid_le hk) H2 _ W (hs.up (u1.trans uya).up) s.agr) Z fun yb H3 ryb uyb => ?_
 obtain ⟨yb1,yb2,yb3,yb4,rfl⟩ := four (ex_len ryb)
 refine .bl Z (Fx.bsl24_2 _ _ _ _ _ _ _ _) Z fun b113 => ?_
 refine Sx.freezeBox fun H4 u4 m4 => ?_
 refine .yv (.build Z (Fx.bld26_0_3 _ _ _ _)) Z<|.sW (.tail<|.head) Z Z Fx.size26 (by simp [Value.oneCell',strV,cNf]) Z<|.nt<|.rt<|?_
 refine Sx.ret1 (.inl rfl) rfl (.cell rfl Fx.agg26 (.tail _<|.head _) rfl) fun W s => ⟨[.int .i64 (o.toNat : Nat),.string ⟨#[]⟩,.int .i64 0,.slice (some ⟨b113,0,none⟩) 2 2],H4,?_,rfl,(u1.trans (uya.trans (uyb.trans u4))).grow s⟩
 rw [tree_at hx,← hop]
 rw [node6 (by omega) (by omega) h69n (by omega) (by omega)];exact ex_shut (op := o) (nm := []) (n := 0) (args := [_,_]) (by decide) (Rep.mk (n := 2) (c := 2) m4 (RepZ.app (RepZ.single (rya.up (uyb.trans u4).up) rfl) (RepZ.single (ryb.up u4.up) rfl)) rfl (Nat.le_refl _) (by decide))
set_option maxRecDepth 100000 in
theorem treeT_any (l : List Nf) (H : Hp) (v : Value) (w : World) (hs : Rep H (.seq 5 (l.map dNf)) [v]) (hA : Agr H w) :
 Calls Tryd.prog 7 #[v] w fun r w' => ∃ (y : List Value) (H' : Hp),Rep H' (dEx .i64 (treeT l 6 l.length)) y ∧ r = .returned (.agg y.toArray) ∧ Grow H w H' w' := by
 obtain ⟨p,c,e,_⟩ := hs.sl
 simp only [List.cons.injEq,and_true,List.length_map] at e
 subst e
 have hcap := hs.cap
 refine Sx.enter (H := H) Tryd.func7 rfl Tryd.ntmps7 rfl hA ?_
 refine .sr<|.al Fx.zero26 Z fun b2 => .ns<|.m Z Z<|.m Z Z<|.yv (.lenSl Fx.sl22 Z) Z<|.yv (.sub Z Z (c := kzI l.length) (by cases l <;> first | rfl | (simp only [List.length_cons,kzI];exact (w64 (by simp at hcap;omega) (by simp at hcap;omega)).trans (by omega)))) Z<|.ct (X := List Value) Fx.call16 Z (fun W s => tree_any l 6 (by decide) l.length (Nat.le_refl _) H (.slice p l.length c) W hs s.agr) Z fun ya H2 rya uya => ?_
 obtain ⟨ya1,ya2,ya3,ya4,rfl⟩ := four (ex_len rya)
 refine .sW .head Z Z Fx.size26 (Rep.one rya) Z<|.nt<|.rt<|?_
 exact Sx.ret1 (.inl rfl) rfl (.cell rfl Fx.agg26 (.head _) rfl) fun W s => ⟨_,H2,rya,rfl,uya.grow s⟩
end Go.Proofs.YthhoebdlfjffkaaDoor
namespace Go.Proofs.YthhoebdlfjffkaaDoor
open Go.RowKit Go.Par Go.Sx
end Go.Proofs.YthhoebdlfjffkaaDoor
namespace Go.Proofs.YthhoebdlfjffkaaDoor
open Go.RowKit Go.Par Go.Sx
def DgI (N m : Nat) (t : Str) : Prop := (t = [] ∧ m = N) ∨ (t ≠ [] ∧ (if m = 0 then t else Lib.decDigits m ++ t) = Lib.decDigits N ∧ m ≤ N)
theorem DgI.le {N m : Nat} {t : Str} (h : DgI N m t) : m ≤ N := by
 rcases h with h | h
 ·omega
 ·exact h.2.2
theorem DgI.len {N m : Nat} {t : Str} (h : DgI N m t) : t.length ≤ (Lib.decDigits N).length := by
 rcases h with ⟨rfl,_⟩ | ⟨_,h,_⟩
 ·simp
 ·rw [← h]
  split <;> simp
theorem Fx.call7 : callN Tryd.prog 7 = Bool.true := by kernel_rfl
end Go.Proofs.YthhoebdlfjffkaaDoor
namespace Go.Proofs.YthhoebdlfjffkaaDoor
theorem text_len2 (e : Ex) : ∀ d,e.depth ≤ d → Ex.all frmE e = true → Ex.all namE e = true → e.text.length + 16 ≤ 72 * 2 ^ d := by
 induction e using Ex.ind with
 | _ op nm n args ih =>
  intro d hd h hq
  have h0 := h
  have hq0 := hq
  rw [all_mk,Bool.and_eq_true] at h hq
  obtain ⟨hf,hr⟩ := h
  obtain ⟨hg,hq⟩ := hq
  simp only [frmE,Bool.and_eq_true,Bool.or_eq_true,decide_eq_true_eq] at hf
  simp only [namE,Bool.or_eq_true,Bool.not_eq_true'] at hg
  obtain ⟨⟨⟨hop,hl⟩,hnm⟩,hn⟩ := hf
  have hnl : nm.length ≤ 12 := by
   rcases hnm with e | e
   ·have := hg.resolve_left (by rw [e];decide)
    exact (nameB_facts this).2.2.2.2
   ·rw [e];simp
  obtain ⟨d,rfl⟩ : ∃ e,d = e + 1 := ⟨d - 1,by rw [depth_mk] at hd;omega⟩
  have hp : 1 ≤ 2 ^ d := Nat.one_le_two_pow
  have ht := shape_tx op
  rcases shape_k op (ok_cases hop) with h1 | ⟨h1,h2,h3⟩ | ⟨h1,h2,h3,h4⟩
  ·obtain rfl := args0 (l := args) (by omega)
   have := text_len (.mk op nm n []) 1 (by rw [depth_mk];simp [Ex.deeps]) hq0 h0
   rw [Nat.pow_succ]
   omega
  ·obtain ⟨b,rfl⟩ := args1 (l := args) (by omega)
   have hb := ih b (by simp) d (by rw [depth_mk] at hd;simp only [Ex.deeps] at hd;omega) (by simpa [Ex.alls] using hr) (by simpa [Ex.alls] using hq)
   rw [Nat.pow_succ,text_mk]
   have ho := fun k => (opT_len k ((shapeOf b.op).lv,b.text)).2
   have k1 := ho (shapeOf op).lv
   rcases h2 with rfl | rfl | ⟨rfl | rfl,_⟩ <;> simp only [txt,List.map_cons,List.map_nil,List.getD_cons_zero] <;> simp (config := { decide := true }) only [if_false,if_true,List.length_append,List.length_cons,List.length_nil] <;> simp only at k1 <;> omega
  ·obtain ⟨a,b,rfl⟩ := args2 (l := args) (by omega)
   have hr2 : Ex.all frmE a = true ∧ Ex.all frmE b = true := by simpa [Ex.alls] using hr
   have hq2 : Ex.all namE a = true ∧ Ex.all namE b = true := by simpa [Ex.alls] using hq
   have hdd : a.depth ≤ d ∧ b.depth ≤ d := by rw [depth_mk] at hd;simp only [Ex.deeps] at hd;omega
   have ha := ih a (by simp) d hdd.1 hr2.1 hq2.1
   have hb := ih b (by simp) d hdd.2 hr2.2 hq2.2
   rw [Nat.pow_succ,text_mk]
   have e : txt op nm n ([a,b].map fun e => ((shapeOf e.op).lv,Ex.text e)) = opT (lftT (shapeOf op).lv) ((shapeOf a.op).lv,a.text) ++ (shapeOf op).tx ++ opT ((shapeOf op).lv + 1) ((shapeOf b.op).lv,b.text) := by
    have key : ∀ op ∈ ([11,12,13,14,15,16,17,18,19,20,21,22,23] : List UInt8),¬ op = 1 ∧ ¬ (op = 5 ∨ op = 8) ∧ ¬ (op = 6 ∨ op = 7) ∧ ¬ (op = 9 ∨ op = 10) := by decide
    obtain ⟨k1,k2,k3,k4⟩ := key op h2
    unfold txt
    rw [if_neg k1,if_neg k2,if_neg k3,if_neg k4,if_neg (by omega)]
    rfl
   rw [e]
   have k1 := (opT_len (lftT (shapeOf op).lv) ((shapeOf a.op).lv,a.text)).2
   have k2 := (opT_len ((shapeOf op).lv + 1) ((shapeOf b.op).lv,b.text)).2
   simp only at k1 k2
   simp only [List.length_append]
   omega
theorem parT_len (s : Str) : ∀ m,(parT s m).length = s.length + 2 * m
 | 0 => rfl
 | m + 1 => by
  show (40 :: (parT s m ++ [41])).length = _
  simp only [List.length_cons,List.length_append,List.length_nil,parT_len s m]
  omega
theorem text_len7 {e : Ex} (h : wfE 7 e) : e.text.length ≤ 9200 := by
 have := text_len2 e 7 h.1 h.2.1 h.2.2
 omega
end Go.Proofs.YthhoebdlfjffkaaDoor
namespace Go.Proofs.YthhoebdlfjffkaaDoor
open Go.RowKit Go.Par Go.Sx
theorem Fx.call14 : callN Tryd.prog 14 = Bool.true := by kernel_rfl
theorem u8wr {k : Nat} (h : k < 255) : IntKind.u8.wrap ((k : Int) + 1) = ((k + 1 : Nat) : Int) := by
 have key : ∀ i ∈ List.range 256,IntKind.u8.wrap (i : Int) = (i : Int) := by decide +kernel
 exact key (k + 1) (List.mem_range.2 (by omega))
set_option maxRecDepth 100000 in
theorem parserPrints_any (H : Hp) (G : Gl H) (g : Gt H) (l : List Nf) (more : UInt8) (v : Value) (hs : Rep H (.seq 5 (l.map dNf)) [v]) (w : World) (hA : Agr H w) :
 Calls Tryd.prog 5 #[v,.int .u8 more.toNat] w fun r w' => r = .returned (.bool true) ∧ Ext w w' := by
 obtain ⟨e,he⟩ : ∃ e,e = treeT l 6 l.length := ⟨_,rfl⟩
 have hwf : wfE 7 e := by rw [he];exact treeT_wf l 6 l.length
 have hck := wf_check (hwf.mono (by decide : 7 ≤ 8))
 have htl := text_len7 hwf
 refine Sx.enter (H := H) Tryd.func5 rfl Tryd.ntmps5 rfl hA ?_
 refine .sr<|.a Z Z<|.nt<|.sq<|.sr<|.yv (.call Fx.call6 Z (fun W s => awake_any H G W s.agr)) Z<|.yv (.not Z) Z<|.nt<|.cF Z<|.sk<|.tN<|.sr<|.m Z Z<|.ct (X := List Value) Fx.call7 Z (fun W t => treeT_any l H v W hs t.agr) Z fun ya H1 rya uya => ?_
 replace rya : Rep H1 (dEx .i64 e) ya := he ▸ rya
 obtain ⟨ya1,ya2,ya3,ya4,rfl⟩ := four (ex_len rya)
 refine .ct (X := List Value) Fx.call11 Z (fun W t => expr_any e (frm_narrow e hwf.2.1) H1 _ W rya t.agr) Z fun yc H2 ryc uyc => ?_
 obtain ⟨yc1,yc2,yc3,yc4,rfl⟩ := four (ex_len ryc)
 have u2 := uya.trans uyc
 refine .al Fx.zero31 Z fun b5 => .sW .head Z Z Fx.size31 (Rep.one ryc) Z<|.ns<|.yv (.loadW Z Fx.agg31 (.head _) Z) Z<|.yv (.cast (.call Fx.call14 Z (fun W s => printExpr_any H2 (G.up u2.up) (g.up u2.up) e _ ryc (Nat.le_trans hwf.1 (by decide)) W s.agr)) (by first | (rw [if_pos hck];rfl) | rw [if_pos hck])) Z<|.a Z Z<|.nt<|.sq<|.sr<|.m Z Z<|.yv (.rem Z Z (by decide) (c := ((more.toNat % 5 : Nat) : Int)) (by rw [Int.tmod_eq_emod_of_nonneg (by omega)];omega)) Z<|.m Z Z<|.nt<|.bk<|.lp (X := Nat) [(5,_),(18,_)] ⟨rfl,rfl,trivial⟩ [_] (fun k => [(19,.int .u8 (k : Nat)),(6,strV (parT e.text k))]) (fun k => H2) (fun k => []) (fun k => k ≤ more.toNat % 5) (fun k => more.toNat % 5 - k) 0 (fun _ s => s) ⟨rfl,rfl,trivial⟩ (Nat.zero_le _) fun k hC => ?_
 have hpl := parT_len e.text k
 refine .sr<|.yv (.lss Z Z) Z<|.nt<|.sq<|.cd Z (fun h20 => ?_) (fun h20 => ?_)
 ·try simp only [dt] at h20
  exact .sk<|.tN<|.sq<|.bk<|.rg<|.m Z Z<|.yv (.app Z Z (by (try simp only [List.length_append,List.length_cons,List.length_nil]);omega)) Z<|.yv (.cast (.app Z Z (by (try simp only [List.length_append,List.length_cons,List.length_nil]);omega)) (by rfl)) Z<|.a Z Z<|.nl<|.bN<|.tN<|.rg<|.yv (.add Z Z (c := ((k + 1 : Nat) : Int)) (u8wr (by omega))) Z<|.m Z Z<|.nt<|.ag (k + 1) ⟨rfl,rfl,trivial⟩ ⟨rfl,rfl,trivial⟩ (fun _ s => (s.pick [0] _ Z Z)) (by omega) (by omega)
 try simp only [df] at h20
 obtain rfl : k = more.toNat % 5 := by omega
 refine .ex<|.tE<|.tE<|.bE<|.tN<|.sr<|.m Z Z<|.ct (X := List Value) Fx.call8 Z (fun W t => exprP_okG H2 (G.up u2.up) (parT e.text (more.toNat % 5)) e (by omega) (prints_read hwf.2.1 hwf.2.2 _) hck W t.agr) Z fun yb H3 ryb uyb => ?_
 obtain ⟨yb1,yb2,yb3,yb4,rfl⟩ := four (ex_len ryb)
 refine .m Z Z<|.yv (.extract Z Z) Z<|.yv (.extract Z Z) Z<|.yv (.extract Z Z) Z<|.al Fx.zero31 Z fun b7 => .sW .head Z Z Fx.size31 (Rep.one ryb) Z<|.a Z Z<|.a Z Z<|.ns<|.m Z Z<|.yv (.cast (.eql Z Z) (congrArg Value.bool (decide_eq_true Z))) Z<|.m Z Z<|.gd Z Z<|.yv (.move Z) Z<|.gd Z Z<|.yv (.cast (.eql Z Z) (congrArg Value.bool (decide_eq_true Z))) Z<|.yv (.pickT Z Z) Z<|.m Z Z<|.gd Z Z<|.yv (.loadW Z Fx.agg31 (.head _) Z) Z<|.gd Z Z<|.yv (.loadW Z Fx.agg31 (.tail _<|.head _) Z) Z<|.gd Z Z<|.yv (.call Fx.call10 Z (fun W s => eqx_same H3 e _ _ W ryb (ryc.up uyb.up) s.agr)) Z<|.yv (.pickT Z Z) Z<|.a Z Z<|.nt<|.rt<|?_
 exact Sx.ret1 (.inl rfl) rfl (.tmp rfl) fun W s => ⟨rfl,s.ext⟩
variable {H : Type} {enc : TypeId × Value → H}
theorem wrap {a : Assume} {C : Checked} {os : Os} {f : FuncId} {fn : Func} {s : ChangeSpec} {conds : List PathCond} {apart fresh handsOn again : Bool} {X : World → Array Value → Prop}
 (hX : ∀ (w w' : World) (args : Array Value),w.heap = w'.heap → X w args → X w' args)
 (own : ownKnob C.prog.godebug = none) (started : os.Started) (noInit : C.prog.inits.idxOf? f = none) (hfn : C.prog.funcs[f]? = some fn)
 (witness : ∃ (w : World) (tape : Tape) (i : Input),w.os = os ∧ (w.forCall tape i).Shaped C.prog ∧ i.vars = [] ∧ Input.okWide C.prog (w.forCall tape i) .any w.heap.size f i ∧
  ((s.pre enc C.prog fn conds apart (w.forCall tape i).memory i.args ∧ X (w.forCall tape i).memory i.args) ∧ sizedMet enc C.prog fn (OpenSpec.ofChange s) apart (w.forCall tape i).memory i.args) ∧ a.holds C.prog (lone (Frame.enter C.prog f i.args .normal) [] (w.forCall tape i)))
 (contract : ∀ (W : World) (base : Nat) (args : Array Value) (ds gs : List (DataW H)) (before : List MemPlace),
  (∀ (j : Nat) t v,fn.params[j]? = some t → args[j]? = some v → Value.okWide C.prog W .any base t v) →
  DataW.Whole enc C.prog fn.params.toList s.vars apart W args.toList ds gs before →
  X W args → W.ShapedOpen C.prog →
  Calls C.prog f args W fun e W' => ∃ v,e = .returned v ∧ s.post enc C.prog fn apart fresh handsOn again W args v W') :
 ReturnsInHanded a C os f .any (fun w args => (s.pre enc C.prog fn conds apart w args ∧ X w args) ∧ sizedMet enc C.prog fn (OpenSpec.ofChange s) apart w args) (s.post enc C.prog fn apart fresh handsOn again) := by
 refine returnsInHanded_of_calls own started noInit witness ?_
 intro w tape i _ hsh _ hok hpre _
 obtain ⟨_,_,_,fn',hfn',_,_,_,_,hval⟩ := hok
 have e : fn' = fn := Option.some.inj (hfn'.symm.trans hfn)
 subst e
 obtain ⟨⟨⟨ds,gs,before,hw,_⟩,hx⟩,_⟩ := hpre
 have hw' := DataW.Whole.of_heap (w' := w.forCall tape i) (by rfl) hw
 refine (contract (w.forCall tape i) w.heap.size i.args ds gs before hval hw' (hX _ _ _ (by rfl) hx) hsh).mono fun e W' ⟨v,he,hp⟩ => ?_
 subst he
 exact ChangeSpec.post_blind hp

theorem own : ownKnob Tryd.prog.godebug = none := by kernel_rfl
def laids : List (String × DataW Unit) := [("math/bits.deBruijn32tab",Rows.laid_math_bits_deBruijn32tab),("math/bits.deBruijn64tab",Rows.laid_math_bits_deBruijn64tab),("internal/strconv.uint64pow10",Rows.laid_internal_strconv_uint64pow10),("rootcause/lexer.words",Rows.laid_rootcause_lexer_words),("rootcause/lexer.symbols",Rows.laid_rootcause_lexer_symbols),("rootcause/syntax.shapes",Rows.laid_rootcause_syntax_shapes),("rootcause/syntax.forms",Rows.laid_rootcause_syntax_forms)]
theorem gTab : Tryd.prog.globalNamed "internal/strconv.uint64pow10" = some 3 := by kernel_rfl
theorem gTabT : (Tryd.prog.globals[3]?).map (·.type) = some 155 := by kernel_rfl
theorem cellsTab : Tryd.prog.cellsOf 155 = 20 := by kernel_rfl
theorem cellsTabE : Tryd.prog.cellsOf 134 = 1 := by kernel_rfl
theorem tabEq : (Rows.laid_internal_strconv_uint64pow10 : DataW Unit) = Lib.tabData .u64 Lib.pow10Tab := by kernel_rfl
theorem gt_of {W : World} (h : laidMet Tryd.prog laids W) : Gt (allH W) := by
 intro W' hA
 have h1 : Lib.TabIs Tryd.prog W "internal/strconv.uint64pow10" .u64 Lib.pow10Tab := Lib.tabIs_of_head gTab gTabT Tryd.underlying155 Tryd.underlying134 cellsTabE cellsTab (tabEq ▸ h.tail.tail)
 unfold Lib.TabIs World.var? at *
 rw [gTab] at *
 simp only [Option.bind_some] at *
 split at h1
 ·rename_i cs T m hb
  rw [hA 3 _ hb]
  exact h1
 ·cases h1
theorem gl_of {W : World} (h : laidMet Tryd.prog laids W) : Gl (allH W) :=
 ⟨laid_mem (t := 101) (.arr 24 (.str [.int .i64,.bool,.int .i64,.strg])) _ (by kernel_rfl) (by kernel_rfl) (by kernel_rfl) (by kernel_rfl) (by kernel_rfl) h.tail.tail.tail.tail.tail,
  laid_mem (t := 161) (.arr 11 (.str [.bool,.bool,.int .i64,.int .i64,.bool,.bool])) _ (by kernel_rfl) (by kernel_rfl) (by kernel_rfl) (by kernel_rfl) (by kernel_rfl) h.tail.tail.tail.tail.tail.tail,
  laid_mem (t := 153) (.arr 39 .strg) _ (by kernel_rfl) (by kernel_rfl) (by kernel_rfl) (by kernel_rfl) (by kernel_rfl) h.tail.tail.tail,
  laid_mem (t := 131) (.arr 25 .strg) _ (by kernel_rfl) (by kernel_rfl) (by kernel_rfl) (by kernel_rfl) (by kernel_rfl) h.tail.tail.tail.tail⟩
theorem laid_met (os : Os) (args : Array Value) : laidMet Tryd.prog laids ((World.laidAll Tryd.prog os laids).forCall (fun _ _ => 0) ⟨#[],args,[]⟩).memory :=
 laidMet_laidAll _ (by kernel_rfl) (by kernel_rfl)
theorem laid_shaped (os : Os) (args : Array Value) : ((World.laidAll Tryd.prog os laids).forCall (fun _ _ => 0) ⟨#[],args,[]⟩).Shaped Tryd.prog :=
 World.shaped_of_ZipB (by kernel_rfl) (by kernel_rfl)
theorem ext_kept {W W' : World} (h : Ext W W') : ∀ may,W.keptBut W' may := fun may => (Ext.below h).frame may
theorem laidOut : laidOutB Tryd.prog = true := by kernel_rfl
end Go.Proofs.YthhoebdlfjffkaaDoor
