/- Texts of the proof, one behind the other. -/
import Derived.Test.YthhoebdlfjffkaaGreatDoorMf
set_option linter.all false
set_option maxRecDepth 100000
namespace Go.Proofs.YthhoebdlfjffkaaGreatDoor
open Go.RowKit Go.Par Go.Sx
noncomputable def eqP (p:Prop):Bool:=@decide p (Classical.propDecidable p)
theorem aA {p:Prop}:eqP p=true↔p:=by unfold eqP;exact @decide_eq_true_iff p (Classical.propDecidable p)
theorem kS {p:Prop}:eqP p=false↔¬ p:=⟨fun h k=>(by rw [aA.2 k] at h;cases h),fun h=>(by cases e:eqP p with | false=>rfl | true=>exact absurd (aA.1 e) h)⟩
def xA (gf:FuncId) {α:Type} (d:α→D) (H:Hp) (a b:α):Prop:=∀ (ca cb:List Value) (w:World),Rep H (d a) ca→Rep H (d b) cb→Agr H w→Calls Tryz.prog gf #[.agg ca.toArray,.agg cb.toArray] w fun r w'=>r=.returned (.bool (eqP (a=b)))∧Ext w w'
theorem fA {α:Type} {l m:List α} {k:Nat} (h:k<l.length) (h2:k<m.length) (ht:l.take k=m.take k) (he:l[k]=m[k]):l.take (k+1)=m.take (k+1):=by rw [bL h,bL h2,ht,he]
theorem IM (H:Hp) (gf:FuncId) (hgf:aK Tryz.prog gf=true) (l m:List Ex) (hq:∀ a∈l,∀ b,xA gf (dEx .u8) H a b) (v u:Value) (hs:Rep H (.seq 4 (l.map (dEx .u8))) [v]) (ht:Rep H (.seq 4 (m.map (dEx .u8))) [u]) (w:World) (hA:Agr H w) :
 Calls Tryz.prog 28 #[v,u,.func (.func gf) #[] #[]] w fun r w'=>r=.returned (.bool (eqP (l=m)))∧Ext w w':=by
 obtain ⟨p,c,e,_⟩:=hs.sl;simp only [List.cons.injEq,and_true,List.length_map] at e;subst e;obtain ⟨p2,c2,e,_⟩:=ht.sl;simp only [List.cons.injEq,and_true,List.length_map] at e;subst e;have hcap:=hs.cap;have hcap2:=ht.cap;refine Sx.enter (H:=H) Tryz.func28 rfl Tryz.ntmps28 rfl hA ?_;refine .sr<|.a Z Z<|.nt<|.sq<|.sr<|.mv Z<|.yw (.lenSl Fx.sl25 Z)<|.mv Z<|.yw (.lenSl Fx.sl25 Z)<|.yw (.neq Z Z)<|.nt<|.cd Z (fun h14=>?_) (fun h14=>?_)
 ·try simp only [dt] at h14
  have hne:¬ l=m:=fun e=>by rw [e] at h14;exact h14 rfl
  refine .sr<|.a Z Z<|.nt<|.rt<|.tR<|?_
  refine Sx.ret1 (.inl rfl) rfl (.tmp rfl) fun W s=>⟨aZ ?_,s.ext⟩
  first
   | (rw [aA];exact ⟨fun h=>(by cases h),fun h=>absurd h hne⟩)
   | (rw [aA];exact ⟨fun _=>heq,fun _=>rfl⟩)
 try simp only [df] at h14
 have hlen:l.length=m.length:=by omega
 refine .sk<|.tN<|.sq<|.sr<|.mv Z<|.yw (.lenSl Fx.sl25 Z)<|.mv Z<|.nt<|.bk<|.lp (X:=Nat) [(1,_),(2,_),(15,_),(16,_)] ⟨rfl,rfl,rfl,rfl,trivial⟩ [] (fun k=>[(17,.int .i64 (k:Nat))]) (fun k=>H) (fun k=>[]) (fun k=>k≤l.length∧l.take k=m.take k) (fun k=>l.length - k) 0 (fun _ s=>s) ⟨rfl,trivial⟩ ⟨by omega,rfl⟩ fun k hC=>?_
 obtain ⟨hk0,hal⟩:=hC;refine .sr<|.yw (.lss Z Z)<|.nt<|.sq<|.cd Z (fun h18=>?_) (fun h18=>?_)
 ·try simp only [dt] at h18
  have hk:k<l.length:=by omega
  have hkm:k<m.length:=by omega
  obtain ⟨bE,oE,cE,hpE,rE,lE,mE⟩:=hs.elem (aR hk);cases hpE;obtain ⟨bF,oF,cF,hpF,rF,lF,mF⟩:=ht.elem (aR hkm);cases hpF;refine .sk<|.tN<|.sq<|.bk<|.sr<|.mv Z<|.yw (.indexSl Fx.sl25 Z Z Z (by omega) (q:=oE+k * 4) Z)<|.yw (.loadMW Z Fx.agg27 mE lE)<|.al Fx.zero27 Z fun b8=>.a Z Z<|.sV .head Z Z Fx.size27 lE rE.one Z<|.ns<|.mv Z<|.mv Z<|.yw (.indexSl Fx.sl25 Z Z Z (by omega) (q:=oF+k * 4) Z)<|.yw (.loadMW Z Fx.agg27 mF lF)<|.al Fx.zero27 Z fun b9=>.sV .head Z Z Fx.size27 lF rF.one Z<|.ns<|.mv Z<|.yw (.loadW Z Fx.agg27 aQ lE)<|.yw (.loadW Z Fx.agg27 (.head _) lF)<|.yw (.callV (fi:=[]) (ca:=[]) Z hgf Z (fun W s=>hq _ (List.getElem_mem hk) _ cE cF W rE rF s.agr))<|.yw (.not Z)<|.nt<|.cd Z (fun h30=>?_) (fun h30=>?_)
  ·try simp only [dt] at h30
   have hne:¬ l=m:=fun e=>by subst e;rw [aA.2 rfl] at h30;cases h30
   refine .sr<|.a Z Z<|.nt<|.rt<|.bR<|.tR<|.tR<|.bR<|.tR<|?_
   refine Sx.ret1 (.inl rfl) rfl (.tmp rfl) fun W s=>⟨aZ ?_,s.ext⟩
   first
    | (rw [aA];exact ⟨fun h=>(by cases h),fun h=>absurd h hne⟩)
    | (rw [aA];exact ⟨fun _=>heq,fun _=>rfl⟩)
  try simp only [df] at h30
  have heq:l[k]=m[k]:=aA.1 (by simpa using h30);exact .sk<|.bN<|.tN<|.rg<|.yw (.add Z Z (w6 (by omega)))<|.mv Z<|.nt<|.ag (k+1) ⟨rfl,trivial⟩ ⟨rfl,rfl,rfl,rfl,trivial⟩ (fun _ s=>s.pick [] [] Z Z) ⟨by omega,fA hk hkm hal heq⟩ (by omega)
 try simp only [df] at h18
 have heq:l=m:=by
  have e:k=l.length:=by omega
  have e2:k=m.length:=by omega
  have h1:=hal;rw [e,List.take_length,hlen,List.take_length] at h1;exact h1
 refine .ex<|.tE<|.tE<|.bE<|.tN<|.sr<|.a Z Z<|.nt<|.rt<|?_
 refine Sx.ret1 (.inl rfl) rfl (.tmp rfl) fun W s=>⟨aZ ?_,s.ext⟩
 first
  | (rw [aA];exact ⟨fun h=>(by cases h),fun h=>absurd h hne⟩)
  | (rw [aA];exact ⟨fun _=>heq,fun _=>rfl⟩)
theorem xN (H:Hp) (a:Ex):∀ b,xA 13 (dEx .u8) H a b:=by
 induction a using Ex.ind with | _ op nm n args ih
 intro b ca cb w ha hb hA;obtain ⟨op2,nm2,n2,jL⟩:=b;obtain ⟨p,c,rfl,hs,hnm⟩:=bY ha;obtain ⟨p2,c2,rfl,hs2,hnm2⟩:=bY hb;refine Sx.enter (H:=H) Tryz.func13 rfl Tryz.ntmps13 rfl hA ?_;refine .sr<|.bx Z Z Z fun b2=>.bx Z Z Z fun b3=>.a Z Z<|.ns<|.yw (.fieldAddr Z Fx.field27_0)<|.yw (.load Z Fx.agg24 aQ Z)<|.yw (.fieldAddr Z Fx.field27_0)<|.yw (.load Z Fx.agg24 (.head _) Z)<|.yw (.eql Z Z)<|.mv Z<|.b2 (fun h10=>?_) (fun h10=>?_)
 ·try simp only [dt] at h10
  have e1:op=op2:=UInt8.toNat_inj.1 (by omega);refine .gd Z Z<|.yw (.fieldAddr Z Fx.field27_1)<|.gd Z Z<|.yw (.load Z Fx.agg9 aQ Z)<|.gd Z Z<|.yw (.fieldAddr Z Fx.field27_1)<|.gd Z Z<|.yw (.load Z Fx.agg9 (.head _) Z)<|.gd Z Z<|.yw (.eqS Z Z)<|.yw (.pickT Z Z)<|.mv Z<|.b2 (fun h17=>?_) (fun h17=>?_)
  ·try simp only [dt] at h17
   have e2:nm=nm2:=h17;refine .gd Z Z<|.yw (.fieldAddr Z Fx.field27_2)<|.gd Z Z<|.yw (.load Z Fx.agg2 aQ Z)<|.gd Z Z<|.yw (.fieldAddr Z Fx.field27_2)<|.gd Z Z<|.yw (.load Z Fx.agg2 (.head _) Z)<|.gd Z Z<|.yw (.eql Z Z)<|.yw (.pickT Z Z)<|.mv Z<|.b2 (fun h24=>?_) (fun h24=>?_)
   ·try simp only [dt] at h24
    have e3:n=n2:=Int64.toInt_inj.1 h24;refine .gd Z Z<|.yw (.fieldAddr Z Fx.field27_3)<|.gd Z Z<|.yw (.load Z Fx.agg25 aQ Z)<|.gd Z Z<|.yw (.fieldAddr Z Fx.field27_3)<|.gd Z Z<|.yw (.load Z Fx.agg25 (.head _) Z)<|.gd Z Z<|.yw (.call Fx.call28 Z (fun W s=>IM H 13 Fx.call13 args jL ih _ _ hs hs2 W s.agr))<|.yw (.pickT Z Z)<|.a Z Z<|.nt<|.rt<|?_
    refine Sx.ret1 (.inl rfl) rfl (.tmp rfl) fun W s=>⟨aZ ?_,s.ext⟩
    first
     | (rw [aA,aA,Ex.mk.injEq];exact ⟨fun d=>⟨e1,e2,e3,d⟩,fun h=>h.2.2.2⟩)
     | (rw [aA,Ex.mk.injEq];exact ⟨fun h=>(by cases h),fun h=>absurd h.1 e1⟩)
     | (rw [aA,Ex.mk.injEq];exact ⟨fun h=>(by cases h),fun h=>absurd h.2.1 e2⟩)
     | (rw [aA,Ex.mk.injEq];exact ⟨fun h=>(by cases h),fun h=>absurd h.2.2.1 e3⟩)
   try simp only [df] at h24
   have e3:¬ n=n2:=fun e=>h24 (by rw [e]);refine .gG<|.gG<|.gG<|.gG<|.gG<|.yw (.pickF Z Z)<|.a Z Z<|.nt<|.rt<|?_
   refine Sx.ret1 (.inl rfl) rfl (.tmp rfl) fun W s=>⟨aZ ?_,s.ext⟩
   first
    | (rw [aA,aA,Ex.mk.injEq];exact ⟨fun d=>⟨e1,e2,e3,d⟩,fun h=>h.2.2.2⟩)
    | (rw [aA,Ex.mk.injEq];exact ⟨fun h=>(by cases h),fun h=>absurd h.1 e1⟩)
    | (rw [aA,Ex.mk.injEq];exact ⟨fun h=>(by cases h),fun h=>absurd h.2.1 e2⟩)
    | (rw [aA,Ex.mk.injEq];exact ⟨fun h=>(by cases h),fun h=>absurd h.2.2.1 e3⟩)
  try simp only [df] at h17
  have e2:¬ nm=nm2:=h17;refine .gG<|.gG<|.gG<|.gG<|.gG<|.yw (.pickF Z Z)<|.mv Z<|.gG<|.gG<|.gG<|.gG<|.gG<|.yw (.pickF Z Z)<|.a Z Z<|.nt<|.rt<|?_
  refine Sx.ret1 (.inl rfl) rfl (.tmp rfl) fun W s=>⟨aZ ?_,s.ext⟩
  first
   | (rw [aA,aA,Ex.mk.injEq];exact ⟨fun d=>⟨e1,e2,e3,d⟩,fun h=>h.2.2.2⟩)
   | (rw [aA,Ex.mk.injEq];exact ⟨fun h=>(by cases h),fun h=>absurd h.1 e1⟩)
   | (rw [aA,Ex.mk.injEq];exact ⟨fun h=>(by cases h),fun h=>absurd h.2.1 e2⟩)
   | (rw [aA,Ex.mk.injEq];exact ⟨fun h=>(by cases h),fun h=>absurd h.2.2.1 e3⟩)
 try simp only [df] at h10
 have e1:¬ op=op2:=fun e=>h10 (by rw [e]);refine .gG<|.gG<|.gG<|.gG<|.gG<|.yw (.pickF Z Z)<|.mv Z<|.gG<|.gG<|.gG<|.gG<|.gG<|.yw (.pickF Z Z)<|.mv Z<|.gG<|.gG<|.gG<|.gG<|.gG<|.yw (.pickF Z Z)<|.a Z Z<|.nt<|.rt<|?_
 refine Sx.ret1 (.inl rfl) rfl (.tmp rfl) fun W s=>⟨aZ ?_,s.ext⟩
 first
  | (rw [aA,aA,Ex.mk.injEq];exact ⟨fun d=>⟨e1,e2,e3,d⟩,fun h=>h.2.2.2⟩)
  | (rw [aA,Ex.mk.injEq];exact ⟨fun h=>(by cases h),fun h=>absurd h.1 e1⟩)
  | (rw [aA,Ex.mk.injEq];exact ⟨fun h=>(by cases h),fun h=>absurd h.2.1 e2⟩)
  | (rw [aA,Ex.mk.injEq];exact ⟨fun h=>(by cases h),fun h=>absurd h.2.2.1 e3⟩)
theorem Fx.call9:aK Tryz.prog 9=Bool.true:=by kernel_rfl
end Go.Proofs.YthhoebdlfjffkaaGreatDoor
namespace Go.Proofs.YthhoebdlfjffkaaGreatDoor
open Go.RowKit Go.Par Go.Sx
end Go.Proofs.YthhoebdlfjffkaaGreatDoor
namespace Go.Proofs.YthhoebdlfjffkaaGreatDoor
open Go.RowKit Go.Par Go.Sx
theorem YA {a b:Fg}:a=b↔a.nm=b.nm∧a.init=b.init:=by cases a;cases b;simp
theorem XR {a b:Lk}:a=b↔a.fr=b.fr∧a.to=b.to∧a.lat.toInt=b.lat.toInt:=by cases a;cases b;simp [Int64.toInt_inj]
theorem WS {a b:Vr}:a=b↔a.nm=b.nm∧a.ty.toNat=b.ty.toNat∧a.init.toInt=b.init.toInt:=by cases a;cases b;simp [Int64.toInt_inj,UInt8.toNat_inj]
theorem XB (H:Hp) (l m:List Fg) (v u:Value) (hs:Rep H (.seq 2 (l.map dFg)) [v]) (ht:Rep H (.seq 2 (m.map dFg)) [u]) (w:World) (hA:Agr H w) :
 Calls Tryz.prog 39 #[v,u] w fun r w'=>r=.returned (.bool (eqP (l=m)))∧Ext w w':=by
 obtain ⟨p,c,e,_⟩:=hs.sl;simp only [List.cons.injEq,and_true,List.length_map] at e;subst e;obtain ⟨p2,c2,e,_⟩:=ht.sl;simp only [List.cons.injEq,and_true,List.length_map] at e;subst e;have hcap:=hs.cap;have hcap2:=ht.cap;refine Sx.enter (H:=H) Tryz.func39 rfl Tryz.ntmps39 rfl hA ?_;refine .sr<|.a Z Z<|.nt<|.sq<|.sr<|.mv Z<|.yw (.lenSl Fx.sl45 Z)<|.mv Z<|.yw (.lenSl Fx.sl45 Z)<|.yw (.neq Z Z)<|.nt<|.cd Z (fun h10=>?_) (fun h10=>?_)
 ·try simp only [dt] at h10
  have hne:¬ l=m:=fun e=>by rw [e] at h10;exact h10 rfl
  refine .sr<|.a Z Z<|.nt<|.rt<|.tR<|?_
  refine Sx.ret1 (.inl rfl) rfl (.tmp rfl) fun W s=>⟨aZ ?_,s.ext⟩
  first
   | (rw [aA];exact ⟨fun h=>(by cases h),fun h=>absurd h hne⟩)
   | (rw [aA];exact ⟨fun _=>heq,fun _=>rfl⟩)
 try simp only [df] at h10
 have hlen:l.length=m.length:=by omega
 refine .sk<|.tN<|.sq<|.sr<|.mv Z<|.yw (.lenSl Fx.sl45 Z)<|.mv Z<|.nt<|.bk<|.lp (X:=Nat) [(0,_),(1,_),(12,_)] ⟨rfl,rfl,rfl,trivial⟩ [] (fun k=>[(13,.int .i64 (k:Nat))]) (fun k=>H) (fun k=>[]) (fun k=>k≤l.length∧l.take k=m.take k) (fun k=>l.length - k) 0 (fun _ s=>s) ⟨rfl,trivial⟩ ⟨by omega,rfl⟩ fun k hC=>?_
 obtain ⟨hk0,hal⟩:=hC;refine .sr<|.yw (.lss Z Z)<|.nt<|.sq<|.cd Z (fun h14=>?_) (fun h14=>?_)
 ·try simp only [dt] at h14
  have hk:k<l.length:=by omega
  have hkm:k<m.length:=by omega
  obtain ⟨bE,oE,cE,hpE,rE,lE,mE⟩:=hs.elem (aR (f:=dFg) hk);cases hpE;generalize hxE:l[k]=xE at rE;obtain ⟨rfl,_⟩:=rR rE;obtain ⟨bF,oF,cF,hpF,rF,lF,mF⟩:=ht.elem (aR (f:=dFg) hkm);cases hpF;generalize hxF:m[k]=xF at rF;obtain ⟨rfl,_⟩:=rR rF;refine .sk<|.tN<|.sq<|.bk<|.sr<|.mv Z<|.a Z Z<|.nt<|.sq<|.fL 8 [(0,0),(1,0),(2,0),(3,0),(4,0),(5,0),(6,0),(7,0)]<|.mv Z<|.mv Z<|.yw (.indexSl Fx.sl45 Z Z Z (by omega) (q:=oE+k * 2) Z)<|.yw (.loadMW Z Fx.agg102 mE Z)<|.mv Z<|.mv Z<|.yw (.indexSl Fx.sl45 Z Z Z (by omega) (q:=oF+k * 2) Z)<|.yw (.loadMW Z Fx.agg102 mF Z)<|.fn (tl:=[_]) Z<|.yw (.neA Fx.eqt102 Z Z Z)<|.nt<|.cd Z (fun h24=>?_) (fun h24=>?_)
  ·try simp only [dt] at h24
   have hne:¬ l=m:=fun e=>by
    subst e;rw [hxE] at hxF;subst hxF;simp at h24
   refine .sr<|.a Z Z<|.nt<|.rt<|.bR<|.tR<|.tR<|.bR<|.tR<|?_
   refine Sx.ret1 (.inl rfl) rfl (.tmp rfl) fun W s=>⟨aZ ?_,s.ext⟩
   first
    | (rw [aA];exact ⟨fun h=>(by cases h),fun h=>absurd h hne⟩)
    | (rw [aA];exact ⟨fun _=>heq,fun _=>rfl⟩)
  try simp only [df] at h24
  have heq:l[k]=m[k]:=by
   rw [hxE,hxF];rw [YA];simpa [oS] using h24
  exact .sk<|.bN<|.tN<|.rg<|.yw (.add Z Z (w6 (by omega)))<|.mv Z<|.nt<|.ag (k+1) ⟨rfl,trivial⟩ ⟨rfl,rfl,rfl,trivial⟩ (fun _ s=>s) ⟨by omega,fA hk hkm hal heq⟩ (by omega)
 try simp only [df] at h14
 have heq:l=m:=by
  have e:k=l.length:=by omega
  have e2:k=m.length:=by omega
  have h1:=hal;rw [e,List.take_length,hlen,List.take_length] at h1;exact h1
 refine .ex<|.tE<|.tE<|.bE<|.tN<|.sr<|.a Z Z<|.nt<|.rt<|?_
 refine Sx.ret1 (.inl rfl) rfl (.tmp rfl) fun W s=>⟨aZ ?_,s.ext⟩
 first
  | (rw [aA];exact ⟨fun h=>(by cases h),fun h=>absurd h hne⟩)
  | (rw [aA];exact ⟨fun _=>heq,fun _=>rfl⟩)
theorem XA (H:Hp) (l m:List Lk) (v u:Value) (hs:Rep H (.seq 3 (l.map dLk)) [v]) (ht:Rep H (.seq 3 (m.map dLk)) [u]) (w:World) (hA:Agr H w) :
 Calls Tryz.prog 40 #[v,u] w fun r w'=>r=.returned (.bool (eqP (l=m)))∧Ext w w':=by
 obtain ⟨p,c,e,_⟩:=hs.sl;simp only [List.cons.injEq,and_true,List.length_map] at e;subst e;obtain ⟨p2,c2,e,_⟩:=ht.sl;simp only [List.cons.injEq,and_true,List.length_map] at e;subst e;have hcap:=hs.cap;have hcap2:=ht.cap;refine Sx.enter (H:=H) Tryz.func40 rfl Tryz.ntmps40 rfl hA ?_;refine .sr<|.a Z Z<|.nt<|.sq<|.sr<|.mv Z<|.yw (.lenSl Fx.sl46 Z)<|.mv Z<|.yw (.lenSl Fx.sl46 Z)<|.yw (.neq Z Z)<|.nt<|.cd Z (fun h10=>?_) (fun h10=>?_)
 ·try simp only [dt] at h10
  have hne:¬ l=m:=fun e=>by rw [e] at h10;exact h10 rfl
  refine .sr<|.a Z Z<|.nt<|.rt<|.tR<|?_
  refine Sx.ret1 (.inl rfl) rfl (.tmp rfl) fun W s=>⟨aZ ?_,s.ext⟩
  first
   | (rw [aA];exact ⟨fun h=>(by cases h),fun h=>absurd h hne⟩)
   | (rw [aA];exact ⟨fun _=>heq,fun _=>rfl⟩)
 try simp only [df] at h10
 have hlen:l.length=m.length:=by omega
 refine .sk<|.tN<|.sq<|.sr<|.mv Z<|.yw (.lenSl Fx.sl46 Z)<|.mv Z<|.nt<|.bk<|.lp (X:=Nat) [(0,_),(1,_),(12,_)] ⟨rfl,rfl,rfl,trivial⟩ [] (fun k=>[(13,.int .i64 (k:Nat))]) (fun k=>H) (fun k=>[]) (fun k=>k≤l.length∧l.take k=m.take k) (fun k=>l.length - k) 0 (fun _ s=>s) ⟨rfl,trivial⟩ ⟨by omega,rfl⟩ fun k hC=>?_
 obtain ⟨hk0,hal⟩:=hC;refine .sr<|.yw (.lss Z Z)<|.nt<|.sq<|.cd Z (fun h14=>?_) (fun h14=>?_)
 ·try simp only [dt] at h14
  have hk:k<l.length:=by omega
  have hkm:k<m.length:=by omega
  obtain ⟨bE,oE,cE,hpE,rE,lE,mE⟩:=hs.elem (aR (f:=dLk) hk);cases hpE;generalize hxE:l[k]=xE at rE;obtain ⟨rfl,_⟩:=pK rE;obtain ⟨bF,oF,cF,hpF,rF,lF,mF⟩:=ht.elem (aR (f:=dLk) hkm);cases hpF;generalize hxF:m[k]=xF at rF;obtain ⟨rfl,_⟩:=pK rF;refine .sk<|.tN<|.sq<|.bk<|.sr<|.mv Z<|.a Z Z<|.nt<|.sq<|.fL 8 [(0,0),(1,0),(2,0),(3,0),(4,0),(5,0),(6,0),(7,0)]<|.mv Z<|.mv Z<|.yw (.indexSl Fx.sl46 Z Z Z (by omega) (q:=oE+k * 3) Z)<|.yw (.loadMW Z Fx.agg105 mE Z)<|.mv Z<|.mv Z<|.yw (.indexSl Fx.sl46 Z Z Z (by omega) (q:=oF+k * 3) Z)<|.yw (.loadMW Z Fx.agg105 mF Z)<|.fn (tl:=[_]) Z<|.yw (.neA Fx.eqt105 Z Z Z)<|.nt<|.cd Z (fun h24=>?_) (fun h24=>?_)
  ·try simp only [dt] at h24
   have hne:¬ l=m:=fun e=>by
    subst e;rw [hxE] at hxF;subst hxF;simp at h24
   refine .sr<|.a Z Z<|.nt<|.rt<|.bR<|.tR<|.tR<|.bR<|.tR<|?_
   refine Sx.ret1 (.inl rfl) rfl (.tmp rfl) fun W s=>⟨aZ ?_,s.ext⟩
   first
    | (rw [aA];exact ⟨fun h=>(by cases h),fun h=>absurd h hne⟩)
    | (rw [aA];exact ⟨fun _=>heq,fun _=>rfl⟩)
  try simp only [df] at h24
  have heq:l[k]=m[k]:=by
   rw [hxE,hxF];rw [XR];simpa [oS] using h24
  exact .sk<|.bN<|.tN<|.rg<|.yw (.add Z Z (w6 (by omega)))<|.mv Z<|.nt<|.ag (k+1) ⟨rfl,trivial⟩ ⟨rfl,rfl,rfl,trivial⟩ (fun _ s=>s) ⟨by omega,fA hk hkm hal heq⟩ (by omega)
 try simp only [df] at h14
 have heq:l=m:=by
  have e:k=l.length:=by omega
  have e2:k=m.length:=by omega
  have h1:=hal;rw [e,List.take_length,hlen,List.take_length] at h1;exact h1
 refine .ex<|.tE<|.tE<|.bE<|.tN<|.sr<|.a Z Z<|.nt<|.rt<|?_
 refine Sx.ret1 (.inl rfl) rfl (.tmp rfl) fun W s=>⟨aZ ?_,s.ext⟩
 first
  | (rw [aA];exact ⟨fun h=>(by cases h),fun h=>absurd h hne⟩)
  | (rw [aA];exact ⟨fun _=>heq,fun _=>rfl⟩)
theorem WY (H:Hp) (l m:List Vr) (v u:Value) (hs:Rep H (.seq 3 (l.map (dVr .u8))) [v]) (ht:Rep H (.seq 3 (m.map (dVr .u8))) [u]) (w:World) (hA:Agr H w) :
 Calls Tryz.prog 78 #[v,u] w fun r w'=>r=.returned (.bool (eqP (l=m)))∧Ext w w':=by
 obtain ⟨p,c,e,_⟩:=hs.sl;simp only [List.cons.injEq,and_true,List.length_map] at e;subst e;obtain ⟨p2,c2,e,_⟩:=ht.sl;simp only [List.cons.injEq,and_true,List.length_map] at e;subst e;have hcap:=hs.cap;have hcap2:=ht.cap;refine Sx.enter (H:=H) Tryz.func78 rfl Tryz.ntmps78 rfl hA ?_;refine .sr<|.a Z Z<|.nt<|.sq<|.sr<|.mv Z<|.yw (.lenSl Fx.sl107 Z)<|.mv Z<|.yw (.lenSl Fx.sl107 Z)<|.yw (.neq Z Z)<|.nt<|.cd Z (fun h10=>?_) (fun h10=>?_)
 ·try simp only [dt] at h10
  have hne:¬ l=m:=fun e=>by rw [e] at h10;exact h10 rfl
  refine .sr<|.a Z Z<|.nt<|.rt<|.tR<|?_
  refine Sx.ret1 (.inl rfl) rfl (.tmp rfl) fun W s=>⟨aZ ?_,s.ext⟩
  first
   | (rw [aA];exact ⟨fun h=>(by cases h),fun h=>absurd h hne⟩)
   | (rw [aA];exact ⟨fun _=>heq,fun _=>rfl⟩)
 try simp only [df] at h10
 have hlen:l.length=m.length:=by omega
 refine .sk<|.tN<|.sq<|.sr<|.mv Z<|.yw (.lenSl Fx.sl107 Z)<|.mv Z<|.nt<|.bk<|.lp (X:=Nat) [(0,_),(1,_),(12,_)] ⟨rfl,rfl,rfl,trivial⟩ [] (fun k=>[(13,.int .i64 (k:Nat))]) (fun k=>H) (fun k=>[]) (fun k=>k≤l.length∧l.take k=m.take k) (fun k=>l.length - k) 0 (fun _ s=>s) ⟨rfl,trivial⟩ ⟨by omega,rfl⟩ fun k hC=>?_
 obtain ⟨hk0,hal⟩:=hC;refine .sr<|.yw (.lss Z Z)<|.nt<|.sq<|.cd Z (fun h14=>?_) (fun h14=>?_)
 ·try simp only [dt] at h14
  have hk:k<l.length:=by omega
  have hkm:k<m.length:=by omega
  obtain ⟨bE,oE,cE,hpE,rE,lE,mE⟩:=hs.elem (aR (f:=(dVr .u8)) hk);cases hpE;generalize hxE:l[k]=xE at rE;obtain ⟨rfl,_⟩:=nC rE;obtain ⟨bF,oF,cF,hpF,rF,lF,mF⟩:=ht.elem (aR (f:=(dVr .u8)) hkm);cases hpF;generalize hxF:m[k]=xF at rF;obtain ⟨rfl,_⟩:=nC rF;refine .sk<|.tN<|.sq<|.bk<|.sr<|.mv Z<|.a Z Z<|.nt<|.sq<|.fL 8 [(0,0),(1,0),(2,0),(3,0),(4,0),(5,0),(6,0),(7,0)]<|.mv Z<|.mv Z<|.yw (.indexSl Fx.sl107 Z Z Z (by omega) (q:=oE+k * 3) Z)<|.yw (.loadMW Z Fx.agg151 mE Z)<|.mv Z<|.mv Z<|.yw (.indexSl Fx.sl107 Z Z Z (by omega) (q:=oF+k * 3) Z)<|.yw (.loadMW Z Fx.agg151 mF Z)<|.fn (tl:=[_]) Z<|.yw (.neA Fx.eqt151 Z Z Z)<|.nt<|.cd Z (fun h24=>?_) (fun h24=>?_)
  ·try simp only [dt] at h24
   have hne:¬ l=m:=fun e=>by
    subst e;rw [hxE] at hxF;subst hxF;simp at h24
   refine .sr<|.a Z Z<|.nt<|.rt<|.bR<|.tR<|.tR<|.bR<|.tR<|?_
   refine Sx.ret1 (.inl rfl) rfl (.tmp rfl) fun W s=>⟨aZ ?_,s.ext⟩
   first
    | (rw [aA];exact ⟨fun h=>(by cases h),fun h=>absurd h hne⟩)
    | (rw [aA];exact ⟨fun _=>heq,fun _=>rfl⟩)
  try simp only [df] at h24
  have heq:l[k]=m[k]:=by
   rw [hxE,hxF];rw [WS];have h9:=h24;simp [oS] at h9;exact ⟨h9.1,by omega,h9.2.2⟩
  exact .sk<|.bN<|.tN<|.rg<|.yw (.add Z Z (w6 (by omega)))<|.mv Z<|.nt<|.ag (k+1) ⟨rfl,trivial⟩ ⟨rfl,rfl,rfl,trivial⟩ (fun _ s=>s) ⟨by omega,fA hk hkm hal heq⟩ (by omega)
 try simp only [df] at h14
 have heq:l=m:=by
  have e:k=l.length:=by omega
  have e2:k=m.length:=by omega
  have h1:=hal;rw [e,List.take_length,hlen,List.take_length] at h1;exact h1
 refine .ex<|.tE<|.tE<|.bE<|.tN<|.sr<|.a Z Z<|.nt<|.rt<|?_
 refine Sx.ret1 (.inl rfl) rfl (.tmp rfl) fun W s=>⟨aZ ?_,s.ext⟩
 first
  | (rw [aA];exact ⟨fun h=>(by cases h),fun h=>absurd h hne⟩)
  | (rw [aA];exact ⟨fun _=>heq,fun _=>rfl⟩)
theorem WZ (H:Hp) (l m:List Str) (v u:Value) (hs:Rep H (.seq 1 (l.map gZ)) [v]) (ht:Rep H (.seq 1 (m.map gZ)) [u]) (w:World) (hA:Agr H w) :
 Calls Tryz.prog 123 #[v,u] w fun r w'=>r=.returned (.bool (eqP (l=m)))∧Ext w w':=by
 obtain ⟨p,c,e,_⟩:=hs.sl;simp only [List.cons.injEq,and_true,List.length_map] at e;subst e;obtain ⟨p2,c2,e,_⟩:=ht.sl;simp only [List.cons.injEq,and_true,List.length_map] at e;subst e;have hcap:=hs.cap;have hcap2:=ht.cap;refine Sx.enter (H:=H) Tryz.func123 rfl Tryz.ntmps123 rfl hA ?_;refine .sr<|.a Z Z<|.nt<|.sq<|.sr<|.mv Z<|.yw (.lenSl Fx.sl52 Z)<|.mv Z<|.yw (.lenSl Fx.sl52 Z)<|.yw (.neq Z Z)<|.nt<|.cd Z (fun h10=>?_) (fun h10=>?_)
 ·try simp only [dt] at h10
  have hne:¬ l=m:=fun e=>by rw [e] at h10;exact h10 rfl
  refine .sr<|.a Z Z<|.nt<|.rt<|.tR<|?_
  refine Sx.ret1 (.inl rfl) rfl (.tmp rfl) fun W s=>⟨aZ ?_,s.ext⟩
  first
   | (rw [aA];exact ⟨fun h=>(by cases h),fun h=>absurd h hne⟩)
   | (rw [aA];exact ⟨fun _=>heq,fun _=>rfl⟩)
 try simp only [df] at h10
 have hlen:l.length=m.length:=by omega
 refine .sk<|.tN<|.sq<|.sr<|.mv Z<|.yw (.lenSl Fx.sl52 Z)<|.mv Z<|.nt<|.bk<|.lp (X:=Nat) [(0,_),(1,_),(12,_)] ⟨rfl,rfl,rfl,trivial⟩ [] (fun k=>[(13,.int .i64 (k:Nat))]) (fun k=>H) (fun k=>[]) (fun k=>k≤l.length∧l.take k=m.take k) (fun k=>l.length - k) 0 (fun _ s=>s) ⟨rfl,trivial⟩ ⟨by omega,rfl⟩ fun k hC=>?_
 obtain ⟨hk0,hal⟩:=hC;refine .sr<|.yw (.lss Z Z)<|.nt<|.sq<|.cd Z (fun h14=>?_) (fun h14=>?_)
 ·try simp only [dt] at h14
  have hk:k<l.length:=by omega
  have hkm:k<m.length:=by omega
  obtain ⟨bE,oE,cE,hpE,rE,lE,mE⟩:=hs.elem (aR (f:=gZ) hk);cases hpE;generalize hxE:l[k]=xE at rE;obtain ⟨rfl,_⟩:=kV rE;obtain ⟨bF,oF,cF,hpF,rF,lF,mF⟩:=ht.elem (aR (f:=gZ) hkm);cases hpF;generalize hxF:m[k]=xF at rF;obtain ⟨rfl,_⟩:=kV rF;refine .sk<|.tN<|.sq<|.bk<|.sr<|.mv Z<|.a Z Z<|.nt<|.sq<|.fL 8 [(0,0),(1,0),(2,0),(3,0),(4,0),(5,0),(6,0),(7,0)]<|.mv Z<|.mv Z<|.yw (.indexSl Fx.sl52 Z Z Z (by omega) (q:=oE+k * 1) Z)<|.yw (.loadM Z Fx.agg9 mE (k:=0) Z Z)<|.mv Z<|.mv Z<|.yw (.indexSl Fx.sl52 Z Z Z (by omega) (q:=oF+k * 1) Z)<|.yw (.loadM Z Fx.agg9 mF (k:=0) Z Z)<|.fn (tl:=[_]) Z<|.yw (.neS Z Z)<|.nt<|.cd Z (fun h24=>?_) (fun h24=>?_)
  ·try simp only [dt] at h24
   have hne:¬ l=m:=fun e=>by
    subst e;rw [hxE] at hxF;subst hxF;simp at h24
   refine .sr<|.a Z Z<|.nt<|.rt<|.bR<|.tR<|.tR<|.bR<|.tR<|?_
   refine Sx.ret1 (.inl rfl) rfl (.tmp rfl) fun W s=>⟨aZ ?_,s.ext⟩
   first
    | (rw [aA];exact ⟨fun h=>(by cases h),fun h=>absurd h hne⟩)
    | (rw [aA];exact ⟨fun _=>heq,fun _=>rfl⟩)
  try simp only [df] at h24
  have heq:l[k]=m[k]:=by
   rw [hxE,hxF];simpa using h24
  exact .sk<|.bN<|.tN<|.rg<|.yw (.add Z Z (w6 (by omega)))<|.mv Z<|.nt<|.ag (k+1) ⟨rfl,trivial⟩ ⟨rfl,rfl,rfl,trivial⟩ (fun _ s=>s) ⟨by omega,fA hk hkm hal heq⟩ (by omega)
 try simp only [df] at h14
 have heq:l=m:=by
  have e:k=l.length:=by omega
  have e2:k=m.length:=by omega
  have h1:=hal;rw [e,List.take_length,hlen,List.take_length] at h1;exact h1
 refine .ex<|.tE<|.tE<|.bE<|.tN<|.sr<|.a Z Z<|.nt<|.rt<|?_
 refine Sx.ret1 (.inl rfl) rfl (.tmp rfl) fun W s=>⟨aZ ?_,s.ext⟩
 first
  | (rw [aA];exact ⟨fun h=>(by cases h),fun h=>absurd h hne⟩)
  | (rw [aA];exact ⟨fun _=>heq,fun _=>rfl⟩)
theorem rM {a b:Hd}:a=b↔a.nm=b.nm∧a.ps=b.ps∧a.body=b.body:=by cases a;cases b;simp
theorem rT {a b:Cp}:a=b↔a.nm=b.nm∧a.vars=b.vars∧a.vers=b.vers:=by cases a;cases b;simp
theorem kG {a b:Ft}:a=b↔a.nm=b.nm∧a.flags=b.flags∧a.links=b.links∧a.comps=b.comps:=by cases a;cases b;simp
theorem BA (H:Hp) (gf:FuncId) (hgf:aK Tryz.prog gf=true) (l m:List Sm) (hq:∀ a∈l,∀ b,xA gf (dSm .u8) H a b) (v u:Value) (hs:Rep H (.seq 6 (l.map (dSm .u8))) [v]) (ht:Rep H (.seq 6 (m.map (dSm .u8))) [u]) (w:World) (hA:Agr H w) :
 Calls Tryz.prog 124 #[v,u,.func (.func gf) #[] #[]] w fun r w'=>r=.returned (.bool (eqP (l=m)))∧Ext w w':=by
 obtain ⟨p,c,e,_⟩:=hs.sl;simp only [List.cons.injEq,and_true,List.length_map] at e;subst e;obtain ⟨p2,c2,e,_⟩:=ht.sl;simp only [List.cons.injEq,and_true,List.length_map] at e;subst e;have hcap:=hs.cap;have hcap2:=ht.cap;refine Sx.enter (H:=H) Tryz.func124 rfl Tryz.ntmps124 rfl hA ?_;refine .sr<|.a Z Z<|.nt<|.sq<|.sr<|.mv Z<|.yw (.lenSl Fx.sl159 Z)<|.mv Z<|.yw (.lenSl Fx.sl159 Z)<|.yw (.neq Z Z)<|.nt<|.cd Z (fun h14=>?_) (fun h14=>?_)
 ·try simp only [dt] at h14
  have hne:¬ l=m:=fun e=>by rw [e] at h14;exact h14 rfl
  refine .sr<|.a Z Z<|.nt<|.rt<|.tR<|?_
  refine Sx.ret1 (.inl rfl) rfl (.tmp rfl) fun W s=>⟨aZ ?_,s.ext⟩
  first
   | (rw [aA];exact ⟨fun h=>(by cases h),fun h=>absurd h hne⟩)
   | (rw [aA];exact ⟨fun _=>heq,fun _=>rfl⟩)
 try simp only [df] at h14
 have hlen:l.length=m.length:=by omega
 refine .sk<|.tN<|.sq<|.sr<|.mv Z<|.yw (.lenSl Fx.sl159 Z)<|.mv Z<|.nt<|.bk<|.lp (X:=Nat) [(1,_),(2,_),(15,_),(16,_)] ⟨rfl,rfl,rfl,rfl,trivial⟩ [] (fun k=>[(17,.int .i64 (k:Nat))]) (fun k=>H) (fun k=>[]) (fun k=>k≤l.length∧l.take k=m.take k) (fun k=>l.length - k) 0 (fun _ s=>s) ⟨rfl,trivial⟩ ⟨by omega,rfl⟩ fun k hC=>?_
 obtain ⟨hk0,hal⟩:=hC;refine .sr<|.yw (.lss Z Z)<|.nt<|.sq<|.cd Z (fun h18=>?_) (fun h18=>?_)
 ·try simp only [dt] at h18
  have hk:k<l.length:=by omega
  have hkm:k<m.length:=by omega
  obtain ⟨bE,oE,cE,hpE,rE,lE,mE⟩:=hs.elem (aR hk);cases hpE;obtain ⟨bF,oF,cF,hpF,rF,lF,mF⟩:=ht.elem (aR hkm);cases hpF;refine .sk<|.tN<|.sq<|.bk<|.sr<|.mv Z<|.yw (.indexSl Fx.sl159 Z Z Z (by omega) (q:=oE+k * 6) Z)<|.yw (.loadMW Z Fx.agg208 mE lE)<|.al Fx.zero208 Z fun b8=>.a Z Z<|.sV .head Z Z Fx.size208 lE rE.one Z<|.ns<|.mv Z<|.mv Z<|.yw (.indexSl Fx.sl159 Z Z Z (by omega) (q:=oF+k * 6) Z)<|.yw (.loadMW Z Fx.agg208 mF lF)<|.al Fx.zero208 Z fun b9=>.sV .head Z Z Fx.size208 lF rF.one Z<|.ns<|.mv Z<|.yw (.loadW Z Fx.agg208 aQ lE)<|.yw (.loadW Z Fx.agg208 (.head _) lF)<|.yw (.callV (fi:=[]) (ca:=[]) Z hgf Z (fun W s=>hq _ (List.getElem_mem hk) _ cE cF W rE rF s.agr))<|.yw (.not Z)<|.nt<|.cd Z (fun h30=>?_) (fun h30=>?_)
  ·try simp only [dt] at h30
   have hne:¬ l=m:=fun e=>by subst e;rw [aA.2 rfl] at h30;cases h30
   refine .sr<|.a Z Z<|.nt<|.rt<|.bR<|.tR<|.tR<|.bR<|.tR<|?_
   refine Sx.ret1 (.inl rfl) rfl (.tmp rfl) fun W s=>⟨aZ ?_,s.ext⟩
   first
    | (rw [aA];exact ⟨fun h=>(by cases h),fun h=>absurd h hne⟩)
    | (rw [aA];exact ⟨fun _=>heq,fun _=>rfl⟩)
  try simp only [df] at h30
  have heq:l[k]=m[k]:=aA.1 (by simpa using h30);exact .sk<|.bN<|.tN<|.rg<|.yw (.add Z Z (w6 (by omega)))<|.mv Z<|.nt<|.ag (k+1) ⟨rfl,trivial⟩ ⟨rfl,rfl,rfl,rfl,trivial⟩ (fun _ s=>s.pick [] [] Z Z) ⟨by omega,fA hk hkm hal heq⟩ (by omega)
 try simp only [df] at h18
 have heq:l=m:=by
  have e:k=l.length:=by omega
  have e2:k=m.length:=by omega
  have h1:=hal;rw [e,List.take_length,hlen,List.take_length] at h1;exact h1
 refine .ex<|.tE<|.tE<|.bE<|.tN<|.sr<|.a Z Z<|.nt<|.rt<|?_
 refine Sx.ret1 (.inl rfl) rfl (.tmp rfl) fun W s=>⟨aZ ?_,s.ext⟩
 first
  | (rw [aA];exact ⟨fun h=>(by cases h),fun h=>absurd h hne⟩)
  | (rw [aA];exact ⟨fun _=>heq,fun _=>rfl⟩)
theorem xM (H:Hp) (a:Sm):∀ b,xA 125 (dSm .u8) H a b:=by
 induction a using Sm.ind with | _ kd nm hd ex th el ih1 ih2
 intro b ca cb w ha hb hA;obtain ⟨kd2,nm2,hd2,ex2,th2,el2⟩:=b;obtain ⟨p,c,p1,c1,p2,c2,rfl,k1,k2,k3,_,_⟩:=iJ ha;obtain ⟨q,d,q1,d1,q2,d2,rfl,g1,g2,g3,_,_⟩:=iJ hb;refine Sx.enter (H:=H) Tryz.func125 rfl Tryz.ntmps125 rfl hA ?_;refine .sr<|.bx Z Z Z fun b2=>.bx Z Z Z fun b3=>.a Z Z<|.ns<|.yw (.fieldAddr Z Fx.field208_0)<|.yw (.load Z Fx.agg206 aQ Z)<|.yw (.fieldAddr Z Fx.field208_0)<|.yw (.load Z Fx.agg206 (.head _) Z)<|.yw (.eql Z Z)<|.mv Z<|.b2 (fun h10=>?_) (fun h10=>?_)
 ·try simp only [dt] at h10
  have e1:=UInt8.toNat_inj.1 (by omega:kd.toNat=kd2.toNat);refine .gd Z Z<|.yw (.fieldAddr Z Fx.field208_1)<|.gd Z Z<|.yw (.load Z Fx.agg9 aQ Z)<|.gd Z Z<|.yw (.fieldAddr Z Fx.field208_1)<|.gd Z Z<|.yw (.load Z Fx.agg9 (.head _) Z)<|.gd Z Z<|.yw (.eqS Z Z)<|.yw (.pickT Z Z)<|.mv Z<|.b2 (fun h17=>?_) (fun h17=>?_)
  ·try simp only [dt] at h17
   have e2:=(id h17:nm=nm2);refine .gd Z Z<|.yw (.fieldAddr Z Fx.field208_2)<|.gd Z Z<|.yw (.load Z Fx.agg9 aQ Z)<|.gd Z Z<|.yw (.fieldAddr Z Fx.field208_2)<|.gd Z Z<|.yw (.load Z Fx.agg9 (.head _) Z)<|.gd Z Z<|.yw (.eqS Z Z)<|.yw (.pickT Z Z)<|.mv Z<|.b2 (fun h24=>?_) (fun h24=>?_)
   ·try simp only [dt] at h24
    have e3:=(id h24:hd=hd2);refine .gd Z Z<|.yw (.fieldAddr Z Fx.field208_3)<|.gd Z Z<|.yw (.load Z Fx.agg25 aQ Z)<|.gd Z Z<|.yw (.fieldAddr Z Fx.field208_3)<|.gd Z Z<|.yw (.load Z Fx.agg25 (.head _) Z)<|.gd Z Z<|.yw (.call Fx.call28 Z (fun W s=>IM H 13 Fx.call13 ex ex2 (fun a _=>xN H a) _ _ k1 g1 W s.agr))<|.yw (.pickT Z Z)<|.mv Z<|.b2 (fun h31=>?_) (fun h31=>?_)
    ·try simp only [dt] at h31
     have e4:=aA.1 h31;refine .gd Z Z<|.yw (.fieldAddr Z Fx.field208_4)<|.gd Z Z<|.yw (.load Z Fx.agg159 aQ Z)<|.gd Z Z<|.yw (.fieldAddr Z Fx.field208_4)<|.gd Z Z<|.yw (.load Z Fx.agg159 (.head _) Z)<|.gd Z Z<|.yw (.call Fx.call124 Z (fun W s=>BA H 125 Fx.call125 th th2 ih1 _ _ k2 g2 W s.agr))<|.yw (.pickT Z Z)<|.mv Z<|.b2 (fun h38=>?_) (fun h38=>?_)
     ·try simp only [dt] at h38
      have e5:=aA.1 h38;refine .gd Z Z<|.yw (.fieldAddr Z Fx.field208_5)<|.gd Z Z<|.yw (.load Z Fx.agg159 aQ Z)<|.gd Z Z<|.yw (.fieldAddr Z Fx.field208_5)<|.gd Z Z<|.yw (.load Z Fx.agg159 (.head _) Z)<|.gd Z Z<|.yw (.call Fx.call124 Z (fun W s=>BA H 125 Fx.call125 el el2 ih2 _ _ k3 g3 W s.agr))<|.yw (.pickT Z Z)<|.a Z Z<|.nt<|.rt<|?_
      refine Sx.ret1 (.inl rfl) rfl (.tmp rfl) fun W s=>⟨aZ ?_,s.ext⟩
      first
       | (rw [aA,aA,Sm.mk.injEq];exact ⟨fun d=>⟨e1,e2,e3,e4,e5,d⟩,fun h=>h.2.2.2.2.2⟩)
       | (rw [aA,Sm.mk.injEq];exact ⟨fun h=>(by cases h),fun h=>absurd h.1 e1⟩)
       | (rw [aA,Sm.mk.injEq];exact ⟨fun h=>(by cases h),fun h=>absurd h.2.1 e2⟩)
       | (rw [aA,Sm.mk.injEq];exact ⟨fun h=>(by cases h),fun h=>absurd h.2.2.1 e3⟩)
       | (rw [aA,Sm.mk.injEq];exact ⟨fun h=>(by cases h),fun h=>absurd h.2.2.2.1 e4⟩)
       | (rw [aA,Sm.mk.injEq];exact ⟨fun h=>(by cases h),fun h=>absurd h.2.2.2.2.1 e5⟩)
     try simp only [df] at h38
     have e5:=kS.1 h38;refine .gG<|.gG<|.gG<|.gG<|.gG<|.yw (.pickF Z Z)<|.a Z Z<|.nt<|.rt<|?_
     refine Sx.ret1 (.inl rfl) rfl (.tmp rfl) fun W s=>⟨aZ ?_,s.ext⟩
     first
      | (rw [aA,aA,Sm.mk.injEq];exact ⟨fun d=>⟨e1,e2,e3,e4,e5,d⟩,fun h=>h.2.2.2.2.2⟩)
      | (rw [aA,Sm.mk.injEq];exact ⟨fun h=>(by cases h),fun h=>absurd h.1 e1⟩)
      | (rw [aA,Sm.mk.injEq];exact ⟨fun h=>(by cases h),fun h=>absurd h.2.1 e2⟩)
      | (rw [aA,Sm.mk.injEq];exact ⟨fun h=>(by cases h),fun h=>absurd h.2.2.1 e3⟩)
      | (rw [aA,Sm.mk.injEq];exact ⟨fun h=>(by cases h),fun h=>absurd h.2.2.2.1 e4⟩)
      | (rw [aA,Sm.mk.injEq];exact ⟨fun h=>(by cases h),fun h=>absurd h.2.2.2.2.1 e5⟩)
    try simp only [df] at h31
    have e4:=kS.1 h31;refine .gG<|.gG<|.gG<|.gG<|.gG<|.yw (.pickF Z Z)<|.mv Z<|.gG<|.gG<|.gG<|.gG<|.gG<|.yw (.pickF Z Z)<|.a Z Z<|.nt<|.rt<|?_
    refine Sx.ret1 (.inl rfl) rfl (.tmp rfl) fun W s=>⟨aZ ?_,s.ext⟩
    first
     | (rw [aA,aA,Sm.mk.injEq];exact ⟨fun d=>⟨e1,e2,e3,e4,e5,d⟩,fun h=>h.2.2.2.2.2⟩)
     | (rw [aA,Sm.mk.injEq];exact ⟨fun h=>(by cases h),fun h=>absurd h.1 e1⟩)
     | (rw [aA,Sm.mk.injEq];exact ⟨fun h=>(by cases h),fun h=>absurd h.2.1 e2⟩)
     | (rw [aA,Sm.mk.injEq];exact ⟨fun h=>(by cases h),fun h=>absurd h.2.2.1 e3⟩)
     | (rw [aA,Sm.mk.injEq];exact ⟨fun h=>(by cases h),fun h=>absurd h.2.2.2.1 e4⟩)
     | (rw [aA,Sm.mk.injEq];exact ⟨fun h=>(by cases h),fun h=>absurd h.2.2.2.2.1 e5⟩)
   try simp only [df] at h24
   have e3:=(id h24:¬ hd=hd2);refine .gG<|.gG<|.gG<|.gG<|.gG<|.yw (.pickF Z Z)<|.mv Z<|.gG<|.gG<|.gG<|.gG<|.gG<|.yw (.pickF Z Z)<|.mv Z<|.gG<|.gG<|.gG<|.gG<|.gG<|.yw (.pickF Z Z)<|.a Z Z<|.nt<|.rt<|?_
   refine Sx.ret1 (.inl rfl) rfl (.tmp rfl) fun W s=>⟨aZ ?_,s.ext⟩
   first
    | (rw [aA,aA,Sm.mk.injEq];exact ⟨fun d=>⟨e1,e2,e3,e4,e5,d⟩,fun h=>h.2.2.2.2.2⟩)
    | (rw [aA,Sm.mk.injEq];exact ⟨fun h=>(by cases h),fun h=>absurd h.1 e1⟩)
    | (rw [aA,Sm.mk.injEq];exact ⟨fun h=>(by cases h),fun h=>absurd h.2.1 e2⟩)
    | (rw [aA,Sm.mk.injEq];exact ⟨fun h=>(by cases h),fun h=>absurd h.2.2.1 e3⟩)
    | (rw [aA,Sm.mk.injEq];exact ⟨fun h=>(by cases h),fun h=>absurd h.2.2.2.1 e4⟩)
    | (rw [aA,Sm.mk.injEq];exact ⟨fun h=>(by cases h),fun h=>absurd h.2.2.2.2.1 e5⟩)
  try simp only [df] at h17
  have e2:=(id h17:¬ nm=nm2);refine .gG<|.gG<|.gG<|.gG<|.gG<|.yw (.pickF Z Z)<|.mv Z<|.gG<|.gG<|.gG<|.gG<|.gG<|.yw (.pickF Z Z)<|.mv Z<|.gG<|.gG<|.gG<|.gG<|.gG<|.yw (.pickF Z Z)<|.mv Z<|.gG<|.gG<|.gG<|.gG<|.gG<|.yw (.pickF Z Z)<|.a Z Z<|.nt<|.rt<|?_
  refine Sx.ret1 (.inl rfl) rfl (.tmp rfl) fun W s=>⟨aZ ?_,s.ext⟩
  first
   | (rw [aA,aA,Sm.mk.injEq];exact ⟨fun d=>⟨e1,e2,e3,e4,e5,d⟩,fun h=>h.2.2.2.2.2⟩)
   | (rw [aA,Sm.mk.injEq];exact ⟨fun h=>(by cases h),fun h=>absurd h.1 e1⟩)
   | (rw [aA,Sm.mk.injEq];exact ⟨fun h=>(by cases h),fun h=>absurd h.2.1 e2⟩)
   | (rw [aA,Sm.mk.injEq];exact ⟨fun h=>(by cases h),fun h=>absurd h.2.2.1 e3⟩)
   | (rw [aA,Sm.mk.injEq];exact ⟨fun h=>(by cases h),fun h=>absurd h.2.2.2.1 e4⟩)
   | (rw [aA,Sm.mk.injEq];exact ⟨fun h=>(by cases h),fun h=>absurd h.2.2.2.2.1 e5⟩)
 try simp only [df] at h10
 have e1:=(fun e=>h10 (by rw [e]):¬ kd=kd2);refine .gG<|.gG<|.gG<|.gG<|.gG<|.yw (.pickF Z Z)<|.mv Z<|.gG<|.gG<|.gG<|.gG<|.gG<|.yw (.pickF Z Z)<|.mv Z<|.gG<|.gG<|.gG<|.gG<|.gG<|.yw (.pickF Z Z)<|.mv Z<|.gG<|.gG<|.gG<|.gG<|.gG<|.yw (.pickF Z Z)<|.mv Z<|.gG<|.gG<|.gG<|.gG<|.gG<|.yw (.pickF Z Z)<|.a Z Z<|.nt<|.rt<|?_
 refine Sx.ret1 (.inl rfl) rfl (.tmp rfl) fun W s=>⟨aZ ?_,s.ext⟩
 first
  | (rw [aA,aA,Sm.mk.injEq];exact ⟨fun d=>⟨e1,e2,e3,e4,e5,d⟩,fun h=>h.2.2.2.2.2⟩)
  | (rw [aA,Sm.mk.injEq];exact ⟨fun h=>(by cases h),fun h=>absurd h.1 e1⟩)
  | (rw [aA,Sm.mk.injEq];exact ⟨fun h=>(by cases h),fun h=>absurd h.2.1 e2⟩)
  | (rw [aA,Sm.mk.injEq];exact ⟨fun h=>(by cases h),fun h=>absurd h.2.2.1 e3⟩)
  | (rw [aA,Sm.mk.injEq];exact ⟨fun h=>(by cases h),fun h=>absurd h.2.2.2.1 e4⟩)
  | (rw [aA,Sm.mk.injEq];exact ⟨fun h=>(by cases h),fun h=>absurd h.2.2.2.2.1 e5⟩)
theorem SR (H:Hp) (gf:FuncId) (hgf:aK Tryz.prog gf=true) (l m:List Hd) (hq:∀ a∈l,∀ b,xA gf (dHd .u8) H a b) (v u:Value) (hs:Rep H (.seq 3 (l.map (dHd .u8))) [v]) (ht:Rep H (.seq 3 (m.map (dHd .u8))) [u]) (w:World) (hA:Agr H w) :
 Calls Tryz.prog 81 #[v,u,.func (.func gf) #[] #[]] w fun r w'=>r=.returned (.bool (eqP (l=m)))∧Ext w w':=by
 obtain ⟨p,c,e,_⟩:=hs.sl;simp only [List.cons.injEq,and_true,List.length_map] at e;subst e;obtain ⟨p2,c2,e,_⟩:=ht.sl;simp only [List.cons.injEq,and_true,List.length_map] at e;subst e;have hcap:=hs.cap;have hcap2:=ht.cap;refine Sx.enter (H:=H) Tryz.func81 rfl Tryz.ntmps81 rfl hA ?_;refine .sr<|.a Z Z<|.nt<|.sq<|.sr<|.mv Z<|.yw (.lenSl Fx.sl153 Z)<|.mv Z<|.yw (.lenSl Fx.sl153 Z)<|.yw (.neq Z Z)<|.nt<|.cd Z (fun h14=>?_) (fun h14=>?_)
 ·try simp only [dt] at h14
  have hne:¬ l=m:=fun e=>by rw [e] at h14;exact h14 rfl
  refine .sr<|.a Z Z<|.nt<|.rt<|.tR<|?_
  refine Sx.ret1 (.inl rfl) rfl (.tmp rfl) fun W s=>⟨aZ ?_,s.ext⟩
  first
   | (rw [aA];exact ⟨fun h=>(by cases h),fun h=>absurd h hne⟩)
   | (rw [aA];exact ⟨fun _=>heq,fun _=>rfl⟩)
 try simp only [df] at h14
 have hlen:l.length=m.length:=by omega
 refine .sk<|.tN<|.sq<|.sr<|.mv Z<|.yw (.lenSl Fx.sl153 Z)<|.mv Z<|.nt<|.bk<|.lp (X:=Nat) [(1,_),(2,_),(15,_),(16,_)] ⟨rfl,rfl,rfl,rfl,trivial⟩ [] (fun k=>[(17,.int .i64 (k:Nat))]) (fun k=>H) (fun k=>[]) (fun k=>k≤l.length∧l.take k=m.take k) (fun k=>l.length - k) 0 (fun _ s=>s) ⟨rfl,trivial⟩ ⟨by omega,rfl⟩ fun k hC=>?_
 obtain ⟨hk0,hal⟩:=hC;refine .sr<|.yw (.lss Z Z)<|.nt<|.sq<|.cd Z (fun h18=>?_) (fun h18=>?_)
 ·try simp only [dt] at h18
  have hk:k<l.length:=by omega
  have hkm:k<m.length:=by omega
  obtain ⟨bE,oE,cE,hpE,rE,lE,mE⟩:=hs.elem (aR hk);cases hpE;obtain ⟨bF,oF,cF,hpF,rF,lF,mF⟩:=ht.elem (aR hkm);cases hpF;refine .sk<|.tN<|.sq<|.bk<|.sr<|.mv Z<|.yw (.indexSl Fx.sl153 Z Z Z (by omega) (q:=oE+k * 3) Z)<|.yw (.loadMW Z Fx.agg162 mE lE)<|.al Fx.zero162 Z fun b8=>.a Z Z<|.sV .head Z Z Fx.size162 lE rE.one Z<|.ns<|.mv Z<|.mv Z<|.yw (.indexSl Fx.sl153 Z Z Z (by omega) (q:=oF+k * 3) Z)<|.yw (.loadMW Z Fx.agg162 mF lF)<|.al Fx.zero162 Z fun b9=>.sV .head Z Z Fx.size162 lF rF.one Z<|.ns<|.mv Z<|.yw (.loadW Z Fx.agg162 aQ lE)<|.yw (.loadW Z Fx.agg162 (.head _) lF)<|.yw (.callV (fi:=[]) (ca:=[]) Z hgf Z (fun W s=>hq _ (List.getElem_mem hk) _ cE cF W rE rF s.agr))<|.yw (.not Z)<|.nt<|.cd Z (fun h30=>?_) (fun h30=>?_)
  ·try simp only [dt] at h30
   have hne:¬ l=m:=fun e=>by subst e;rw [aA.2 rfl] at h30;cases h30
   refine .sr<|.a Z Z<|.nt<|.rt<|.bR<|.tR<|.tR<|.bR<|.tR<|?_
   refine Sx.ret1 (.inl rfl) rfl (.tmp rfl) fun W s=>⟨aZ ?_,s.ext⟩
   first
    | (rw [aA];exact ⟨fun h=>(by cases h),fun h=>absurd h hne⟩)
    | (rw [aA];exact ⟨fun _=>heq,fun _=>rfl⟩)
  try simp only [df] at h30
  have heq:l[k]=m[k]:=aA.1 (by simpa using h30);exact .sk<|.bN<|.tN<|.rg<|.yw (.add Z Z (w6 (by omega)))<|.mv Z<|.nt<|.ag (k+1) ⟨rfl,trivial⟩ ⟨rfl,rfl,rfl,rfl,trivial⟩ (fun _ s=>s.pick [] [] Z Z) ⟨by omega,fA hk hkm hal heq⟩ (by omega)
 try simp only [df] at h18
 have heq:l=m:=by
  have e:k=l.length:=by omega
  have e2:k=m.length:=by omega
  have h1:=hal;rw [e,List.take_length,hlen,List.take_length] at h1;exact h1
 refine .ex<|.tE<|.tE<|.bE<|.tN<|.sr<|.a Z Z<|.nt<|.rt<|?_
 refine Sx.ret1 (.inl rfl) rfl (.tmp rfl) fun W s=>⟨aZ ?_,s.ext⟩
 first
  | (rw [aA];exact ⟨fun h=>(by cases h),fun h=>absurd h hne⟩)
  | (rw [aA];exact ⟨fun _=>heq,fun _=>rfl⟩)
theorem sT (H:Hp) (a b:Hd):xA 82 (dHd .u8) H a b:=by
 intro ca cb w ha hb hA;obtain ⟨p1,c1,p2,c2,rfl,_,k1,k2⟩:=lR ha;obtain ⟨q1,d1,q2,d2,rfl,_,g1,g2⟩:=lR hb;refine Sx.enter (H:=H) Tryz.func82 rfl Tryz.ntmps82 rfl hA ?_;refine .sr<|.bx Z Z Z fun b2=>.bx Z Z Z fun b3=>.a Z Z<|.ns<|.yw (.fieldAddr Z Fx.field162_0)<|.yw (.load Z Fx.agg9 aQ Z)<|.yw (.fieldAddr Z Fx.field162_0)<|.yw (.load Z Fx.agg9 (.head _) Z)<|.yw (.eqS Z Z)<|.mv Z<|.b2 (fun h10=>?_) (fun h10=>?_)
 ·try simp only [dt] at h10
  have e1:=(id h10:a.nm=b.nm);refine .gd Z Z<|.yw (.fieldAddr Z Fx.field162_1)<|.gd Z Z<|.yw (.load Z Fx.agg52 aQ Z)<|.gd Z Z<|.yw (.fieldAddr Z Fx.field162_1)<|.gd Z Z<|.yw (.load Z Fx.agg52 (.head _) Z)<|.gd Z Z<|.yw (.call Fx.call123 Z (fun W s=>WZ H a.ps b.ps _ _ k1 g1 W s.agr))<|.yw (.pickT Z Z)<|.mv Z<|.b2 (fun h17=>?_) (fun h17=>?_)
  ·try simp only [dt] at h17
   have e2:=aA.1 h17;refine .gd Z Z<|.yw (.fieldAddr Z Fx.field162_2)<|.gd Z Z<|.yw (.load Z Fx.agg159 aQ Z)<|.gd Z Z<|.yw (.fieldAddr Z Fx.field162_2)<|.gd Z Z<|.yw (.load Z Fx.agg159 (.head _) Z)<|.gd Z Z<|.yw (.call Fx.call124 Z (fun W s=>BA H 125 Fx.call125 a.body b.body (fun x _=>xM H x) _ _ k2 g2 W s.agr))<|.yw (.pickT Z Z)<|.a Z Z<|.nt<|.rt<|?_
   refine Sx.ret1 (.inl rfl) rfl (.tmp rfl) fun W s=>⟨aZ ?_,s.ext⟩
   first
    | (rw [aA,aA,rM];exact ⟨fun d=>⟨e1,e2,d⟩,fun h=>h.2.2⟩)
    | (rw [aA,rM];exact ⟨fun h=>(by cases h),fun h=>absurd h.1 e1⟩)
    | (rw [aA,rM];exact ⟨fun h=>(by cases h),fun h=>absurd h.2.1 e2⟩)
  try simp only [df] at h17
  have e2:=kS.1 h17;refine .gG<|.gG<|.gG<|.gG<|.gG<|.yw (.pickF Z Z)<|.a Z Z<|.nt<|.rt<|?_
  refine Sx.ret1 (.inl rfl) rfl (.tmp rfl) fun W s=>⟨aZ ?_,s.ext⟩
  first
   | (rw [aA,aA,rM];exact ⟨fun d=>⟨e1,e2,d⟩,fun h=>h.2.2⟩)
   | (rw [aA,rM];exact ⟨fun h=>(by cases h),fun h=>absurd h.1 e1⟩)
   | (rw [aA,rM];exact ⟨fun h=>(by cases h),fun h=>absurd h.2.1 e2⟩)
 try simp only [df] at h10
 have e1:=(id h10:¬ a.nm=b.nm);refine .gG<|.gG<|.gG<|.gG<|.gG<|.yw (.pickF Z Z)<|.mv Z<|.gG<|.gG<|.gG<|.gG<|.gG<|.yw (.pickF Z Z)<|.a Z Z<|.nt<|.rt<|?_
 refine Sx.ret1 (.inl rfl) rfl (.tmp rfl) fun W s=>⟨aZ ?_,s.ext⟩
 first
  | (rw [aA,aA,rM];exact ⟨fun d=>⟨e1,e2,d⟩,fun h=>h.2.2⟩)
  | (rw [aA,rM];exact ⟨fun h=>(by cases h),fun h=>absurd h.1 e1⟩)
  | (rw [aA,rM];exact ⟨fun h=>(by cases h),fun h=>absurd h.2.1 e2⟩)
theorem SQ (H:Hp) (gf:FuncId) (hgf:aK Tryz.prog gf=true) (l m:List (List Hd)) (hq:∀ a∈l,∀ b,xA gf (dVs .u8) H a b) (v u:Value) (hs:Rep H (.seq 1 (l.map (dVs .u8))) [v]) (ht:Rep H (.seq 1 (m.map (dVs .u8))) [u]) (w:World) (hA:Agr H w) :
 Calls Tryz.prog 79 #[v,u,.func (.func gf) #[] #[]] w fun r w'=>r=.returned (.bool (eqP (l=m)))∧Ext w w':=by
 obtain ⟨p,c,e,_⟩:=hs.sl;simp only [List.cons.injEq,and_true,List.length_map] at e;subst e;obtain ⟨p2,c2,e,_⟩:=ht.sl;simp only [List.cons.injEq,and_true,List.length_map] at e;subst e;have hcap:=hs.cap;have hcap2:=ht.cap;refine Sx.enter (H:=H) Tryz.func79 rfl Tryz.ntmps79 rfl hA ?_;refine .sr<|.a Z Z<|.nt<|.sq<|.sr<|.mv Z<|.yw (.lenSl Fx.sl108 Z)<|.mv Z<|.yw (.lenSl Fx.sl108 Z)<|.yw (.neq Z Z)<|.nt<|.cd Z (fun h14=>?_) (fun h14=>?_)
 ·try simp only [dt] at h14
  have hne:¬ l=m:=fun e=>by rw [e] at h14;exact h14 rfl
  refine .sr<|.a Z Z<|.nt<|.rt<|.tR<|?_
  refine Sx.ret1 (.inl rfl) rfl (.tmp rfl) fun W s=>⟨aZ ?_,s.ext⟩
  first
   | (rw [aA];exact ⟨fun h=>(by cases h),fun h=>absurd h hne⟩)
   | (rw [aA];exact ⟨fun _=>heq,fun _=>rfl⟩)
 try simp only [df] at h14
 have hlen:l.length=m.length:=by omega
 refine .sk<|.tN<|.sq<|.sr<|.mv Z<|.yw (.lenSl Fx.sl108 Z)<|.mv Z<|.nt<|.bk<|.lp (X:=Nat) [(1,_),(2,_),(15,_),(16,_)] ⟨rfl,rfl,rfl,rfl,trivial⟩ [] (fun k=>[(17,.int .i64 (k:Nat))]) (fun k=>H) (fun k=>[]) (fun k=>k≤l.length∧l.take k=m.take k) (fun k=>l.length - k) 0 (fun _ s=>s) ⟨rfl,trivial⟩ ⟨by omega,rfl⟩ fun k hC=>?_
 obtain ⟨hk0,hal⟩:=hC;refine .sr<|.yw (.lss Z Z)<|.nt<|.sq<|.cd Z (fun h18=>?_) (fun h18=>?_)
 ·try simp only [dt] at h18
  have hk:k<l.length:=by omega
  have hkm:k<m.length:=by omega
  obtain ⟨bE,oE,cE,hpE,rE,lE,mE⟩:=hs.elem (aR hk);cases hpE;obtain ⟨bF,oF,cF,hpF,rF,lF,mF⟩:=ht.elem (aR hkm);cases hpF;refine .sk<|.tN<|.sq<|.bk<|.sr<|.mv Z<|.yw (.indexSl Fx.sl108 Z Z Z (by omega) (q:=oE+k * 1) Z)<|.yw (.loadMW Z Fx.agg155 mE lE)<|.al Fx.zero155 Z fun b8=>.a Z Z<|.sV .head Z Z Fx.size155 lE rE.one Z<|.ns<|.mv Z<|.mv Z<|.yw (.indexSl Fx.sl108 Z Z Z (by omega) (q:=oF+k * 1) Z)<|.yw (.loadMW Z Fx.agg155 mF lF)<|.al Fx.zero155 Z fun b9=>.sV .head Z Z Fx.size155 lF rF.one Z<|.ns<|.mv Z<|.yw (.loadW Z Fx.agg155 aQ lE)<|.yw (.loadW Z Fx.agg155 (.head _) lF)<|.yw (.callV (fi:=[]) (ca:=[]) Z hgf Z (fun W s=>hq _ (List.getElem_mem hk) _ cE cF W rE rF s.agr))<|.yw (.not Z)<|.nt<|.cd Z (fun h30=>?_) (fun h30=>?_)
  ·try simp only [dt] at h30
   have hne:¬ l=m:=fun e=>by subst e;rw [aA.2 rfl] at h30;cases h30
   refine .sr<|.a Z Z<|.nt<|.rt<|.bR<|.tR<|.tR<|.bR<|.tR<|?_
   refine Sx.ret1 (.inl rfl) rfl (.tmp rfl) fun W s=>⟨aZ ?_,s.ext⟩
   first
    | (rw [aA];exact ⟨fun h=>(by cases h),fun h=>absurd h hne⟩)
    | (rw [aA];exact ⟨fun _=>heq,fun _=>rfl⟩)
  try simp only [df] at h30
  have heq:l[k]=m[k]:=aA.1 (by simpa using h30);exact .sk<|.bN<|.tN<|.rg<|.yw (.add Z Z (w6 (by omega)))<|.mv Z<|.nt<|.ag (k+1) ⟨rfl,trivial⟩ ⟨rfl,rfl,rfl,rfl,trivial⟩ (fun _ s=>s.pick [] [] Z Z) ⟨by omega,fA hk hkm hal heq⟩ (by omega)
 try simp only [df] at h18
 have heq:l=m:=by
  have e:k=l.length:=by omega
  have e2:k=m.length:=by omega
  have h1:=hal;rw [e,List.take_length,hlen,List.take_length] at h1;exact h1
 refine .ex<|.tE<|.tE<|.bE<|.tN<|.sr<|.a Z Z<|.nt<|.rt<|?_
 refine Sx.ret1 (.inl rfl) rfl (.tmp rfl) fun W s=>⟨aZ ?_,s.ext⟩
 first
  | (rw [aA];exact ⟨fun h=>(by cases h),fun h=>absurd h hne⟩)
  | (rw [aA];exact ⟨fun _=>heq,fun _=>rfl⟩)
theorem sS (H:Hp) (a b:List Hd):xA 80 (dVs .u8) H a b:=by
 intro ca cb w ha hb hA;obtain ⟨p1,c1,rfl,k1⟩:=oP ha;obtain ⟨q1,d1,rfl,g1⟩:=oP hb;refine Sx.enter (H:=H) Tryz.func80 rfl Tryz.ntmps80 rfl hA ?_;refine .sr<|.bx Z Z Z fun b2=>.bx Z Z Z fun b3=>.a Z Z<|.ns<|.yw (.fieldAddr Z Fx.field155_0)<|.yw (.load Z Fx.agg153 aQ Z)<|.yw (.fieldAddr Z Fx.field155_0)<|.yw (.load Z Fx.agg153 (.head _) Z)<|.yw (.call Fx.call81 Z (fun W s=>SR H 82 Fx.call82 a b (fun x _=>sT H x) _ _ k1 g1 W s.agr))<|.a Z Z<|.nt<|.rt<|?_
 exact Sx.ret1 (.inl rfl) rfl (.tmp rfl) fun W s=>⟨rfl,s.ext⟩
theorem qS (H:Hp) (a b:Cp):xA 42 (dCp .u8) H a b:=by
 intro ca cb w ha hb hA;obtain ⟨p1,c1,p2,c2,rfl,_,k1,k2⟩:=lT ha;obtain ⟨q1,d1,q2,d2,rfl,_,g1,g2⟩:=lT hb;refine Sx.enter (H:=H) Tryz.func42 rfl Tryz.ntmps42 rfl hA ?_;refine .sr<|.bx Z Z Z fun b2=>.bx Z Z Z fun b3=>.a Z Z<|.ns<|.yw (.fieldAddr Z Fx.field110_0)<|.yw (.load Z Fx.agg9 aQ Z)<|.yw (.fieldAddr Z Fx.field110_0)<|.yw (.load Z Fx.agg9 (.head _) Z)<|.yw (.eqS Z Z)<|.mv Z<|.b2 (fun h10=>?_) (fun h10=>?_)
 ·try simp only [dt] at h10
  have e1:=(id h10:a.nm=b.nm);refine .gd Z Z<|.yw (.fieldAddr Z Fx.field110_1)<|.gd Z Z<|.yw (.load Z Fx.agg107 aQ Z)<|.gd Z Z<|.yw (.fieldAddr Z Fx.field110_1)<|.gd Z Z<|.yw (.load Z Fx.agg107 (.head _) Z)<|.gd Z Z<|.yw (.call Fx.call78 Z (fun W s=>WY H a.vars b.vars _ _ k1 g1 W s.agr))<|.yw (.pickT Z Z)<|.mv Z<|.b2 (fun h17=>?_) (fun h17=>?_)
  ·try simp only [dt] at h17
   have e2:=aA.1 h17;refine .gd Z Z<|.yw (.fieldAddr Z Fx.field110_2)<|.gd Z Z<|.yw (.load Z Fx.agg108 aQ Z)<|.gd Z Z<|.yw (.fieldAddr Z Fx.field110_2)<|.gd Z Z<|.yw (.load Z Fx.agg108 (.head _) Z)<|.gd Z Z<|.yw (.call Fx.call79 Z (fun W s=>SQ H 80 Fx.call80 a.vers b.vers (fun x _=>sS H x) _ _ k2 g2 W s.agr))<|.yw (.pickT Z Z)<|.a Z Z<|.nt<|.rt<|?_
   refine Sx.ret1 (.inl rfl) rfl (.tmp rfl) fun W s=>⟨aZ ?_,s.ext⟩
   first
    | (rw [aA,aA,rT];exact ⟨fun d=>⟨e1,e2,d⟩,fun h=>h.2.2⟩)
    | (rw [aA,rT];exact ⟨fun h=>(by cases h),fun h=>absurd h.1 e1⟩)
    | (rw [aA,rT];exact ⟨fun h=>(by cases h),fun h=>absurd h.2.1 e2⟩)
  try simp only [df] at h17
  have e2:=kS.1 h17;refine .gG<|.gG<|.gG<|.gG<|.gG<|.yw (.pickF Z Z)<|.a Z Z<|.nt<|.rt<|?_
  refine Sx.ret1 (.inl rfl) rfl (.tmp rfl) fun W s=>⟨aZ ?_,s.ext⟩
  first
   | (rw [aA,aA,rT];exact ⟨fun d=>⟨e1,e2,d⟩,fun h=>h.2.2⟩)
   | (rw [aA,rT];exact ⟨fun h=>(by cases h),fun h=>absurd h.1 e1⟩)
   | (rw [aA,rT];exact ⟨fun h=>(by cases h),fun h=>absurd h.2.1 e2⟩)
 try simp only [df] at h10
 have e1:=(id h10:¬ a.nm=b.nm);refine .gG<|.gG<|.gG<|.gG<|.gG<|.yw (.pickF Z Z)<|.mv Z<|.gG<|.gG<|.gG<|.gG<|.gG<|.yw (.pickF Z Z)<|.a Z Z<|.nt<|.rt<|?_
 refine Sx.ret1 (.inl rfl) rfl (.tmp rfl) fun W s=>⟨aZ ?_,s.ext⟩
 first
  | (rw [aA,aA,rT];exact ⟨fun d=>⟨e1,e2,d⟩,fun h=>h.2.2⟩)
  | (rw [aA,rT];exact ⟨fun h=>(by cases h),fun h=>absurd h.1 e1⟩)
  | (rw [aA,rT];exact ⟨fun h=>(by cases h),fun h=>absurd h.2.1 e2⟩)
theorem SS (H:Hp) (gf:FuncId) (hgf:aK Tryz.prog gf=true) (l m:List Cp) (hq:∀ a∈l,∀ b,xA gf (dCp .u8) H a b) (v u:Value) (hs:Rep H (.seq 3 (l.map (dCp .u8))) [v]) (ht:Rep H (.seq 3 (m.map (dCp .u8))) [u]) (w:World) (hA:Agr H w) :
 Calls Tryz.prog 41 #[v,u,.func (.func gf) #[] #[]] w fun r w'=>r=.returned (.bool (eqP (l=m)))∧Ext w w':=by
 obtain ⟨p,c,e,_⟩:=hs.sl;simp only [List.cons.injEq,and_true,List.length_map] at e;subst e;obtain ⟨p2,c2,e,_⟩:=ht.sl;simp only [List.cons.injEq,and_true,List.length_map] at e;subst e;have hcap:=hs.cap;have hcap2:=ht.cap;refine Sx.enter (H:=H) Tryz.func41 rfl Tryz.ntmps41 rfl hA ?_;refine .sr<|.a Z Z<|.nt<|.sq<|.sr<|.mv Z<|.yw (.lenSl Fx.sl47 Z)<|.mv Z<|.yw (.lenSl Fx.sl47 Z)<|.yw (.neq Z Z)<|.nt<|.cd Z (fun h14=>?_) (fun h14=>?_)
 ·try simp only [dt] at h14
  have hne:¬ l=m:=fun e=>by rw [e] at h14;exact h14 rfl
  refine .sr<|.a Z Z<|.nt<|.rt<|.tR<|?_
  refine Sx.ret1 (.inl rfl) rfl (.tmp rfl) fun W s=>⟨aZ ?_,s.ext⟩
  first
   | (rw [aA];exact ⟨fun h=>(by cases h),fun h=>absurd h hne⟩)
   | (rw [aA];exact ⟨fun _=>heq,fun _=>rfl⟩)
 try simp only [df] at h14
 have hlen:l.length=m.length:=by omega
 refine .sk<|.tN<|.sq<|.sr<|.mv Z<|.yw (.lenSl Fx.sl47 Z)<|.mv Z<|.nt<|.bk<|.lp (X:=Nat) [(1,_),(2,_),(15,_),(16,_)] ⟨rfl,rfl,rfl,rfl,trivial⟩ [] (fun k=>[(17,.int .i64 (k:Nat))]) (fun k=>H) (fun k=>[]) (fun k=>k≤l.length∧l.take k=m.take k) (fun k=>l.length - k) 0 (fun _ s=>s) ⟨rfl,trivial⟩ ⟨by omega,rfl⟩ fun k hC=>?_
 obtain ⟨hk0,hal⟩:=hC;refine .sr<|.yw (.lss Z Z)<|.nt<|.sq<|.cd Z (fun h18=>?_) (fun h18=>?_)
 ·try simp only [dt] at h18
  have hk:k<l.length:=by omega
  have hkm:k<m.length:=by omega
  obtain ⟨bE,oE,cE,hpE,rE,lE,mE⟩:=hs.elem (aR hk);cases hpE;obtain ⟨bF,oF,cF,hpF,rF,lF,mF⟩:=ht.elem (aR hkm);cases hpF;refine .sk<|.tN<|.sq<|.bk<|.sr<|.mv Z<|.yw (.indexSl Fx.sl47 Z Z Z (by omega) (q:=oE+k * 3) Z)<|.yw (.loadMW Z Fx.agg110 mE lE)<|.al Fx.zero110 Z fun b8=>.a Z Z<|.sV .head Z Z Fx.size110 lE rE.one Z<|.ns<|.mv Z<|.mv Z<|.yw (.indexSl Fx.sl47 Z Z Z (by omega) (q:=oF+k * 3) Z)<|.yw (.loadMW Z Fx.agg110 mF lF)<|.al Fx.zero110 Z fun b9=>.sV .head Z Z Fx.size110 lF rF.one Z<|.ns<|.mv Z<|.yw (.loadW Z Fx.agg110 aQ lE)<|.yw (.loadW Z Fx.agg110 (.head _) lF)<|.yw (.callV (fi:=[]) (ca:=[]) Z hgf Z (fun W s=>hq _ (List.getElem_mem hk) _ cE cF W rE rF s.agr))<|.yw (.not Z)<|.nt<|.cd Z (fun h30=>?_) (fun h30=>?_)
  ·try simp only [dt] at h30
   have hne:¬ l=m:=fun e=>by subst e;rw [aA.2 rfl] at h30;cases h30
   refine .sr<|.a Z Z<|.nt<|.rt<|.bR<|.tR<|.tR<|.bR<|.tR<|?_
   refine Sx.ret1 (.inl rfl) rfl (.tmp rfl) fun W s=>⟨aZ ?_,s.ext⟩
   first
    | (rw [aA];exact ⟨fun h=>(by cases h),fun h=>absurd h hne⟩)
    | (rw [aA];exact ⟨fun _=>heq,fun _=>rfl⟩)
  try simp only [df] at h30
  have heq:l[k]=m[k]:=aA.1 (by simpa using h30);exact .sk<|.bN<|.tN<|.rg<|.yw (.add Z Z (w6 (by omega)))<|.mv Z<|.nt<|.ag (k+1) ⟨rfl,trivial⟩ ⟨rfl,rfl,rfl,rfl,trivial⟩ (fun _ s=>s.pick [] [] Z Z) ⟨by omega,fA hk hkm hal heq⟩ (by omega)
 try simp only [df] at h18
 have heq:l=m:=by
  have e:k=l.length:=by omega
  have e2:k=m.length:=by omega
  have h1:=hal;rw [e,List.take_length,hlen,List.take_length] at h1;exact h1
 refine .ex<|.tE<|.tE<|.bE<|.tN<|.sr<|.a Z Z<|.nt<|.rt<|?_
 refine Sx.ret1 (.inl rfl) rfl (.tmp rfl) fun W s=>⟨aZ ?_,s.ext⟩
 first
  | (rw [aA];exact ⟨fun h=>(by cases h),fun h=>absurd h hne⟩)
  | (rw [aA];exact ⟨fun _=>heq,fun _=>rfl⟩)
theorem LA (H:Hp) (a b:Ft):xA 20 (dFt .u8) H a b:=by
 intro ca cb w ha hb hA;obtain ⟨p1,c1,p2,c2,p3,c3,rfl,_,k1,k2,k3⟩:=jT ha;obtain ⟨q1,d1,q2,d2,q3,d3,rfl,_,g1,g2,g3⟩:=jT hb;refine Sx.enter (H:=H) Tryz.func20 rfl Tryz.ntmps20 rfl hA ?_;refine .sr<|.bx Z Z Z fun b2=>.bx Z Z Z fun b3=>.a Z Z<|.ns<|.yw (.fieldAddr Z Fx.field49_0)<|.yw (.load Z Fx.agg9 aQ Z)<|.yw (.fieldAddr Z Fx.field49_0)<|.yw (.load Z Fx.agg9 (.head _) Z)<|.yw (.eqS Z Z)<|.mv Z<|.b2 (fun h10=>?_) (fun h10=>?_)
 ·try simp only [dt] at h10
  have e1:=(id h10:a.nm=b.nm);refine .gd Z Z<|.yw (.fieldAddr Z Fx.field49_1)<|.gd Z Z<|.yw (.load Z Fx.agg45 aQ Z)<|.gd Z Z<|.yw (.fieldAddr Z Fx.field49_1)<|.gd Z Z<|.yw (.load Z Fx.agg45 (.head _) Z)<|.gd Z Z<|.yw (.call Fx.call39 Z (fun W s=>XB H a.flags b.flags _ _ k1 g1 W s.agr))<|.yw (.pickT Z Z)<|.mv Z<|.b2 (fun h17=>?_) (fun h17=>?_)
  ·try simp only [dt] at h17
   have e2:=aA.1 h17;refine .gd Z Z<|.yw (.fieldAddr Z Fx.field49_2)<|.gd Z Z<|.yw (.load Z Fx.agg46 aQ Z)<|.gd Z Z<|.yw (.fieldAddr Z Fx.field49_2)<|.gd Z Z<|.yw (.load Z Fx.agg46 (.head _) Z)<|.gd Z Z<|.yw (.call Fx.call40 Z (fun W s=>XA H a.links b.links _ _ k2 g2 W s.agr))<|.yw (.pickT Z Z)<|.mv Z<|.b2 (fun h24=>?_) (fun h24=>?_)
   ·try simp only [dt] at h24
    have e3:=aA.1 h24;refine .gd Z Z<|.yw (.fieldAddr Z Fx.field49_3)<|.gd Z Z<|.yw (.load Z Fx.agg47 aQ Z)<|.gd Z Z<|.yw (.fieldAddr Z Fx.field49_3)<|.gd Z Z<|.yw (.load Z Fx.agg47 (.head _) Z)<|.gd Z Z<|.yw (.call Fx.call41 Z (fun W s=>SS H 42 Fx.call42 a.comps b.comps (fun x _=>qS H x) _ _ k3 g3 W s.agr))<|.yw (.pickT Z Z)<|.a Z Z<|.nt<|.rt<|?_
    refine Sx.ret1 (.inl rfl) rfl (.tmp rfl) fun W s=>⟨aZ ?_,s.ext⟩
    first
     | (rw [aA,aA,kG];exact ⟨fun d=>⟨e1,e2,e3,d⟩,fun h=>h.2.2.2⟩)
     | (rw [aA,kG];exact ⟨fun h=>(by cases h),fun h=>absurd h.1 e1⟩)
     | (rw [aA,kG];exact ⟨fun h=>(by cases h),fun h=>absurd h.2.1 e2⟩)
     | (rw [aA,kG];exact ⟨fun h=>(by cases h),fun h=>absurd h.2.2.1 e3⟩)
   try simp only [df] at h24
   have e3:=kS.1 h24;refine .gG<|.gG<|.gG<|.gG<|.gG<|.yw (.pickF Z Z)<|.a Z Z<|.nt<|.rt<|?_
   refine Sx.ret1 (.inl rfl) rfl (.tmp rfl) fun W s=>⟨aZ ?_,s.ext⟩
   first
    | (rw [aA,aA,kG];exact ⟨fun d=>⟨e1,e2,e3,d⟩,fun h=>h.2.2.2⟩)
    | (rw [aA,kG];exact ⟨fun h=>(by cases h),fun h=>absurd h.1 e1⟩)
    | (rw [aA,kG];exact ⟨fun h=>(by cases h),fun h=>absurd h.2.1 e2⟩)
    | (rw [aA,kG];exact ⟨fun h=>(by cases h),fun h=>absurd h.2.2.1 e3⟩)
  try simp only [df] at h17
  have e2:=kS.1 h17;refine .gG<|.gG<|.gG<|.gG<|.gG<|.yw (.pickF Z Z)<|.mv Z<|.gG<|.gG<|.gG<|.gG<|.gG<|.yw (.pickF Z Z)<|.a Z Z<|.nt<|.rt<|?_
  refine Sx.ret1 (.inl rfl) rfl (.tmp rfl) fun W s=>⟨aZ ?_,s.ext⟩
  first
   | (rw [aA,aA,kG];exact ⟨fun d=>⟨e1,e2,e3,d⟩,fun h=>h.2.2.2⟩)
   | (rw [aA,kG];exact ⟨fun h=>(by cases h),fun h=>absurd h.1 e1⟩)
   | (rw [aA,kG];exact ⟨fun h=>(by cases h),fun h=>absurd h.2.1 e2⟩)
   | (rw [aA,kG];exact ⟨fun h=>(by cases h),fun h=>absurd h.2.2.1 e3⟩)
 try simp only [df] at h10
 have e1:=(id h10:¬ a.nm=b.nm);refine .gG<|.gG<|.gG<|.gG<|.gG<|.yw (.pickF Z Z)<|.mv Z<|.gG<|.gG<|.gG<|.gG<|.gG<|.yw (.pickF Z Z)<|.mv Z<|.gG<|.gG<|.gG<|.gG<|.gG<|.yw (.pickF Z Z)<|.a Z Z<|.nt<|.rt<|?_
 refine Sx.ret1 (.inl rfl) rfl (.tmp rfl) fun W s=>⟨aZ ?_,s.ext⟩
 first
  | (rw [aA,aA,kG];exact ⟨fun d=>⟨e1,e2,e3,d⟩,fun h=>h.2.2.2⟩)
  | (rw [aA,kG];exact ⟨fun h=>(by cases h),fun h=>absurd h.1 e1⟩)
  | (rw [aA,kG];exact ⟨fun h=>(by cases h),fun h=>absurd h.2.1 e2⟩)
  | (rw [aA,kG];exact ⟨fun h=>(by cases h),fun h=>absurd h.2.2.1 e3⟩)
end Go.Proofs.YthhoebdlfjffkaaGreatDoor
namespace Go.Proofs.YthhoebdlfjffkaaGreatDoor
def KE (N:Nat):Sm→Bool
 | .mk _ _ _ ex _ _=>decide (ex.length≤N) && ex.all (Ex.all nG)
structure syL (N:Nat) (l:List Sm):Prop where
 cnt:Sm.counts l≤N
 dep:Sm.deeps l≤N
 all:Sm.alls (KE N) l=true
theorem VF {N:Nat}:∀ s,tV N s=true→KE N s=true
 | .mk kd nm hd ex th el,h=>by
  simp only [tV,KE,Bool.and_eq_true,decide_eq_true_eq,List.all_eq_true] at h ⊢;exact ⟨h.1,fun e he=>by have:=h.2 e he;simp only [okE,Bool.and_eq_true] at this;exact this.2⟩
theorem okL.sy {N:Nat} {l:List Sm} (h:okL N l):syL N l:=⟨h.cnt,h.dep,gT VF l h.all⟩
theorem syL.len {N:Nat} {l:List Sm} (h:syL N l):l.length≤N:=Nat.le_trans (iZ l) h.cnt
theorem syL.left {N:Nat} {a b:List Sm} (h:syL N (a++b)):syL N a:=by
 obtain ⟨h1,h2,h3⟩:=h;rw [eQ] at h1;rw [fF] at h2;rw [fU,Bool.and_eq_true] at h3;exact ⟨by omega,by omega,h3.1⟩
theorem syL.right {N:Nat} {a b:List Sm} (h:syL N (a++b)):syL N b:=by
 obtain ⟨h1,h2,h3⟩:=h;rw [eQ] at h1;rw [fF] at h2;rw [fU,Bool.and_eq_true] at h3;exact ⟨by omega,by omega,h3.2⟩
theorem syL.at {N:Nat} {l:List Sm} (h:syL N l) {j:Nat} (hj:j<l.length):syL N [l[j]]:=by
 have h2:=h;rw [vM hj] at h2;exact h2.right.left
theorem QZ {N:Nat} {kd:UInt8} {nm hd:Str} {ex:List Ex} {th el:List Sm} (h:syL N [.mk kd nm hd ex th el]):Sm.counts th+Sm.counts el+1≤N∧Sm.deeps th+1≤N∧Sm.deeps el+1≤N∧ex.length≤N∧ex.all (Ex.all nG)=true∧Sm.alls (KE N) th=true∧Sm.alls (KE N) el=true:=by
 obtain ⟨h1,h2,h3⟩:=h;simp only [Sm.counts,dR] at h1;simp only [Sm.deeps,iY] at h2;simp only [Sm.alls,fB,KE,Bool.and_eq_true,decide_eq_true_eq] at h3;exact ⟨by omega,by omega,by omega,h3.1.1.1.1,h3.1.1.1.2,h3.1.1.2,h3.1.2⟩
structure YI (N:Nat) (h:Hd):Prop where
 ps:h.ps.length≤N
 body:syL N h.body
structure YH (N:Nat) (v:List Hd):Prop where
 len:v.length≤N
 all:∀ h∈v,YI N h
structure YJ (N:Nat) (c:Cp):Prop where
 vars:c.vars.length≤N
 vers:c.vers.length≤N
 all:∀ v∈c.vers,YH N v
structure UQ (N:Nat) (f:Ft):Prop where
 flags:f.flags.length≤N
 links:f.links.length≤N
 comps:f.comps.length≤N
 all:∀ c∈f.comps,YJ N c
theorem CY.sy {N:Nat} {f:Ft} (h:CY N f):UQ N f :=
 ⟨h.flags,h.links,h.comps,fun c hc=>⟨(h.all c hc).vars,(h.all c hc).vers,fun v hv=>⟨((h.all c hc).all v hv).len,fun x hx=>⟨(((h.all c hc).all v hv).all x hx).ps,(((h.all c hc).all v hv).all x hx).body.sy⟩⟩⟩⟩
end Go.Proofs.YthhoebdlfjffkaaGreatDoor
namespace Go.Proofs.YthhoebdlfjffkaaGreatDoor
open Go.RowKit Go.Par Go.Sx
set_option maxHeartbeats 2000000 in
theorem PV (N:Nat) (hN:N≤1000000):∀ (l:List Sm),syL N l→∀ (H:Hp) (v:Value) (w:World),Rep H (.seq 6 (l.map (dSm .i64))) [v]→Agr H w →
 Calls Tryz.prog 60 #[v] w fun r w'=>∃ (y:Value) (H':Hp),Rep H' (.seq 6 (l.map (dSm .u8))) [y]∧r=.returned y∧nB H w H' w':=by
 refine Sm.lists fun l ih=>?_;intro hok H v w hs hA;obtain ⟨p,c,e,_⟩:=hs.sl;simp only [List.cons.injEq,and_true,List.length_map] at e;subst e;have hcap:=hs.cap;have hll:=hok.len;refine Sx.enter (H:=H) Tryz.func60 rfl Tryz.ntmps60 rfl hA ?_;refine .sr<|.a Z Z<|.ns<|.a Z Z<|?_
 refine Sx.row0 208 6 ?_;refine .nt<|.sq<|.sr<|.mv Z<|.yw (.lenSl Fx.sl156 Z)<|.mv Z<|.nt<|.bk<|.lp (X:=Nat × Hp × Value × List Value) [(9,_),(10,_)] ⟨rfl,rfl,trivial⟩ [] (fun z=>[(3,z.2.2.1),(11,.int .i64 (z.1:Nat))]) (fun z=>z.2.1) (fun z=>[.row 208 6 z.2.2.1 z.1 z.2.2.2]) (fun z=>z.1≤l.length∧HUp w H z.2.1∧aN z.2.1 6 ((l.take z.1).map (dSm .u8)) z.2.2.2) (fun z=>l.length - z.1) (0,H,.slice none 0 0,[]) (fun _ s=>s) ⟨rfl,rfl,trivial⟩ ⟨by simp,.refl,aN.nil⟩ fun z hC=>?_
 obtain ⟨k,H1,r,xs⟩:=z;dsimp only at hC ⊢;obtain ⟨hk0,u1,hz⟩:=hC;refine .sr<|.yw (.lss Z Z)<|.nt<|.sq<|.cd Z (fun h12=>?_) (fun h12=>?_)
 ·try simp only [dt] at h12
  have hk:k<l.length:=by omega
  obtain ⟨bE,oE,cE,hpE,rE,lE,mE⟩:=(hs.up u1.up).elem (aR (f:=dSm .i64) hk);cases hpE;have hi:=ih _ (List.getElem_mem hk);have hka:=hok.at hk;generalize hx:l[k]=x at rE hi hka;obtain ⟨kd,nm,hd,ex,th,el⟩:=x;obtain ⟨p1,c1,p2,c2,p3,c3,rfl,hs1,hs2,hs3,hn1,hn2⟩:=iJ rE;simp only [Sm.th,Sm.el] at hi;obtain ⟨k1,k2,k3,k4,k5,k6,k7⟩:=QZ hka;have hit:=hi.1 ⟨by omega,by omega,k6⟩;have hie:=hi.2 ⟨by omega,by omega,k7⟩;have hcap1:=hs1.cap;refine .sk<|.tN<|.sq<|.bk<|.sr<|.yw (.indexSl Fx.sl156 Z Z Z (by omega) (q:=oE+k * 6) Z)<|.yw (.loadMW Z Fx.agg205 mE Z)<|.al Fx.zero205 Z fun b5=>.sW .head Z Z Fx.size205 (by simp [Value.oneCell',aD]) Z<|.nt<|.sq<|.ft (p:=.light _ _ (.light _ _ (.light _ _ (.light _ _ (.light _ _ (.light _ _ (.light _ _ (.light _ _ (.light _ _ (.light _ _ (.light _ _ (.alt _ _ _ (.alt _ _ _ (.light _ _ (.alt _ _ _ (.done) (.no))) (.alt _ _ _ (.alt _ _ _ (.light _ _ (.done)) (.no)) (.no))) (.alt _ _ _ (.alt _ _ _ (.alt _ _ _ (.light _ _ (.done)) (.no)) (.no)) (.no)))))))))))))) 15 (.light 0 (.light 1 (.light 2 (.light 3 (.light 4 (.light 5 (.light 6 (.light 7 (.light 8 (.light 10 (.light 11 (.alt 9 0 (.alt 12 0 (.light 13 (.alt 14 0 (.done) (.no))) (.alt 14 0 (.alt 12 0 (.light 13 (.done)) (.no)) (.no))) (.alt 14 0 (.alt 9 0 (.alt 12 0 (.light 13 (.done)) (.no)) (.no)) (.no)))))))))))))) (by kernel_rfl) (by kernel_rfl) Z<|.yw (.fieldAddr Z Fx.field205_0)<|.yw (.load Z Fx.agg3 (.head _) Z)<|.yw (.conv Z Fx.int3 Fx.int206 (c:=(kd.toNat:Nat)) (by have:=kd.toNat_lt;simp only [IntKind.wrap,IntKind.signed,IntKind.bits];simp;omega))<|.yw (.fieldAddr Z Fx.field205_1)<|.yw (.load Z Fx.agg9 (.head _) Z)<|.yw (.fieldAddr Z Fx.field205_2)<|.yw (.load Z Fx.agg9 (.head _) Z)<|.yw (.fieldAddr Z Fx.field205_4)<|.yw (.load Z Fx.agg156 (.head _) Z)<|.yw (.fieldAddr Z Fx.field205_5)<|.yw (.load Z Fx.agg156 (.head _) Z)<|.h ?_ (.h ?_ .nn)
  ·
   refine .ct (X:=Value) Fx.call60 Z (fun W s=>hit H1 _ W hs2 s.agr) Z fun y24 H24 hy24 u24=>?_;obtain ⟨q24,d24,e24,_⟩:=hy24.sl;simp only [List.cons.injEq,and_true,List.length_map] at e24;subst e24;refine .h ?_ (.h ?_ .nn)
   ·
    refine .ct (X:=Value) Fx.call60 Z (fun W s=>hie H24 _ W (hs3.up u24.up) s.agr) Z fun y27 H27 hy27 u27=>?_;obtain ⟨q27,d27,e27,_⟩:=hy27.sl;simp only [List.cons.injEq,and_true,List.length_map] at e27;subst e27;have u5:=u24.trans u27;have hs1b:=hs1.up u5.up;have hy24b:=hy24.up u27.up;refine .yw (.build Z (Fx.bld208_0_1_2_4_5 _ _ _ _ _ _ _ _ _))<|.h1<|.al Fx.zero208 Z fun b6=>.fn (tl:=[_]) Z<|.sW .head Z Z Fx.size208 (by simp [Value.oneCell',aD]) Z<|.nt<|.sq<|.sr<|.yw (.fieldAddr Z Fx.field205_3)<|.yw (.load Z Fx.agg31 aQ Z)<|.yw (.lenSl Fx.sl31 Z)<|.mv Z<|?_
    refine Sx.row0 27 4 ?_;refine .nt<|.bk<|.lp (X:=Nat × Hp × Value × List Value) [(3,_),(6,_),(9,_),(10,_),(11,_),(30,_),(31,_)] ⟨rfl,rfl,rfl,rfl,rfl,rfl,rfl,trivial⟩ [_,_] (fun z=>[(32,.int .i64 (z.1:Nat))]) (fun z=>z.2.1) (fun z=>[.row 27 4 z.2.2.1 z.1 z.2.2.2,.box b6 [.int .u8 kd.toNat,aD nm,aD hd,z.2.2.1,.slice q24 th.length d24,.slice q27 el.length d27] 208]) (fun z=>z.1≤ex.length∧HUp w H27 z.2.1∧aN z.2.1 4 ((ex.take z.1).map (dEx .u8)) z.2.2.2) (fun z=>ex.length - z.1) (0,H27,.slice none 0 0,[]) (fun _ s=>s) ⟨rfl,trivial⟩ ⟨by simp,.refl,aN.nil⟩ fun z hC=>?_
    obtain ⟨j,H3,re,ys⟩:=z;dsimp only at hC ⊢;obtain ⟨hj0,u3,hze⟩:=hC;refine .sr<|.yw (.lss Z Z)<|.nt<|.sq<|.cd Z (fun h33=>?_) (fun h33=>?_)
    ·try simp only [dt] at h33
     have hj:j<ex.length:=by omega
     obtain ⟨bF,oF,cF,hpF,rF,lF,mF⟩:=(hs1b.up u3.up).elem (aR (f:=dEx .i64) hj);cases hpF;have hnj:Ex.all nG ex[j]=true:=List.all_eq_true.1 k5 _ (List.getElem_mem hj);refine .sk<|.tN<|.sq<|.bk<|.sr<|.yw (.indexSl Fx.sl31 Z Z Z (by omega) (q:=oF+j * 4) Z)<|.yw (.loadMW Z Fx.agg33 mF lF)<|.al Fx.zero33 Z fun b8=>.sV .head Z Z Fx.size33 lF rF.one Z<|.nt<|.fL 5 [(0,0),(1,0),(2,0),(3,1),(4,1)]<|.yw (.fieldAddr Z Fx.field208_3)<|.yw (.load Z Fx.agg25 cK Z)<|.yw (.loadW Z Fx.agg33 (.head _) lF)<|.ct (X:=List Value) Fx.call14 Z (fun W s=>wP _ hnj H3 cF W rF s.agr) Z fun x39 H39 hx39 u39=>?_
     generalize hxj:ex[j]=xj at hx39;obtain ⟨op2,nm2,n2,jL⟩:=xj;obtain ⟨pz,cz,rfl,hz2,hnm2⟩:=bY hx39;exact .bl Z (Fx.bsl25_1 _ _ _ _) Z fun b40=>.fn (tl:=[_,_,_]) Z<|.ap (news:=[.int .u8 op2.toNat,aD nm2,.int .i64 n2.toInt,.slice pz jL.length cz]) Fx.row25 Z (fun _=>cL) Z (.box (.head _) z0) Z (by simp [Value.oneCell',aD]) (by simp [maxLen];omega) (by omega) Z fun r41 _=>.ra cK fun p41 c41 e41=>.yw (.fieldAddr Z Fx.field208_3)<|.st fS Z Z Fx.size25 (by rw [e41];rfl) (nb Z) Z<|.nl<|.bN<|.tN<|.rg<|.yw (.add Z Z (w6 (by omega)))<|.mv Z<|.nt<|.ag (x:=(j,H3,re,ys)) (j+1,H39,r41,ys++[.int .u8 op2.toNat,aD nm2,.int .i64 n2.toInt,.slice pz jL.length cz]) ⟨rfl,trivial⟩ ⟨rfl,rfl,rfl,rfl,rfl,rfl,rfl,trivial⟩ (fun _ s=>(s.pick [2,3,4,5] _ Z Z)) ⟨by dsimp only;omega,u3.trans u39,by dsimp only;rw [bL hj,hxj,List.map_append];exact (hze.up u39.up).snoc hx39 Z⟩ (by dsimp only;omega)
    try simp only [df] at h33
    obtain rfl:j=ex.length:=by omega
    rw [List.take_length] at hze;refine Sx.freezeSeq (ds:=ex.map (dEx .u8)) (by simp) hze fun H3 pX cX u6 eX hX=>?_;subst eX;have uX:=u5.trans (u3.trans u6);have hy24X:=hy24b.up (u3.trans u6).up;have hy27X:=hy27.up (u3.trans u6).up;exact .ex<|.tE<|.tE<|.bE<|.tN<|.rg<|.mv Z<|.yw (.loadW Z Fx.agg208 (.head _) Z)<|.bl Z (Fx.bsl159_1 _ _ _ _ _ _) Z fun b46=>.ap (news:=[.int .u8 kd.toNat,aD nm,aD hd,.slice pX ex.length cX,.slice q24 th.length d24,.slice q27 el.length d27]) Fx.row159 Z (fun _=>fS) Z (.box (.head _) z0) Z (by simp [Value.oneCell',aD]) (by simp [maxLen];omega) (by omega) Z fun r47 _=>.a Z Z<|.nl<|.bN<|.tN<|.rg<|.yw (.add Z Z (w6 (by omega)))<|.mv Z<|.nt<|.ag (x:=(k,H1,r,xs)) (k+1,H3,r47,xs++[.int .u8 kd.toNat,aD nm,aD hd,.slice pX ex.length cX,.slice q24 th.length d24,.slice q27 el.length d27]) ⟨rfl,rfl,trivial⟩ ⟨rfl,rfl,trivial⟩ (fun _ s=>(s.pick [3] _ Z Z)) ⟨by dsimp only;omega,u1.trans uX,by dsimp only;rw [bL hk,hx,List.map_append];exact (hz.up uX.up).snoc (dH (by omega) (by omega) hX hy24X hy27X) Z⟩ (by dsimp only;omega)
   refine .al Fx.zero208 Z fun b6=>.h1<|.ct (X:=Value) Fx.call60 Z (fun W s=>hie H24 _ W (hs3.up u24.up) s.agr) Z fun y27 H27 hy27 u27=>?_
   obtain ⟨q27,d27,e27,_⟩:=hy27.sl;simp only [List.cons.injEq,and_true,List.length_map] at e27;subst e27;have u5:=u24.trans u27;have hs1b:=hs1.up u5.up;have hy24b:=hy24.up u27.up;refine .yw (.build Z (Fx.bld208_0_1_2_4_5 _ _ _ _ _ _ _ _ _))<|.fn (tl:=[_]) Z<|.sW .head Z Z Fx.size208 (by simp [Value.oneCell',aD]) Z<|.nt<|.sq<|.sr<|.yw (.fieldAddr Z Fx.field205_3)<|.yw (.load Z Fx.agg31 aQ Z)<|.yw (.lenSl Fx.sl31 Z)<|.mv Z<|?_
   refine Sx.row0 27 4 ?_;refine .nt<|.bk<|.lp (X:=Nat × Hp × Value × List Value) [(3,_),(6,_),(9,_),(10,_),(11,_),(30,_),(31,_)] ⟨rfl,rfl,rfl,rfl,rfl,rfl,rfl,trivial⟩ [_,_] (fun z=>[(32,.int .i64 (z.1:Nat))]) (fun z=>z.2.1) (fun z=>[.row 27 4 z.2.2.1 z.1 z.2.2.2,.box b6 [.int .u8 kd.toNat,aD nm,aD hd,z.2.2.1,.slice q24 th.length d24,.slice q27 el.length d27] 208]) (fun z=>z.1≤ex.length∧HUp w H27 z.2.1∧aN z.2.1 4 ((ex.take z.1).map (dEx .u8)) z.2.2.2) (fun z=>ex.length - z.1) (0,H27,.slice none 0 0,[]) (fun _ s=>s) ⟨rfl,trivial⟩ ⟨by simp,.refl,aN.nil⟩ fun z hC=>?_
   obtain ⟨j,H3,re,ys⟩:=z;dsimp only at hC ⊢;obtain ⟨hj0,u3,hze⟩:=hC;refine .sr<|.yw (.lss Z Z)<|.nt<|.sq<|.cd Z (fun h33=>?_) (fun h33=>?_)
   ·try simp only [dt] at h33
    have hj:j<ex.length:=by omega
    obtain ⟨bF,oF,cF,hpF,rF,lF,mF⟩:=(hs1b.up u3.up).elem (aR (f:=dEx .i64) hj);cases hpF;have hnj:Ex.all nG ex[j]=true:=List.all_eq_true.1 k5 _ (List.getElem_mem hj);refine .sk<|.tN<|.sq<|.bk<|.sr<|.yw (.indexSl Fx.sl31 Z Z Z (by omega) (q:=oF+j * 4) Z)<|.yw (.loadMW Z Fx.agg33 mF lF)<|.al Fx.zero33 Z fun b8=>.sV .head Z Z Fx.size33 lF rF.one Z<|.nt<|.fL 5 [(0,0),(1,0),(2,0),(3,1),(4,1)]<|.yw (.fieldAddr Z Fx.field208_3)<|.yw (.load Z Fx.agg25 cK Z)<|.yw (.loadW Z Fx.agg33 (.head _) lF)<|.ct (X:=List Value) Fx.call14 Z (fun W s=>wP _ hnj H3 cF W rF s.agr) Z fun x39 H39 hx39 u39=>?_
    generalize hxj:ex[j]=xj at hx39;obtain ⟨op2,nm2,n2,jL⟩:=xj;obtain ⟨pz,cz,rfl,hz2,hnm2⟩:=bY hx39;exact .bl Z (Fx.bsl25_1 _ _ _ _) Z fun b40=>.fn (tl:=[_,_,_]) Z<|.ap (news:=[.int .u8 op2.toNat,aD nm2,.int .i64 n2.toInt,.slice pz jL.length cz]) Fx.row25 Z (fun _=>cL) Z (.box (.head _) z0) Z (by simp [Value.oneCell',aD]) (by simp [maxLen];omega) (by omega) Z fun r41 _=>.ra cK fun p41 c41 e41=>.yw (.fieldAddr Z Fx.field208_3)<|.st fS Z Z Fx.size25 (by rw [e41];rfl) (nb Z) Z<|.nl<|.bN<|.tN<|.rg<|.yw (.add Z Z (w6 (by omega)))<|.mv Z<|.nt<|.ag (x:=(j,H3,re,ys)) (j+1,H39,r41,ys++[.int .u8 op2.toNat,aD nm2,.int .i64 n2.toInt,.slice pz jL.length cz]) ⟨rfl,trivial⟩ ⟨rfl,rfl,rfl,rfl,rfl,rfl,rfl,trivial⟩ (fun _ s=>(s.pick [2,3,4,5] _ Z Z)) ⟨by dsimp only;omega,u3.trans u39,by dsimp only;rw [bL hj,hxj,List.map_append];exact (hze.up u39.up).snoc hx39 Z⟩ (by dsimp only;omega)
   try simp only [df] at h33
   obtain rfl:j=ex.length:=by omega
   rw [List.take_length] at hze;refine Sx.freezeSeq (ds:=ex.map (dEx .u8)) (by simp) hze fun H3 pX cX u6 eX hX=>?_;subst eX;have uX:=u5.trans (u3.trans u6);have hy24X:=hy24b.up (u3.trans u6).up;have hy27X:=hy27.up (u3.trans u6).up;exact .ex<|.tE<|.tE<|.bE<|.tN<|.rg<|.mv Z<|.yw (.loadW Z Fx.agg208 (.head _) Z)<|.bl Z (Fx.bsl159_1 _ _ _ _ _ _) Z fun b46=>.ap (news:=[.int .u8 kd.toNat,aD nm,aD hd,.slice pX ex.length cX,.slice q24 th.length d24,.slice q27 el.length d27]) Fx.row159 Z (fun _=>fS) Z (.box (.head _) z0) Z (by simp [Value.oneCell',aD]) (by simp [maxLen];omega) (by omega) Z fun r47 _=>.a Z Z<|.nl<|.bN<|.tN<|.rg<|.yw (.add Z Z (w6 (by omega)))<|.mv Z<|.nt<|.ag (x:=(k,H1,r,xs)) (k+1,H3,r47,xs++[.int .u8 kd.toNat,aD nm,aD hd,.slice pX ex.length cX,.slice q24 th.length d24,.slice q27 el.length d27]) ⟨rfl,rfl,trivial⟩ ⟨rfl,rfl,trivial⟩ (fun _ s=>(s.pick [3] _ Z Z)) ⟨by dsimp only;omega,u1.trans uX,by dsimp only;rw [bL hk,hx,List.map_append];exact (hz.up uX.up).snoc (dH (by omega) (by omega) hX hy24X hy27X) Z⟩ (by dsimp only;omega)
  refine .al Fx.zero208 Z fun b6=>.h1<|.ct (X:=Value) Fx.call60 Z (fun W s=>hit H1 _ W hs2 s.agr) Z fun y24 H24 hy24 u24=>?_
  obtain ⟨q24,d24,e24,_⟩:=hy24.sl;simp only [List.cons.injEq,and_true,List.length_map] at e24;subst e24;refine .h1<|.ct (X:=Value) Fx.call60 Z (fun W s=>hie H24 _ W (hs3.up u24.up) s.agr) Z fun y27 H27 hy27 u27=>?_
  obtain ⟨q27,d27,e27,_⟩:=hy27.sl;simp only [List.cons.injEq,and_true,List.length_map] at e27;subst e27;have u5:=u24.trans u27;have hs1b:=hs1.up u5.up;have hy24b:=hy24.up u27.up;refine .yw (.build Z (Fx.bld208_0_1_2_4_5 _ _ _ _ _ _ _ _ _))<|.fn (tl:=[_]) Z<|.sW .head Z Z Fx.size208 (by simp [Value.oneCell',aD]) Z<|.nt<|.sq<|.sr<|.yw (.fieldAddr Z Fx.field205_3)<|.yw (.load Z Fx.agg31 aQ Z)<|.yw (.lenSl Fx.sl31 Z)<|.mv Z<|?_
  refine Sx.row0 27 4 ?_;refine .nt<|.bk<|.lp (X:=Nat × Hp × Value × List Value) [(3,_),(6,_),(9,_),(10,_),(11,_),(30,_),(31,_)] ⟨rfl,rfl,rfl,rfl,rfl,rfl,rfl,trivial⟩ [_,_] (fun z=>[(32,.int .i64 (z.1:Nat))]) (fun z=>z.2.1) (fun z=>[.row 27 4 z.2.2.1 z.1 z.2.2.2,.box b6 [.int .u8 kd.toNat,aD nm,aD hd,z.2.2.1,.slice q24 th.length d24,.slice q27 el.length d27] 208]) (fun z=>z.1≤ex.length∧HUp w H27 z.2.1∧aN z.2.1 4 ((ex.take z.1).map (dEx .u8)) z.2.2.2) (fun z=>ex.length - z.1) (0,H27,.slice none 0 0,[]) (fun _ s=>s) ⟨rfl,trivial⟩ ⟨by simp,.refl,aN.nil⟩ fun z hC=>?_
  obtain ⟨j,H3,re,ys⟩:=z;dsimp only at hC ⊢;obtain ⟨hj0,u3,hze⟩:=hC;refine .sr<|.yw (.lss Z Z)<|.nt<|.sq<|.cd Z (fun h33=>?_) (fun h33=>?_)
  ·try simp only [dt] at h33
   have hj:j<ex.length:=by omega
   obtain ⟨bF,oF,cF,hpF,rF,lF,mF⟩:=(hs1b.up u3.up).elem (aR (f:=dEx .i64) hj);cases hpF;have hnj:Ex.all nG ex[j]=true:=List.all_eq_true.1 k5 _ (List.getElem_mem hj);refine .sk<|.tN<|.sq<|.bk<|.sr<|.yw (.indexSl Fx.sl31 Z Z Z (by omega) (q:=oF+j * 4) Z)<|.yw (.loadMW Z Fx.agg33 mF lF)<|.al Fx.zero33 Z fun b8=>.sV .head Z Z Fx.size33 lF rF.one Z<|.nt<|.fL 5 [(0,0),(1,0),(2,0),(3,1),(4,1)]<|.yw (.fieldAddr Z Fx.field208_3)<|.yw (.load Z Fx.agg25 cK Z)<|.yw (.loadW Z Fx.agg33 (.head _) lF)<|.ct (X:=List Value) Fx.call14 Z (fun W s=>wP _ hnj H3 cF W rF s.agr) Z fun x39 H39 hx39 u39=>?_
   generalize hxj:ex[j]=xj at hx39;obtain ⟨op2,nm2,n2,jL⟩:=xj;obtain ⟨pz,cz,rfl,hz2,hnm2⟩:=bY hx39;exact .bl Z (Fx.bsl25_1 _ _ _ _) Z fun b40=>.fn (tl:=[_,_,_]) Z<|.ap (news:=[.int .u8 op2.toNat,aD nm2,.int .i64 n2.toInt,.slice pz jL.length cz]) Fx.row25 Z (fun _=>cL) Z (.box (.head _) z0) Z (by simp [Value.oneCell',aD]) (by simp [maxLen];omega) (by omega) Z fun r41 _=>.ra cK fun p41 c41 e41=>.yw (.fieldAddr Z Fx.field208_3)<|.st fS Z Z Fx.size25 (by rw [e41];rfl) (nb Z) Z<|.nl<|.bN<|.tN<|.rg<|.yw (.add Z Z (w6 (by omega)))<|.mv Z<|.nt<|.ag (x:=(j,H3,re,ys)) (j+1,H39,r41,ys++[.int .u8 op2.toNat,aD nm2,.int .i64 n2.toInt,.slice pz jL.length cz]) ⟨rfl,trivial⟩ ⟨rfl,rfl,rfl,rfl,rfl,rfl,rfl,trivial⟩ (fun _ s=>(s.pick [2,3,4,5] _ Z Z)) ⟨by dsimp only;omega,u3.trans u39,by dsimp only;rw [bL hj,hxj,List.map_append];exact (hze.up u39.up).snoc hx39 Z⟩ (by dsimp only;omega)
  try simp only [df] at h33
  obtain rfl:j=ex.length:=by omega
  rw [List.take_length] at hze;refine Sx.freezeSeq (ds:=ex.map (dEx .u8)) (by simp) hze fun H3 pX cX u6 eX hX=>?_;subst eX;have uX:=u5.trans (u3.trans u6);have hy24X:=hy24b.up (u3.trans u6).up;have hy27X:=hy27.up (u3.trans u6).up;exact .ex<|.tE<|.tE<|.bE<|.tN<|.rg<|.mv Z<|.yw (.loadW Z Fx.agg208 (.head _) Z)<|.bl Z (Fx.bsl159_1 _ _ _ _ _ _) Z fun b46=>.ap (news:=[.int .u8 kd.toNat,aD nm,aD hd,.slice pX ex.length cX,.slice q24 th.length d24,.slice q27 el.length d27]) Fx.row159 Z (fun _=>fS) Z (.box (.head _) z0) Z (by simp [Value.oneCell',aD]) (by simp [maxLen];omega) (by omega) Z fun r47 _=>.a Z Z<|.nl<|.bN<|.tN<|.rg<|.yw (.add Z Z (w6 (by omega)))<|.mv Z<|.nt<|.ag (x:=(k,H1,r,xs)) (k+1,H3,r47,xs++[.int .u8 kd.toNat,aD nm,aD hd,.slice pX ex.length cX,.slice q24 th.length d24,.slice q27 el.length d27]) ⟨rfl,rfl,trivial⟩ ⟨rfl,rfl,trivial⟩ (fun _ s=>(s.pick [3] _ Z Z)) ⟨by dsimp only;omega,u1.trans uX,by dsimp only;rw [bL hk,hx,List.map_append];exact (hz.up uX.up).snoc (dH (by omega) (by omega) hX hy24X hy27X) Z⟩ (by dsimp only;omega)
 try simp only [df] at h12
 obtain rfl:k=l.length:=by omega
 rw [List.take_length] at hz;refine .ex<|.tE<|.tE<|.bE<|.tN<|.sr<|.mv Z<|.a Z Z<|.nt<|.rt<|?_
 refine Sx.freezeSeq (ds:=l.map (dSm .u8)) (by simp) hz fun HZ pZ cZ uZ eZ hZ=>?_;exact Sx.ret1 (.inl rfl) rfl (.tmp rfl) fun W t=>⟨r,HZ,hZ,rfl,(u1.trans uZ).grow t⟩
set_option maxHeartbeats 2000000 in
theorem JI (N:Nat) (hN:N≤1000000) (H:Hp) (f:Ft) (hok:UQ N f) (cs:List Value) (w:World) (h:Rep H (dFt .i64 f) cs) (hA:Agr H w) :
 Calls Tryz.prog 34 #[.agg cs.toArray] w fun r w'=>∃ (y:List Value) (H':Hp),Rep H' (dFt .u8 f) y∧r=.returned (.agg y.toArray)∧nB H w H' w':=by
 obtain ⟨p1,c1,p2,c2,p3,c3,rfl,nf,k1,k2,k3⟩:=jT h;have hcap1:=k1.cap;have hcap2:=k2.cap;have hcap3:=k3.cap;have hfl:=hok.flags;have hll:=hok.links;have hcl:=hok.comps;refine Sx.enter (H:=H) Tryz.func34 rfl Tryz.ntmps34 rfl hA ?_;refine .sr<|.bx Z Z Z fun b1=>.al Fx.zero49 Z fun b2=>.ns<|.yw (.fieldAddr Z Fx.field85_0)<|.yw (.load Z Fx.agg9 aQ Z)<|.yw (.build Z (Fx.bld49_0 _))<|.al Fx.zero49 Z fun b3=>.sW .head Z Z Fx.size49 (by simp [Value.oneCell',aD]) Z<|.nt<|.sq<|.sr<|.yw (.fieldAddr Z Fx.field85_1)<|.yw (.load Z Fx.agg81 cK Z)<|.yw (.lenSl Fx.sl81 Z)<|.mv Z<|?_
 refine Sx.row0 102 2 ?_;refine .nt<|.bk<|.lp (X:=Nat × Value × List Value) [(1,_),(2,_),(3,_),(22,_),(23,_)] ⟨rfl,rfl,rfl,rfl,rfl,trivial⟩ [_,_] (fun z=>[(24,.int .i64 (z.1:Nat))]) (fun z=>H) (fun z=>[.row 102 2 z.2.1 z.1 z.2.2,.box b3 [aD f.nm,z.2.1,.slice none 0 0,.slice none 0 0] 49]) (fun z=>z.1≤f.flags.length∧aN H 2 ((f.flags.take z.1).map dFg) z.2.2) (fun z=>f.flags.length - z.1) (0,.slice none 0 0,[]) (fun _ s=>s) ⟨rfl,trivial⟩ ⟨by simp,aN.nil⟩ fun z hC=>?_
 obtain ⟨k,r,xs⟩:=z;dsimp only at hC ⊢;obtain ⟨hk0,hz⟩:=hC;refine .sr<|.yw (.lss Z Z)<|.nt<|.sq<|.cd Z (fun h25=>?_) (fun h25=>?_)
 ·try simp only [dt] at h25
  have hk:k<f.flags.length:=by omega
  obtain ⟨bE,oE,cE,hpE,rE,lE,mE⟩:=k1.elem (aR (f:=dFg) hk);cases hpE;generalize hx:f.flags[k]=x at rE;obtain ⟨rfl,nx⟩:=rR rE;exact .sk<|.tN<|.sq<|.bk<|.sr<|.yw (.indexSl Fx.sl81 Z Z Z (by omega) (q:=oE+k * 2) Z)<|.yw (.loadMW Z Fx.agg141 mE Z)<|.al Fx.zero141 Z fun b5=>.sW .head Z Z Fx.size141 (by simp [Value.oneCell',aD]) Z<|.nt<|.rg<|.yw (.fieldAddr Z Fx.field49_1)<|.yw (.load Z Fx.agg45 cK Z)<|.yw (.fieldAddr Z Fx.field141_0)<|.yw (.load Z Fx.agg9 (.head _) Z)<|.yw (.fieldAddr Z Fx.field141_1)<|.yw (.load Z Fx.agg4 (.head _) Z)<|.yw (.build Z (Fx.bld102_0_1 _ _))<|.bl Z (Fx.bsl45_1 _ _) Z fun b35=>.ap (news:=[aD x.nm,.bool x.init]) Fx.row45 Z (fun _=>cL) Z (.box (.head _) z0) Z (by simp [Value.oneCell',aD]) (by simp [maxLen];omega) (by omega) Z fun r36 _=>.ra cK fun p36 c36 e36=>.yw (.fieldAddr Z Fx.field49_1)<|.st fS Z Z Fx.size45 (by rw [e36];rfl) (nb Z) Z<|.nl<|.bN<|.tN<|.rg<|.yw (.add Z Z (w6 (by omega)))<|.mv Z<|.nt<|.ag (x:=(k,r,xs)) (k+1,r36,xs++[aD x.nm,.bool x.init]) ⟨rfl,trivial⟩ ⟨rfl,rfl,rfl,rfl,rfl,trivial⟩ (fun _ s=>(s.pick [2,3,4,5] _ Z Z)) ⟨by dsimp only;omega,by dsimp only;rw [bL hk,hx,List.map_append];exact hz.snoc (AY (x:=x) nx) Z⟩ (by dsimp only;omega)
 try simp only [df] at h25
 obtain rfl:k=f.flags.length:=by omega
 rw [List.take_length] at hz;refine Sx.freezeSeq (ds:=f.flags.map dFg) (by simp) hz fun H4 p4 c4 u4 e4 h4=>?_;subst e4;refine .ex<|.tE<|.tE<|.bE<|.tN<|.sq<|.sr<|.yw (.fieldAddr Z Fx.field85_2)<|.yw (.load Z Fx.agg82 cK Z)<|.yw (.lenSl Fx.sl82 Z)<|.mv Z<|?_
 refine Sx.row0 105 3 ?_;have k24:=k2.up u4.up;refine .nt<|.bk<|.lp (X:=Nat × Value × List Value) [(1,_),(2,_),(3,_),(40,_),(41,_)] ⟨rfl,rfl,rfl,rfl,rfl,trivial⟩ [_,_] (fun z=>[(42,.int .i64 (z.1:Nat))]) (fun z=>H4) (fun z=>[.row 105 3 z.2.1 z.1 z.2.2,.box b3 [aD f.nm,.slice p4 f.flags.length c4,z.2.1,.slice none 0 0] 49]) (fun z=>z.1≤f.links.length∧aN H4 3 ((f.links.take z.1).map dLk) z.2.2) (fun z=>f.links.length - z.1) (0,.slice none 0 0,[]) (fun _ s=>s) ⟨rfl,trivial⟩ ⟨by simp,aN.nil⟩ fun z hC=>?_
 obtain ⟨k,r,xs⟩:=z;dsimp only at hC ⊢;obtain ⟨hk0,hz⟩:=hC;refine .sr<|.yw (.lss Z Z)<|.nt<|.sq<|.cd Z (fun h43=>?_) (fun h43=>?_)
 ·try simp only [dt] at h43
  have hk:k<f.links.length:=by omega
  obtain ⟨bE,oE,cE,hpE,rE,lE,mE⟩:=k24.elem (aR (f:=dLk) hk);cases hpE;generalize hx:f.links[k]=x at rE;obtain ⟨rfl,nx,nx2⟩:=pK rE;exact .sk<|.tN<|.sq<|.bk<|.sr<|.yw (.indexSl Fx.sl82 Z Z Z (by omega) (q:=oE+k * 3) Z)<|.yw (.loadMW Z Fx.agg142 mE Z)<|.al Fx.zero142 Z fun b7=>.sW .head Z Z Fx.size142 (by simp [Value.oneCell',aD]) Z<|.nt<|.rg<|.yw (.fieldAddr Z Fx.field49_2)<|.yw (.load Z Fx.agg46 cK Z)<|.yw (.fieldAddr Z Fx.field142_0)<|.yw (.load Z Fx.agg9 (.head _) Z)<|.yw (.fieldAddr Z Fx.field142_1)<|.yw (.load Z Fx.agg9 (.head _) Z)<|.yw (.fieldAddr Z Fx.field142_2)<|.yw (.load Z Fx.agg3 (.head _) Z)<|.yw (.build Z (Fx.bld105_0_1_2 _ _ _))<|.bl Z (Fx.bsl46_1 _ _ _) Z fun b55=>.ap (news:=[aD x.fr,aD x.to,.int .i64 x.lat.toInt]) Fx.row46 Z (fun _=>cL) Z (.box (.head _) z0) Z (by simp [Value.oneCell',aD]) (by simp [maxLen];omega) (by omega) Z fun r56 _=>.ra cK fun p56 c56 e56=>.yw (.fieldAddr Z Fx.field49_2)<|.st fS Z Z Fx.size46 (by rw [e56];rfl) (nb Z) Z<|.nl<|.bN<|.tN<|.rg<|.yw (.add Z Z (w6 (by omega)))<|.mv Z<|.nt<|.ag (x:=(k,r,xs)) (k+1,r56,xs++[aD x.fr,aD x.to,.int .i64 x.lat.toInt]) ⟨rfl,trivial⟩ ⟨rfl,rfl,rfl,rfl,rfl,trivial⟩ (fun _ s=>(s.pick [2,3,4,5] _ Z Z)) ⟨by dsimp only;omega,by dsimp only;rw [bL hk,hx,List.map_append];exact hz.snoc (AJ (x:=x) nx nx2) Z⟩ (by dsimp only;omega)
 try simp only [df] at h43
 obtain rfl:k=f.links.length:=by omega
 rw [List.take_length] at hz;refine Sx.freezeSeq (ds:=f.links.map dLk) (by simp) hz fun H5 p5 c5 u5 e5 h5=>?_;subst e5;refine .ex<|.tE<|.tE<|.bE<|.tN<|.sq<|.sr<|.yw (.fieldAddr Z Fx.field85_3)<|.yw (.load Z Fx.agg83 cK Z)<|.yw (.lenSl Fx.sl83 Z)<|.mv Z<|?_
 refine Sx.row0 110 3 ?_;have k35:=k3.up (u4.trans u5).up;have h45:=h4.up u5.up;refine .nt<|.bk<|.lp (X:=Nat × Hp × Value × List Value) [(2,_),(3,_),(60,_),(61,_)] ⟨rfl,rfl,rfl,rfl,trivial⟩ [_,_] (fun z=>[(62,.int .i64 (z.1:Nat))]) (fun z=>z.2.1) (fun z=>[.row 110 3 z.2.2.1 z.1 z.2.2.2,.box b3 [aD f.nm,.slice p4 f.flags.length c4,.slice p5 f.links.length c5,z.2.2.1] 49]) (fun z=>z.1≤f.comps.length∧HUp w H5 z.2.1∧aN z.2.1 3 ((f.comps.take z.1).map (dCp .u8)) z.2.2.2) (fun z=>f.comps.length - z.1) (0,H5,.slice none 0 0,[]) (fun _ s=>s) ⟨rfl,trivial⟩ ⟨by simp,.refl,aN.nil⟩ fun z hC=>?_
 obtain ⟨k,Ha,rc,xs⟩:=z;dsimp only at hC ⊢;obtain ⟨hk0,ua,hz⟩:=hC;refine .sr<|.yw (.lss Z Z)<|.nt<|.sq<|.cd Z (fun h63=>?_) (fun h63=>?_)
 ·try simp only [dt] at h63
  have hk:k<f.comps.length:=by omega
  obtain ⟨bE,oE,cE,hpE,rE,lE,mE⟩:=(k35.up ua.up).elem (aR (f:=dCp .i64) hk);cases hpE;have okc:=hok.all _ (List.getElem_mem hk);generalize hx:f.comps[k]=x at rE okc;obtain ⟨q1,d1,q2,d2,rfl,nx,g1,g2⟩:=lT rE;have hcv:=g1.cap;have hcr:=g2.cap;have hvl:=okc.vars;have hrl:=okc.vers;refine .sk<|.tN<|.sq<|.bk<|.sr<|.yw (.indexSl Fx.sl83 Z Z Z (by omega) (q:=oE+k * 3) Z)<|.yw (.loadMW Z Fx.agg146 mE Z)<|.al Fx.zero146 Z fun b9=>.sW .head Z Z Fx.size146 (by simp [Value.oneCell',aD]) Z<|.ns<|.yw (.fieldAddr Z Fx.field146_0)<|.yw (.load Z Fx.agg9 (.head _) Z)<|.yw (.build Z (Fx.bld110_0 _))<|.al Fx.zero110 Z fun b10=>.sW .head Z Z Fx.size110 (by simp [Value.oneCell',aD]) Z<|.nt<|.sq<|.sr<|.yw (.fieldAddr Z Fx.field146_1)<|.yw (.load Z Fx.agg143 aQ Z)<|.yw (.lenSl Fx.sl143 Z)<|.mv Z<|?_
  refine Sx.row0 151 3 ?_;refine .nt<|.bk<|.lp (X:=Nat × Value × List Value) [(2,_),(3,_),(9,_),(10,_),(60,_),(61,_),(62,_),(70,_),(71,_)] ⟨rfl,rfl,rfl,rfl,rfl,rfl,rfl,rfl,rfl,trivial⟩ [_,_,_,_,_] (fun z=>[(72,.int .i64 (z.1:Nat))]) (fun z=>Ha) (fun z=>[.row 151 3 z.2.1 z.1 z.2.2,.box b10 [aD x.nm,z.2.1,.slice none 0 0] 110]) (fun z=>z.1≤x.vars.length∧aN Ha 3 ((x.vars.take z.1).map (dVr .u8)) z.2.2) (fun z=>x.vars.length - z.1) (0,.slice none 0 0,[]) (fun _ s=>s) ⟨rfl,trivial⟩ ⟨by simp,aN.nil⟩ fun z hC=>?_
  obtain ⟨j,rv,ys⟩:=z;dsimp only at hC ⊢;obtain ⟨hj0,hzv⟩:=hC;refine .sr<|.yw (.lss Z Z)<|.nt<|.sq<|.cd Z (fun h73=>?_) (fun h73=>?_)
  ·try simp only [dt] at h73
   have hj:j<x.vars.length:=by omega
   obtain ⟨bF,oF,cF,hpF,rF,lF,mF⟩:=g1.elem (aR (f:=dVr .i64) hj);cases hpF;generalize hv:x.vars[j]=v at rF;obtain ⟨rfl,nv⟩:=nC rF;exact .sk<|.tN<|.sq<|.bk<|.sr<|.yw (.indexSl Fx.sl143 Z Z Z (by omega) (q:=oF+j * 3) Z)<|.yw (.loadMW Z Fx.agg148 mF Z)<|.al Fx.zero148 Z fun b12=>.sW .head Z Z Fx.size148 (by simp [Value.oneCell',aD]) Z<|.nt<|.rg<|.yw (.fieldAddr Z Fx.field110_1)<|.yw (.load Z Fx.agg107 cK Z)<|.yw (.fieldAddr Z Fx.field148_0)<|.yw (.load Z Fx.agg9 (.head _) Z)<|.yw (.fieldAddr Z Fx.field148_1)<|.yw (.load Z Fx.agg3 (.head _) Z)<|.yw (.conv Z Fx.int3 Fx.int149 (c:=(v.ty.toNat:Nat)) (by have:=v.ty.toNat_lt;simp only [IntKind.wrap,IntKind.signed,IntKind.bits];simp;omega))<|.yw (.fieldAddr Z Fx.field148_2)<|.yw (.load Z Fx.agg2 (.head _) Z)<|.yw (.build Z (Fx.bld151_0_1_2 _ _ _))<|.bl Z (Fx.bsl107_1 _ _ _) Z fun b86=>.ap (news:=[aD v.nm,.int .u8 v.ty.toNat,.int .i64 v.init.toInt]) Fx.row107 Z (fun _=>cL) Z (.box (.head _) z0) Z (by simp [Value.oneCell',aD]) (by simp [maxLen];omega) (by omega) Z fun r87 _=>.ra cK fun p87 c87 e87=>.yw (.fieldAddr Z Fx.field110_1)<|.st fS Z Z Fx.size107 (by rw [e87];rfl) (nb Z) Z<|.nl<|.bN<|.tN<|.rg<|.yw (.add Z Z (w6 (by omega)))<|.mv Z<|.nt<|.ag (x:=(j,rv,ys)) (j+1,r87,ys++[aD v.nm,.int .u8 v.ty.toNat,.int .i64 v.init.toInt]) ⟨rfl,trivial⟩ ⟨rfl,rfl,rfl,rfl,rfl,rfl,rfl,rfl,rfl,trivial⟩ (fun _ s=>(s.pick [2,3,4,5,6,7,8] _ Z Z)) ⟨by dsimp only;omega,by dsimp only;rw [bL hj,hv,List.map_append];exact hzv.snoc (qU (x:=v) nv) Z⟩ (by dsimp only;omega)
  try simp only [df] at h73
  obtain rfl:j=x.vars.length:=by omega
  rw [List.take_length] at hzv;refine Sx.freezeSeq (ds:=x.vars.map (dVr .u8)) (by simp) hzv fun HV pV cV uV eV hV=>?_;subst eV;refine .ex<|.tE<|.tE<|.bE<|.tN<|.sq<|.sr<|.yw (.fieldAddr Z Fx.field146_2)<|.yw (.load Z Fx.agg144 aQ Z)<|.yw (.lenSl Fx.sl144 Z)<|.mv Z<|?_
  refine Sx.row0 155 1 ?_;refine .nt<|.bk<|.lp (X:=Nat × Hp × Value × List Value) [(2,_),(3,_),(10,_),(60,_),(61,_),(62,_),(91,_),(92,_)] ⟨rfl,rfl,rfl,rfl,rfl,rfl,rfl,rfl,trivial⟩ [_,_,_,_,_] (fun z=>[(93,.int .i64 (z.1:Nat))]) (fun z=>z.2.1) (fun z=>[.row 155 1 z.2.2.1 z.1 z.2.2.2,.box b10 [aD x.nm,.slice pV x.vars.length cV,z.2.2.1] 110]) (fun z=>z.1≤x.vers.length∧HUp w HV z.2.1∧aN z.2.1 1 ((x.vers.take z.1).map (dVs .u8)) z.2.2.2) (fun z=>x.vers.length - z.1) (0,HV,.slice none 0 0,[]) (fun _ s=>s) ⟨rfl,trivial⟩ ⟨by simp,.refl,aN.nil⟩ fun z hC=>?_
  obtain ⟨i,Hb,rs,ws⟩:=z;dsimp only at hC ⊢;obtain ⟨hi0,ub,hzs⟩:=hC;refine .sr<|.yw (.lss Z Z)<|.nt<|.sq<|.cd Z (fun h94=>?_) (fun h94=>?_)
  ·try simp only [dt] at h94
   have hi:i<x.vers.length:=by omega
   obtain ⟨bG,oG,cG,hpG,rG,lG,mG⟩:=(g2.up (uV.trans ub).up).elem (aR (f:=dVs .i64) hi);cases hpG;have okv:=okc.all _ (List.getElem_mem hi);generalize hxv:x.vers[i]=v at rG okv;obtain ⟨pv,cv,rfl,gv⟩:=oP rG;have hcw:=gv.cap;have hwl:=okv.len;refine .sk<|.tN<|.sq<|.bk<|.sr<|.yw (.indexSl Fx.sl144 Z Z (i:=i) Z hi (q:=oG+i * 1) Z)<|.yw (.loadM Z Fx.agg152 mG (k:=0) Z Z)<|.a Z Z<|.ns<|.al Fx.zero155 Z fun b15=>.nt<|.sq<|.sr<|.mv Z<|.yw (.lenSl Fx.sl152 Z)<|.mv Z<|?_
   refine Sx.row0 162 3 ?_;refine .nt<|.bk<|.lp (X:=Nat × Hp × Value × List Value) [(2,_),(3,_),(10,_),(15,_),(60,_),(61,_),(62,_),(91,_),(92,_),(93,_),(97,_),(98,_)] ⟨rfl,rfl,rfl,rfl,rfl,rfl,rfl,rfl,rfl,rfl,rfl,rfl,trivial⟩ [_,_,_,_,_,_,_] (fun z=>[(99,.int .i64 (z.1:Nat))]) (fun z=>z.2.1) (fun z=>[.row 162 3 z.2.2.1 z.1 z.2.2.2,.box b15 [z.2.2.1] 155]) (fun z=>z.1≤v.length∧HUp w Hb z.2.1∧aN z.2.1 3 ((v.take z.1).map (dHd .u8)) z.2.2.2) (fun z=>v.length - z.1) (0,Hb,.slice none 0 0,[]) (fun _ s=>s) ⟨rfl,trivial⟩ ⟨by simp,.refl,aN.nil⟩ fun z hC=>?_
   obtain ⟨j,Hc,rh,zs⟩:=z;dsimp only at hC ⊢;obtain ⟨hj0,uc,hzh⟩:=hC;refine .sr<|.yw (.lss Z Z)<|.nt<|.sq<|.cd Z (fun h100=>?_) (fun h100=>?_)
   ·try simp only [dt] at h100
    have hj:j<v.length:=by omega
    obtain ⟨bI,oI,cI,hpI,rI,lI,mI⟩:=(gv.up uc.up).elem (aR (f:=dHd .i64) hj);cases hpI;have okh:=okv.all _ (List.getElem_mem hj);generalize hxh:v[j]=y at rI okh;obtain ⟨t1,w1,t2,w2,rfl,ny,m1,m2⟩:=lR rI;have hyl:=okh.ps;refine .sk<|.tN<|.sq<|.bk<|.sr<|.yw (.indexSl Fx.sl152 Z Z Z (by omega) (q:=oI+j * 3) Z)<|.yw (.loadMW Z Fx.agg158 mI Z)<|.al Fx.zero158 Z fun b17=>.sW .head Z Z Fx.size158 (by simp [Value.oneCell',aD]) Z<|.nt<|?_
    refine Sx.row0 9 1 ?_;refine .fL 12 [(0,0),(1,0),(2,0),(3,0),(4,0),(5,0),(7,0),(8,0),(6,3),(9,1),(10,0),(11,1)]<|.yw (.fieldAddr Z Fx.field155_0)<|.yw (.load Z Fx.agg153 gO Z)<|.yw (.fieldAddr Z Fx.field158_0)<|.yw (.load Z Fx.agg9 aQ Z)<|.yw (.fieldAddr Z Fx.field158_1)<|.yw (.load Z Fx.agg52 aQ Z)<|.yw (.fieldAddr Z Fx.field158_2)<|.yw (.load Z Fx.agg156 aQ Z)<|.apD0 Fx.row52 Z (fun _ _=>.head) Z m1 (by simp [maxLen];omega) (by omega) Z (fun _ _=>(.yv (.load Z Fx.agg156 aQ Z)<|.yv (.fieldAddr Z Fx.field158_2)<|.dn<|.dn<|.yv (.load Z Fx.agg9 aQ Z)<|.yv (.fieldAddr Z Fx.field158_0)<|.yv (.load Z Fx.agg153 gO Z)<|.yv (.fieldAddr Z Fx.field155_0)<|.nl)) fun xs109 p109 c109 hz109=>.ct (X:=Value) Fx.call60 Z (fun W t=>PV N hN y.body okh.body Hc _ W m2 t.agr) Z fun y112 H112 hy112 u112=>?_
    obtain ⟨pB,cB,eB,_⟩:=hy112.sl;simp only [List.cons.injEq,and_true,List.length_map] at eB;subst eB;refine .yw (.build Z (Fx.bld162_0_1_2 _ _ _ _ _ _ _))<|.bl Z (Fx.bsl153_1 _ _ _) Z fun b114=>.fn (tl:=[_,_,_]) Z<|.ap (news:=[aD y.nm,.slice p109 y.ps.length c109,.slice pB y.body.length cB]) Fx.row153 Z (fun _=>fS) Z (.box (.head _) z0) Z (by simp [Value.oneCell',aD]) (by simp [maxLen];omega) (by omega) Z fun r115 _=>.ra gO fun p115 c115 e115=>.yw (.fieldAddr Z Fx.field155_0)<|.st EP Z Z Fx.size153 (by rw [e115];rfl) (nb Z) Z<|?_
    refine At.pm [1,0,2,3,4,5,6,7,8,9,10,11] [_,_,_,_,_,_,_,_,_,_,_,_] rfl rfl ?_;refine Sx.freezeSeq (ds:=y.ps.map gZ) (by simp) (aN.up u112.up hz109) fun HP pP cP uP eP hP=>?_;injection eP with eP1 _ eP2
    subst eP1;subst eP2;exact .nl<|.bN<|.tN<|.rg<|.yw (.add Z Z (w6 (by omega)))<|.mv Z<|.nt<|.ag (x:=(j,Hc,rh,zs)) (j+1,HP,r115,zs++[aD y.nm,.slice p109 y.ps.length c109,.slice pB y.body.length cB]) ⟨rfl,trivial⟩ ⟨rfl,rfl,rfl,rfl,rfl,rfl,rfl,rfl,rfl,rfl,rfl,rfl,trivial⟩ (fun _ s=>(s.pick [2,3,4,5,6,7,8,9,10] _ Z Z)) ⟨by dsimp only;omega,uc.trans (u112.trans uP),by dsimp only;rw [bL hj,hxh,List.map_append];exact (hzh.up (u112.trans uP).up).snoc (AP (x:=y) ny hP (hy112.up uP.up)) Z⟩ (by dsimp only;omega)
   try simp only [df] at h100
   obtain rfl:j=v.length:=by omega
   rw [List.take_length] at hzh;refine Sx.freezeSeq (ds:=v.map (dHd .u8)) (by simp) hzh fun HH pH cH uH eH hH=>?_;subst eH;have uh:=uc.trans uH;exact .ex<|.tE<|.tE<|.bE<|.tN<|.rg<|.yw (.fieldAddr Z Fx.field110_2)<|.yw (.load Z Fx.agg108 cK Z)<|.yw (.loadW Z Fx.agg155 (.head _) Z)<|.bl Z (Fx.bsl108_1 _) Z fun b121=>.ap (news:=[.slice pH v.length cH]) Fx.row108 Z (fun _=>cL) Z (.box (.head _) z0) Z (by simp [Value.oneCell',aD]) (by simp [maxLen];omega) (by omega) Z fun r122 _=>.ra cK fun p122 c122 e122=>.yw (.fieldAddr Z Fx.field110_2)<|.st fS Z Z Fx.size108 (by rw [e122];rfl) (nb Z) Z<|.nl<|.bN<|.tN<|.rg<|.yw (.add Z Z (w6 (by omega)))<|.mv Z<|.nt<|.ag (x:=(i,Hb,rs,ws)) (i+1,HH,r122,ws++[.slice pH v.length cH]) ⟨rfl,trivial⟩ ⟨rfl,rfl,rfl,rfl,rfl,rfl,rfl,rfl,trivial⟩ (fun _ s=>(s.pick [2,3,4,5,6,7,8] _ Z Z)) ⟨by dsimp only;omega,ub.trans uh,by dsimp only;rw [bL hi,hxv,List.map_append];exact (hzs.up uh.up).snoc hH Z⟩ (by dsimp only;omega)
  try simp only [df] at h94
  obtain rfl:i=x.vers.length:=by omega
  rw [List.take_length] at hzs;refine Sx.freezeSeq (ds:=x.vers.map (dVs .u8)) (by simp) hzs fun HS pS cS uS eS hS=>?_;subst eS;have uX:=uV.trans (ub.trans uS);have hVX:=hV.up (ub.trans uS).up;exact .ex<|.tE<|.tE<|.bE<|.tN<|.rg<|.yw (.fieldAddr Z Fx.field49_3)<|.yw (.load Z Fx.agg47 gO Z)<|.yw (.loadW Z Fx.agg110 (.head _) Z)<|.bl Z (Fx.bsl47_1 _ _ _) Z fun b128=>.ap (news:=[aD x.nm,.slice pV x.vars.length cV,.slice pS x.vers.length cS]) Fx.row47 Z (fun _=>fS) Z (.box (.head _) z0) Z (by simp [Value.oneCell',aD]) (by simp [maxLen];omega) (by omega) Z fun r129 _=>.ra gO fun p129 c129 e129=>.yw (.fieldAddr Z Fx.field49_3)<|.st EP Z Z Fx.size47 (by rw [e129];rfl) (nb Z) Z<|.nl<|.bN<|.tN<|.rg<|.yw (.add Z Z (w6 (by omega)))<|.mv Z<|.nt<|.ag (x:=(k,Ha,rc,xs)) (k+1,HS,r129,xs++[aD x.nm,.slice pV x.vars.length cV,.slice pS x.vers.length cS]) ⟨rfl,trivial⟩ ⟨rfl,rfl,rfl,rfl,trivial⟩ (fun _ s=>(s.pick [3,4,5,6] _ Z Z)) ⟨by dsimp only;omega,ua.trans uX,by dsimp only;rw [bL hk,hx,List.map_append];exact (hz.up uX.up).snoc (uU (x:=x) nx hVX hS) Z⟩ (by dsimp only;omega)
 try simp only [df] at h63
 obtain rfl:k=f.comps.length:=by omega
 rw [List.take_length] at hz;refine Sx.freezeSeq (ds:=f.comps.map (dCp .u8)) (by simp) hz fun HZ pZ cZ uZ eZ hZ=>?_;subst eZ;refine .ex<|.tE<|.tE<|.bE<|.tN<|.sr<|.yw (.loadW Z Fx.agg49 (.head _) Z)<|.sW bV Z Z Fx.size49 (by simp [Value.oneCell',aD]) Z<|.nt<|.rt<|?_
 exact Sx.ret1 (.inl rfl) rfl (.cell rfl Fx.agg49 aQ rfl) fun W t=>⟨_,HZ,AS (x:=f) nf (h45.up (ua.trans uZ).up) (h5.up (ua.trans uZ).up) hZ,rfl,(u4.trans (u5.trans (ua.trans uZ))).grow t⟩
theorem ES (N:Nat) (hN:N≤1000000) (H:Hp) (f:Ft) (hok:CY N f) (cs:List Value) (w:World) (h:Rep H (dFt .i64 f) cs) (hA:Agr H w) :
 Calls Tryz.prog 34 #[.agg cs.toArray] w fun r w'=>∃ (y:List Value) (H':Hp),Rep H' (dFt .u8 f) y∧r=.returned (.agg y.toArray)∧nB H w H' w':=JI N hN H f hok.sy cs w h hA
end Go.Proofs.YthhoebdlfjffkaaGreatDoor
namespace Go.Proofs.YthhoebdlfjffkaaGreatDoor
section
variable {α:Type} {N:Nat} {p:Pz α} {ok:α→Prop}
end
section
variable {N:Nat} {b:Pz (List Sm)}
end
end Go.Proofs.YthhoebdlfjffkaaGreatDoor
namespace Go.Proofs.YthhoebdlfjffkaaGreatDoor
open Go.RowKit Go.Par Go.Sx
theorem Fx.call20:aK Tryz.prog 20=Bool.true:=by kernel_rfl
theorem Fx.call34:aK Tryz.prog 34=Bool.true:=by kernel_rfl
theorem PH (H:Hp) (a:Ft) (ca cb:List Value) (w:World) (ha:Rep H (dFt .u8 a) ca) (hb:Rep H (dFt .u8 a) cb) (hA:Agr H w):Calls Tryz.prog 20 #[.agg ca.toArray,.agg cb.toArray] w fun r w'=>r=.returned (.bool true)∧Ext w w' :=
 (LA H a a ca cb w ha hb hA).mono fun e W' ⟨h1,h2⟩=>⟨by rw [h1,aA.2 rfl],h2⟩
end Go.Proofs.YthhoebdlfjffkaaGreatDoor
/- Plain: expressions in additional parentheses, and with all parentheses, are read back. -/
namespace Go.Proofs.YthhoebdlfjffkaaGreatDoor
end Go.Proofs.YthhoebdlfjffkaaGreatDoor
/- Plain: expressions with all parentheses are read back: the cases beside two operands. -/
namespace Go.Proofs.YthhoebdlfjffkaaGreatDoor
end Go.Proofs.YthhoebdlfjffkaaGreatDoor
/- Plain: an expression with all parentheses is read back. -/
namespace Go.Proofs.YthhoebdlfjffkaaGreatDoor
end Go.Proofs.YthhoebdlfjffkaaGreatDoor
/- Plain: the text of an expression with all parentheses has its tokens. -/
namespace Go.Proofs.YthhoebdlfjffkaaGreatDoor
end Go.Proofs.YthhoebdlfjffkaaGreatDoor
namespace Go.Proofs.YthhoebdlfjffkaaGreatDoor
theorem DZ {f:Ft} (h:dA f=0) {l:List Tk} (hl:l.map kt=ftK f):gFt l=.ok f []:=by
 have:=Rdc.ft (C:=kP) h l [] hl trivial;rw [List.append_nil] at this;exact this
end Go.Proofs.YthhoebdlfjffkaaGreatDoor
/- Plain: a fleet's text that is cut off, or goes on. -/
namespace Go.Proofs.YthhoebdlfjffkaaGreatDoor
end Go.Proofs.YthhoebdlfjffkaaGreatDoor
namespace Go.Proofs.YthhoebdlfjffkaaGreatDoor
def tkA (o:Nat) (m:Str):List Tk:=toks (o+iD m) (m.drop (iD m))
theorem QW (s:Str):gP s=tkA 0 s:=by
 unfold tkA;rw [Nat.zero_add];exact yG s
theorem QV (o:Nat):tkA o []=[]:=by
 unfold tkA;rw [List.drop_nil,BV]
theorem JS {p m:Str} (h:bZ false (p++m)=bZ false m):iD (p++m)=p.length+iD m:=by
 unfold iD;have:=fI false m;rw [h,List.length_append];omega
theorem GX {o:Nat} {p m:Str} (h:bZ false (p++m)=bZ false m):tkA o (p++m)=tkA (o+p.length) m:=by
 unfold tkA;rw [JS h,← List.drop_drop,List.drop_left,Nat.add_assoc]
theorem QU {o:Nat} {x:Kt} {m:Str} (h:Tok x m):tkA o (x.2++m)=⟨x.1,x.2,o⟩::tkA (o+x.2.length) m:=by
 have e:iD (x.2++m)=0:=by unfold iD;rw [h.skip];omega
 have hne:x.2++m≠[]:=by intro e;exact h.ne (List.append_eq_nil_iff.1 e).1
 conv=>lhs;unfold tkA
 rw [e,List.drop_zero,Nat.add_zero,rY hne,h.read];simp only [List.take_left,List.drop_left]
 congr 1
 unfold tkA;rw [← List.drop_drop,List.drop_left]
theorem tJ {c:UInt8} {r:Str} {k:UInt8} {n:Nat} (h:aJ (c::r)=(k,n)) (h5:k≠5) :
 (iK c=true∧n=pre eG (c::r)∧(if words.contains ((c::r).take n) then (2:UInt8) else if n≤12 then 1 else 5)=k) ∨
 (iK c=false∧dX c=true∧n=pre dX (c::r)∧(n=1∨c≠48)∧k=3) ∨
 (iK c=false∧dX c=false∧k=4∧∃ y,symbols.find? (fun x=>x.isPrefixOf (c::r))=some y∧n=y.length):=by
 cases h1:iK c with
 | true =>
  refine .inl ⟨rfl,?_⟩;cases h4:words.contains ((c::r).take (pre eG (c::r))) with
  | true =>
   simp only [aJ,List.headD_cons,h1,h4,if_true,Prod.mk.injEq] at h;obtain ⟨rfl,rfl⟩:=h;exact ⟨rfl,by rw [h4];rfl⟩
  | false =>
   by_cases h6:pre eG (c::r)≤12
   ·simp only [aJ,List.headD_cons,h1,h4,h6,if_true,Bool.false_eq_true,if_false,Prod.mk.injEq] at h;obtain ⟨rfl,rfl⟩:=h;exact ⟨rfl,by rw [h4,if_neg (by decide),if_pos h6]⟩
   ·simp only [aJ,List.headD_cons,h1,h4,h6,if_true,Bool.false_eq_true,if_false,Prod.mk.injEq] at h;exact absurd h.1.symm h5
 | false =>
  cases h4:dX c with
  | true =>
   by_cases h6:pre dX (c::r)=1∨c≠48
   ·simp only [aJ,List.headD_cons,h1,h4,h6,if_true,Bool.false_eq_true,if_false,Prod.mk.injEq] at h;obtain ⟨rfl,rfl⟩:=h;exact .inr (.inl ⟨rfl,rfl,rfl,h6,rfl⟩)
   ·simp only [aJ,List.headD_cons,h1,h4,h6,if_true,Bool.false_eq_true,if_false,Prod.mk.injEq] at h;exact absurd h.1.symm h5
  | false =>
   cases hx:symbols.find? (fun x=>x.isPrefixOf (c::r)) with
   | none =>
    simp only [aJ,List.headD_cons,h1,h4,hx,Bool.false_eq_true,if_false,Prod.mk.injEq] at h;exact absurd h.1.symm h5
   | some y =>
    simp only [aJ,List.headD_cons,h1,h4,hx,Bool.false_eq_true,if_false,Prod.mk.injEq] at h;obtain ⟨rfl,rfl⟩:=h;exact .inr (.inr ⟨rfl,rfl,rfl,y,rfl,rfl⟩)
theorem QT {c:UInt8} {t r:Str} (hsh:(c::t).length≤1000000) (hall:(c::t).all dX=true) (h2:t=[]∨c≠48) (hr:∀ d,r.head? = some d→dX d=false):Tok (3,c::t) r:=by
 have hp:pre dX ((c::t)++r)=(c::t).length:=nF hall hr;rw [List.all_cons,Bool.and_eq_true] at hall;have hb:=BB c hall.1;refine ⟨by simp,?_,iC hb.1 (fun e=>hb.2.1 e.1),(show (3:UInt8)≠5 by decide),hsh⟩;show aJ ((c::t)++r)=(3,(c::t).length);unfold aJ;simp only;rw [show ((c::t)++r).headD 0=c from rfl,hb.2.2.2.2.2,if_neg (by decide),hall.1,if_pos rfl,hp];refine if_pos ?_;rcases h2 with rfl | h2
 ·exact .inl Z
 ·exact .inr h2
theorem kK {q:UInt8→Bool} {w r:Str} (h:pre q (w++r)=w.length):w.all q=true∧∀ d,r.head? = some d→q d=false:=by
 induction w with
 | nil =>
  refine ⟨rfl,fun d hd=>?_⟩;cases r with
  | nil=>cases hd
  | cons e r =>
   obtain rfl:e=d:=Option.some.inj hd;cases hq:q e with
   | false=>rfl
   | true =>
    rw [List.nil_append] at h;unfold pre at h;rw [List.takeWhile_cons,hq] at h;simp at h
 | cons a w ih =>
  rw [List.cons_append] at h;unfold pre at h;rw [List.takeWhile_cons] at h;cases hq:q a with
  | false=>rw [hq] at h;simp at h
  | true =>
   rw [hq] at h;have:=ih (by unfold pre;simpa using h);exact ⟨by rw [List.all_cons,hq,this.1];rfl,this.2⟩
theorem TE {c:UInt8} (h:eR c=true):eG c=false∧c≠46∧c≠61∧c≠62∧c≠47:=by
 revert h
 exact rV (Q:=fun c=>eR c=true→eG c=false∧c≠46∧c≠61∧c≠62∧c≠47) (by decide +kernel) c
theorem vS {d:UInt8} (hd:eR d=true):∀ {z w r:Str},z.all (fun c=>!eR c)=true→z.isPrefixOf (w++d::r)=z.isPrefixOf w
 | [],w,r,_=>by simp [List.isPrefixOf]
 | a::z,[],r,h=>by
  rw [List.all_cons,Bool.and_eq_true] at h;have:(a == d)=false:=beq_false_of_ne fun e=>by subst e;rw [hd] at h;simp at h
  simp [List.isPrefixOf,this]
 | a::z,b::w,r,h=>by
  rw [List.all_cons,Bool.and_eq_true] at h;simp only [List.cons_append,List.isPrefixOf];rw [vS hd h.2]
theorem wO {α:Type} {p q:α→Bool}:∀ {l:List α},(∀ x∈l,p x=q x)→l.find? p=l.find? q
 | [],_=>rfl
 | a::l,h=>by
  rw [List.find?_cons,List.find?_cons,h a (by simp),wO fun x hx=>h x (List.mem_cons_of_mem _ hx)]
theorem sB:∀ w∈symbols,w≠[]∧iK (w.headD 0)=false∧dX (w.headD 0)=false∧eR (w.headD 0)=false∧w.take 2≠[47,47]∧w.all (fun c=>!eR c)=true∧w.length≤2∧symbols.find? (fun x=>x.isPrefixOf w)=some w:=by decide +kernel
def FP (r:Str):Prop:=∀ d,r.head? = some d→eR d=true
theorem MD {w r:Str} (hw:w∈symbols) (hr:FP r):Tok (4,w) r:=by
 obtain ⟨h0,h1,h2,h3,h4,h5,h6,h7⟩:=sB w hw
 match w,h0 with
 | c::t,h0 =>
  have hf:symbols.find? (fun x=>x.isPrefixOf ((c::t)++r))=some (c::t):=by
   cases r with
   | nil=>rw [List.append_nil];exact h7
   | cons d r=>rw [← h7];exact wO fun x hx=>vS (hr d rfl) (sB x hx).2.2.2.2.2.1
  refine ⟨h0,?_,iC h3 ?_,(show (4:UInt8)≠5 by decide),(by show (c::t).length≤1000000;omega)⟩
  ·show aJ ((c::t)++r)=(4,(c::t).length);unfold aJ;simp only;rw [show ((c::t)++r).headD 0=c from rfl,show iK c=false from h1,show dX c=false from h2,hf];simp
  ·rintro ⟨rfl,h⟩;cases t with
   | nil =>
    cases r with
    | nil=>cases h
    | cons d r =>
     obtain rfl:d=47:=Option.some.inj h;exact absurd (hr 47 rfl) (by decide)
   | cons b t =>
    obtain rfl:b=47:=Option.some.inj h;exact h4 rfl
theorem FP.sep {r:Str} (h:FP r):kB r:=fun c hc=>TE (h c hc)
theorem Tok.gap {x:Kt} {r r':Str} (h:Tok x r) (hr:FP r'):Tok x r':=by
 obtain ⟨k,w⟩:=x;have hne:=h.ne
 match w,hne with
 | c::t,hne =>
  have hrd:aJ (c::(t++r))=(k,(c::t).length):=h.read;have htk:(c::(t++r)).take (c::t).length=c::t:=by rw [← List.cons_append,List.take_left]
  rcases tJ hrd h.k5 with ⟨h1,h2,h3⟩ | ⟨h1,h2,h3,h4,h5⟩ | ⟨h1,h2,h3,y,h4,h5⟩
  ·rw [htk] at h3;exact vI hne h1 (kK (w:=c::t) (r:=r) h2.symm).1 h3 h.k5 hr.sep
  ·obtain rfl:k=3:=h5;refine QT h.sh (kK (w:=c::t) (r:=r) h3.symm).1 ?_ fun d hd=>ID d (hr.sep d hd).1;rcases h4 with h4 | h4
   ·left;cases t with
    | nil=>rfl
    | cons=>simp at h4
   ·exact .inr h4
  ·obtain rfl:k=4:=h3;have hm:=List.mem_of_find?_eq_some h4;have hpf:y.isPrefixOf (c::(t++r))=true:=by simpa using List.find?_some h4
   obtain ⟨u,hu⟩:=List.isPrefixOf_iff_prefix.1 hpf
   have:y=c::t:=by
    have e:=congrArg (List.take y.length) hu;rw [List.take_left,← h5,htk] at e;exact e
   subst this;exact MD hm hr
theorem FF {z a b:Str} (hz:z.length≤2) (h:a.take 2=b.take 2):z.isPrefixOf a=z.isPrefixOf b:=by
 have key:∀ (m:Str),z.isPrefixOf m=z.isPrefixOf (m.take 2):=by
  intro m
  match z,hz,m with
  | [],_,m=>simp [List.isPrefixOf]
  | [x],_,[]=>rfl
  | [x],_,[y]=>rfl
  | [x],_,y::u::m=>rfl
  | [x,x'],_,[]=>rfl
  | [x,x'],_,[y]=>rfl
  | [x,x'],_,y::u::m=>rfl
 rw [key a,key b,h]
theorem Tok.tail {x:Kt} {d:UInt8} {r r':Str} (h:Tok x (d::r)):Tok x (d::r'):=by
 obtain ⟨k,w⟩:=x;have hne:=h.ne
 match w,hne with
 | c::t,hne =>
  have hrd:aJ (c::(t++d::r))=(k,(c::t).length):=h.read;have htk:(c::(t++d::r)).take (c::t).length=c::t:=by rw [← List.cons_append,List.take_left]
  have h2t:((c::t)++d::r).take 2=((c::t)++d::r').take 2:=by
   cases t with
   | nil=>rfl
   | cons b t=>rfl
  have hsk:bZ false ((c::t)++d::r')=(c::t)++d::r':=by
   have h0:bZ false (c::(t++d::r))=c::(t++d::r):=h.skip;rw [bZ] at h0
   have hb:eR c=false:=by
    cases e:eR c with
    | false=>rfl
    | true =>
     rw [if_pos e] at h0;have h1:=congrArg List.length h0;have h2:=fI false (t++d::r);rw [List.length_cons] at h1;omega
   rw [if_neg (by rw [hb];decide)] at h0;refine iC hb fun e=>?_;have e2:(t++d::r').head? = (t++d::r).head? := by cases t <;> rfl
   have e1:c=47∧(t++d::r').head? = some 47:=e;rw [e2] at e1;rw [if_pos e1] at h0;have h1:=congrArg List.length h0;have h2:=fI true (t++d::r);rw [List.length_cons] at h1;omega
  refine ⟨h.ne,?_,hsk,h.k5,h.sh⟩;show aJ ((c::t)++d::r')=(k,(c::t).length);rcases tJ hrd h.k5 with ⟨h1,h2,h3⟩ | ⟨h1,h2,h3,h4,h5⟩ | ⟨h1,h2,h3,y,h4,h5⟩
  ·have ha:=kK (w:=c::t) (r:=d::r) h2.symm;have hp:pre eG ((c::t)++d::r')=(c::t).length:=nF ha.1 fun e he=>ha.2 e he;rw [htk] at h3;unfold aJ;simp only;rw [show ((c::t)++d::r').headD 0=c from rfl,h1,if_pos rfl,hp,List.take_left]
   split at h3
   ·rename_i e;rw [if_pos e,← h3]
   ·rename_i e;rw [if_neg e]
    split at h3
    ·rename_i e2;rw [if_pos e2,← h3]
    ·exact absurd h3.symm h.k5
  ·obtain rfl:k=3:=h5;have ha:=kK (w:=c::t) (r:=d::r) h3.symm;have hp:pre dX ((c::t)++d::r')=(c::t).length:=nF ha.1 fun e he=>ha.2 e he;unfold aJ;simp only;rw [show ((c::t)++d::r').headD 0=c from rfl,h1,if_neg (by decide),h2,if_pos rfl,hp];exact if_pos h4
  ·obtain rfl:k=4:=h3
   have hf:symbols.find? (fun x=>x.isPrefixOf ((c::t)++d::r'))=some y:=by
    rw [← h4];exact wO fun x hx=>FF (sB x hx).2.2.2.2.2.2.1 h2t.symm
   unfold aJ;simp only;rw [show ((c::t)++d::r').headD 0=c from rfl,h1,h2,hf];simp [← h5]
def YF (k:List Kt):Prop:=∀ x∈k,∃ r,Tok x r
theorem Lx.tokL {s:Str} {k:List Kt} (h:Lx s k):YF k:=by
 induction h with
 | nil=>intro x hx;cases hx
 | blk _ _ ih=>exact ih
 | @tok x s k ht _ ih =>
  intro y hy;rcases List.mem_cons.1 hy with rfl | hy
  ·exact ⟨_,ht⟩
  ·exact ih y hy
theorem Lx.size {s:Str} {k:List Kt} (h:Lx s k):(k.map fun x=>x.2.length).sum≤s.length∧k.length≤(k.map fun x=>x.2.length).sum:=by
 induction h with
 | nil=>simp
 | blk _ _ ih=>simp only [List.length_cons];omega
 | @tok x s k ht _ ih =>
  have:=List.length_pos_iff.2 ht.ne;simp only [List.map_cons,List.sum_cons,List.length_cons,List.length_append];omega
def xJ:List Str:=[[32,32],[10],[9,13,10],[32,47,47,32,123,32,102,108,101,101,116,32,125,32,120,10],[32,47,47,10]]
def jI (bl:List UInt8) (i:Nat):Str:=if i<bl.length then xJ.getD ((bl.getD i 0).toNat % 5) [] else [32]
theorem OV:∀ g∈[32]::xJ,∀ m,bZ false (g++m)=bZ false m:=by
 intro g hg m;simp only [xJ,List.mem_cons,List.not_mem_nil,or_false] at hg;rcases hg with rfl | rfl | rfl | rfl | rfl | rfl <;> simp [bZ,eR]
theorem WE:∀ g∈[32]::xJ,g≠[]∧eR (g.headD 0)=true:=by decide
theorem sL (bl:List UInt8) (i:Nat):jI bl i∈[32]::xJ:=by
 unfold jI
 split
 ·have key:∀ k∈List.range 5,xJ.getD k []∈[32]::xJ:=by decide
  exact key _ (List.mem_range.2 (Nat.mod_lt _ (by omega)))
 ·exact List.mem_cons_self
theorem OW {g:Str} (h:g∈[32]::xJ) (r:Str):FP (g++r):=by
 obtain ⟨h1,h2⟩:=WE g h
 match g,h1 with
 | c::t,_=>exact fun d hd=>by cases hd;exact h2
def iH (bl:List UInt8):Nat→List Str→Str
 | _,[]=>[]
 | i,w::ws=>jI bl i++w++iH bl (i+1) ws
theorem qP (bl:List UInt8):∀ (ws:List Str) (i:Nat) (w:Str),iH bl i (ws++[w])=iH bl i ws++(jI bl (i+ws.length)++w)
 | [],i,w=>by simp [iH]
 | v::ws,i,w=>by
  simp only [List.cons_append,iH,qP bl ws (i+1) w,List.append_assoc,List.length_cons];rw [show i+1+ws.length=i+(ws.length+1) by omega]
theorem DR (bl:List UInt8):∀ {k:List Kt} (_:YF k) (i o:Nat) (e:Str),FP e→∃ l,tkA o (iH bl i (k.map (·.2))++e)=l++tkA (o+(iH bl i (k.map (·.2))).length) e∧l.map kt=k
 | [],_,i,o,e,_=>⟨[],rfl,rfl⟩
 | x::k,h,i,o,e,he=>by
  obtain ⟨l,h1,h2⟩:=DR bl (k:=k) (fun y hy=>h y (List.mem_cons_of_mem _ hy)) (i+1) (o+(jI bl i).length+x.2.length) e he
  have hg:FP (iH bl (i+1) (k.map (·.2))++e):=by
   cases k with
   | nil=>exact he
   | cons y k=>simp only [List.map_cons,iH,List.append_assoc];exact OW (sL bl (i+1)) _
  obtain ⟨r,hr⟩:=h x List.mem_cons_self;refine ⟨⟨x.1,x.2,o+(jI bl i).length⟩::l,?_,by rw [List.map_cons,h2];rfl⟩;simp only [List.map_cons,iH,List.append_assoc];rw [GX (OV _ (sL bl i) _),QU (hr.gap hg),h1];simp only [List.cons_append,List.length_append]
  congr 3
  omega
theorem SD (l:List Tk):l.map (·.t)=(l.map kt).map (·.2):=by rw [List.map_map];rfl
theorem LQ {f:Ft} (h:dA f=0):(gP (ftT f)).map (·.t)=(ftK f).map (·.2):=by rw [SD,xV h]
theorem tF {f:Ft} (h:dA f=0):∀ x∈gP (ftT f),x.t.length≤1000000:=fun x hx=>by
 have hm:kt x∈ftK f:=by rw [← xV h];exact List.mem_map_of_mem hx
 obtain ⟨r,hr⟩:=(OB h).tokL _ hm;exact hr.sh
noncomputable def dS (f:Ft):List Str:=(gP (ftT f)).map (·.t)
theorem EL (f:Ft):(dS f).length≤(ftT f).length:=by unfold dS;rw [List.length_map];exact oD _
theorem zK {f:Ft} (h:dA f=0):∀ w∈dS f,w.length≤1000000:=fun w hw=>by
 obtain ⟨x,hx,rfl⟩:=List.mem_map.1 hw;exact tF h x hx
theorem yL (bl:List UInt8) (i:Nat):(jI bl i).length≤16:=by
 have key:∀ g∈[32]::xJ,g.length≤16:=by decide
 exact key _ (sL bl i)
theorem yK (bl:List UInt8):∀ (ws:List Str) (i:Nat),(∀ w∈ws,w.length≤1000000)→(iH bl i ws).length≤1000016 * ws.length
 | [],_,_=>by simp [iH]
 | w::ws,i,h=>by
  have h1:=yK bl ws (i+1) fun x hx=>h x (List.mem_cons_of_mem _ hx);have h2:=h w List.mem_cons_self;have h3:=yL bl i;simp only [iH,List.length_append,List.length_cons,Nat.mul_add];omega
theorem JU {t:Str} (ht:t.length≤20000):sg0 t=⟨gP t,0,0⟩:=by unfold sg0;rw [if_neg (by omega)]
theorem MV {f:Ft} {t:Str} (ht:t.length≤20000) (h:gFt (gP t)=.ok f []):sgZ gFt t=⟨[],0,0⟩∧∀ x,vl gFt (sg0 t) x→x=f:=by
 have h0:=JU ht;refine ⟨?_,fun x hx=>hx (by rw [h0]) f [] (by rw [h0];exact h)⟩;unfold sgZ up;rw [h0,if_pos rfl,h]
 rfl
def LC:Str:=[10,47,47,32,101,110,100]
theorem LH {f:Ft} (h:dA f=0) (bl:List UInt8) {t:Str} (ht:t=iH bl 0 ((gP (ftT f)).map (·.t))++LC) (h2:t.length≤20000):sgZ gFt t=⟨[],0,0⟩∧∀ x,vl gFt (sg0 t) x→x=f:=by
 refine MV h2 (DZ h ?_);obtain ⟨l,h1,h3⟩:=DR bl (OB h).tokL 0 0 LC (fun d hd=>by cases hd;rfl)
 have e:∀ o,tkA o LC=[]:=fun o=>by
  have:=GX (o:=o) (p:=LC) (m:=[]) (by simp [LC,bZ,eR]);rw [List.append_nil,QV] at this;exact this
 rw [QW,ht,LQ h,h1,e,List.append_nil,h3]
end Go.Proofs.YthhoebdlfjffkaaGreatDoor
namespace Go.Proofs.YthhoebdlfjffkaaGreatDoor
open Go.RowKit Go.Par Go.Sx
theorem Fx.zero52:dY Tryz.prog 52=some [Go.Value.slice none 0 0]:=by kernel_rfl
theorem RA {H H':Hp} {s:Str} {l:List Value} (h:aN H 1 [gZ s] l) (hs:s.length≤1000000):aN H' 1 [gZ s] l:=by
 obtain ⟨rfl,_⟩:=kV (CJ h);exact .single (sU hs) Z
theorem EQ (H:Hp) (G:Gl H) (t:Str) (ht:t.length≤1000000000000) (hs:∀ x∈gP t,x.t.length≤1000000) (w:World) (hA:Agr H w) :
 Calls Tryz.prog 18 #[aD t] w fun r w'=>∃ (v:Value) (H':Hp),Rep H' (.seq 1 (((gP t).map (·.t)).map gZ)) [v]∧r=.returned v∧nB H w H' w':=by
 refine Sx.enterM (H:=H) Tryz.func18 rfl Tryz.ntmps18 rfl hA ?_;refine .sr<|.a Z Z<|.ns<|.al Fx.zero52 Z fun b3=>.nt<|.sq<|.sr<|.mv Z<|.ct (X:=Nat) Fx.call37 Z (fun W s=>HX H t W s.agr) Z fun b1 H1 m1 u1=>.nt<|.bk<|?_
 refine Sx.row0 9 1 ?_
 refine At.rfB (α:=TkS) (Z:=Value × Nat × List Value) (N:=t.length+1) (e:=9) (T:=52) (TX:=96) (size:=1) (p:=b3) (fx:=[]) (enc:=fun x:TkS=>.agg (cTk .u8 x.1).toArray) (S:=fun xs=>xs.map (·.1)=gP t)
  (fun pre z=>z.2.1=pre.length∧aN H1 1 ((pre.map (·.1.t)).map gZ) z.2.2) (fun z=>z.1) (fun z=>z.2.1) (fun z=>z.2.2) (fun _=>[]) (.slice none 0 0,0,[])
  (fun _ b=>[(3,.pointer (some ⟨b3,0,none⟩)),(4,.pointer (some ⟨b,0,none⟩))]) (fun x=>cTk .u8 x.1) rfl (fun _ _=>kJ Fx.call68) rfl (fun w hA=>HW H1 (G.up u1.up) t (by omega) hs b1 m1 w hA) ⟨rfl,aN.nil⟩ rfl rfl ?_ ?_ ?_
 ·intro l x bs' K h;exact .rgI<|.alI Fx.zero96 Z fun b=>.sWI .head Z Z Fx.size96 (by simp [cTk,Value.oneCell',aD]) Z<|.nlI<|.tN<|fun a W f s=>h b a W (f.sub ⟨rfl,rfl,trivial⟩) s
 ·intro l' pre x z tl b H2 hC hlen u2 m2;obtain ⟨v,k,xs⟩:=z;obtain ⟨hk,hz⟩:=hC;dsimp only at hk hz ⊢;change At [] _ _ H2 w (.row 9 1 v k xs::.box b3 [v] 52::tl) _;refine At.ra (.head _) fun pv cv ev=>?_;subst ev;refine .bkI<|.rgI<|.yvI (.load Z Fx.agg52 aQ Z) Z<|.yvI (.fieldAddr Z Fx.field96_1) Z<|.yvI (.loadM Z Fx.agg9 m2 (k:=1) Z Z) Z<|.blI Z (Fx.bsl52_1 _) Z fun b11=>?_
  refine Sx.freezeBox fun H3 u3 m3=>?_;refine .apDI Fx.row52 Z (fun _ _=>.head) Z (Rep.mk (n:=1) (c:=1) (ds:=[gZ x.1.t]) m3 (.single (sU x.2) Z) Z (Nat.le_refl _) (by decide)) (by simp [maxLen];omega) (by omega) Z fun xs12 r12 hz12=>?_;refine At.ra (.head _) fun p12 c12 e12=>?_;subst e12;refine .stI bV Z Z Fx.size52 Z (nb Z) Z<|.nlI<|.bN<|?_
  refine At.rE ((.slice p12 (k+1) c12,k+1,xs++xs12):Value × Nat × List Value) (u2.trans u3.up) ?_ rfl;exact ⟨by simp [hk],by rw [List.map_append,List.map_append];exact hz.app (RA hz12 x.2)⟩
 intro D ys z hS hC;obtain ⟨v,k,xs⟩:=z;obtain ⟨hk,hz⟩:=hC;dsimp only at hk hz ⊢;change At _ _ _ H1 w (.obj D (.deferred (some []))::.row 9 1 v k xs::.box b3 [v] 52::[]) _;refine .bN<|.tN<|.sr<|.yw (.load Z Fx.agg52 cK Z)<|.a Z Z<|.nt<|.rt<|?_
 refine At.pm [1,0,2] [_,_,_] rfl rfl ?_;have hz2:aN H1 1 (((gP t).map (·.t)).map gZ) xs:=by rw [← hS,List.map_map (g:=fun x:Tk=>x.t)];exact hz
 have hlen:(((gP t).map (·.t)).map gZ).length=k:=by rw [List.length_map,List.length_map,← hS,List.length_map,hk]
 refine Sx.freezeSeq hlen hz2 fun H4 p4 c4 u4 e4 h4=>?_;refine Sx.retM (.inl rfl) .head ?_;refine Sx.ret1 (.inl rfl) rfl (.tmp rfl) fun W s=>⟨v,H4,h4,rfl,(u1.trans u4).grow s⟩
def mkC (M:Mk) (arV bv:Value) (left:Int):List Value:=[.int .i64 (M.ints:Nat),.int .i64 (M.tables:Nat),.int .i64 (M.flags:Nat),.int .i64 (M.own:Nat),arV,.int .i64 (M.params:Nat),bv,.int .i64 left]
theorem pM (H:Hp) (a b:Nat) (w:World) (hA:Agr H w):Calls Tryz.prog 64 #[.int .i64 (a:Nat),.int .i64 (b:Nat)] w fun r w'=>r=.returned (.int .i64 ((min a b:Nat):Int))∧Ext w w':=by
 refine Sx.enter (H:=H) Tryz.func64 rfl Tryz.ntmps64 rfl hA ?_;refine .sr<|.a Z Z<|.nt<|.sq<|.sr<|.mv Z<|.mv Z<|.yw (.lss Z Z)<|.nt<|.cd Z (fun h7=>?_) (fun h7=>?_)
 ·try simp only [dt] at h7
  refine .sr<|.mv Z<|.a Z Z<|.nt<|.rt<|.tR<|?_
  refine Sx.ret1 (.inl rfl) rfl (.tmp rfl) fun W s=>⟨?_,s.ext⟩
  first
   | (rw [Nat.min_eq_left (by omega)])
   | (rw [Nat.min_eq_right (by omega)])
 try simp only [df] at h7
 refine .sk<|.tN<|.sr<|.mv Z<|.a Z Z<|.nt<|.rt<|?_
 refine Sx.ret1 (.inl rfl) rfl (.tmp rfl) fun W s=>⟨?_,s.ext⟩
 first
  | (rw [Nat.min_eq_left (by omega)])
  | (rw [Nat.min_eq_right (by omega)])
theorem fJ (H:Hp) (c:UInt8) (n:Nat) (hn:n≤100) (w:World) (hA:Agr H w):Calls Tryz.prog 65 #[.int .u8 c.toNat,.int .i64 (n:Nat)] w fun r w'=>∃ (v:Value) (H':Hp),Rep H' (.seq 1 ((jN c n).map gZ)) [v]∧r=.returned v∧nB H w H' w':=by
 refine Sx.enter (H:=H) Tryz.func65 rfl Tryz.ntmps65 rfl hA ?_;refine .sr<|.a Z Z<|.ns<|.a Z Z<|?_
 refine Sx.row0 9 1 ?_;refine .nt<|.sq<|.sr<|.a Z Z<|.nt<|.bk<|.lp (X:=Nat × Value × List Value) [(0,_),(1,_)] ⟨rfl,rfl,trivial⟩ [] (fun z=>[(5,z.2.1),(6,.int .i64 (z.1:Nat))]) (fun z=>H) (fun z=>[.row 9 1 z.2.1 z.1 z.2.2]) (fun z=>z.1≤n∧aN H 1 ((jN c z.1).map gZ) z.2.2) (fun z=>n - z.1) (0,.slice none 0 0,[]) (fun _ s=>s) ⟨rfl,rfl,trivial⟩ ⟨by omega,aN.nil⟩ fun z hC=>?_
 obtain ⟨k,r,xs⟩:=z;dsimp only at hC ⊢;obtain ⟨hk0,hz⟩:=hC;refine .sq<|.sr<|.mv Z<|.mv Z<|.yw (.lss Z Z)<|.nt<|.cd Z (fun h9=>?_) (fun h9=>?_)
 ·try simp only [dt] at h9
  have hk:k<n:=by omega
  exact .sk<|.tN<|.sq<|.bk<|.rg<|.mv Z<|.mv Z<|.mv Z<|.yw (.add Z Z (c:=((48+k:Nat):Int)) ((w6 (by omega)).trans (by omega)))<|.yw (.conv Z Fx.int3 Fx.int5 (c:=(((UInt8.ofNat (48+k)).toNat:Nat):Int)) (by rw [show ((UInt8.ofNat (48+k)).toNat:Int)=((48+k:Nat):Int) by simp [UInt8.toNat_ofNat'];omega];simp only [IntKind.wrap,IntKind.signed,IntKind.bits];simp;omega))<|.bl Z (Fx.bsl40_2 _ _) Z fun b17=>.yw (.bytesStr (l:=nmB c k) Fx.bytes40 Fx.str9 Z Z (.box (.head _) z0))<|.bl Z (Fx.bsl52_1 _) Z fun b19=>.ap (news:=[aD (nmB c k)]) Fx.row52 Z (fun _=>cL) Z (.box (.head _) z0) Z (by simp [Value.oneCell',aD]) (by simp [maxLen];omega) (by omega) Z fun r20 _=>.a Z Z<|.nl<|.bN<|.tN<|.rg<|.mv Z<|.yw (.add Z Z (w6 (by omega)))<|.a Z Z<|.nt<|.ag (x:=(k,r,xs)) (k+1,r20,xs++[aD (nmB c k)]) ⟨rfl,rfl,trivial⟩ ⟨rfl,rfl,trivial⟩ (fun _ s=>(s.pick [2] _ Z Z)) ⟨by dsimp only;omega,by dsimp only;rw [DB,List.map_append];exact hz.snoc (MN (by simp [nmB])) Z⟩ (by dsimp only;omega)
 try simp only [df] at h9
 obtain rfl:k=n:=by omega
 refine .ex<|.tE<|.tE<|.bE<|.tN<|.sr<|.mv Z<|.a Z Z<|.nt<|.rt<|?_
 refine At.pm [0] [_] rfl rfl ?_;refine Sx.freezeSeq (ds:=(jN c k).map gZ) (by simp [dP]) hz fun H3 p3 c3 u3 hr3 hs3=>?_;exact Sx.ret1 (.inl rfl) rfl (.tmp rfl) fun W t=>⟨r,H3,hs3,rfl,u3.grow t⟩
theorem zP {H:Hp} {c:UInt8} {cs:List Value} (h:Rep H (dU8 c) cs):cs=[.int .u8 c.toNat]:=by unfold dU8 Rep at h;exact h.1
theorem gH {H:Hp} {w0 W:World} {bs:List Res} {b:Nat} {M:Mk} {arV bv:Value} {left:Int} {by_:Bs} (n:Nat) (hn:0<n) (hb:Rep H (.seq 1 ((by_).map dU8)) [bv]) (s:St H w0 (.box b (mkC M arV bv left) 172::bs) W) :
 Calls Tryz.prog 143 #[.pointer (some ⟨b,0,none⟩),.int .i64 (n:Nat)] W fun e W'=>∃ z:Value,Rep H (.seq 1 (((aF by_ n).2).map dU8)) [z]∧e=.returned (.int .i64 ((aF by_ n).1:Nat))∧St H w0 (.box b (mkC M arV z left) 172::bs) W':=by
 obtain ⟨p,c,e,hlen,_⟩:=hb.sl;simp only [List.cons.injEq,and_true,List.length_map] at e;subst e;rw [List.length_map] at hlen;have hcap:=hb.cap;refine Sx.enterS Tryz.func143 rfl Tryz.ntmps143 rfl s ?_;refine .sr<|.a Z Z<|.nt<|.sq<|.sr<|.mv Z<|.yw (.nilCheck Z)<|.yw (.fieldAddr Z Fx.field172_6)<|.yw (.load Z Fx.agg40 (.head _) Z)<|.yw (.lenSl Fx.sl40 Z)<|.yw (.eql Z Z)<|.nt<|.cd Z (fun h11=>?_) (fun h11=>?_)
 ·try simp only [dt] at h11
  have h0:by_=[]:=List.eq_nil_of_length_eq_zero (by omega);subst h0;refine .sr<|.a Z Z<|.nt<|.rt<|.tR<|?_
  exact Sx.ret1 (.inl rfl) rfl (.tmp rfl) fun W t=>⟨_,hb,rfl,t⟩
 try simp only [df] at h11
 obtain ⟨bE,oE,cE,hpE,rE,lE,mE⟩:=hb.elem (aR (f:=dU8) (show 0<by_.length by omega));subst hpE;obtain rfl:=zP rE
 obtain ⟨cB,rB,hby⟩:∃ cB rB,by_=cB::rB:=by
  match by_,hlen with
  | [],_=>simp at h11
  | cB::rB,_=>exact ⟨cB,rB,rfl⟩
 subst hby;simp only [List.getElem_cons_zero] at mE;refine .sk<|.tN<|.sr<|.mv Z<|.yw (.nilCheck Z)<|.yw (.fieldAddr Z Fx.field172_6)<|.yw (.load Z Fx.agg40 (.head _) Z)<|.yw (.indexSl Fx.sl40 Z Z (i:=0) Z (by omega) (q:=oE+0 * 1) (by omega))<|.yw (.loadM Z Fx.agg5 mE (k:=0) Z Z)<|.yw (.conv Z Fx.int5 Fx.int3 (c:=((cB.toNat:Nat):Int)) (w64 (by have:=cB.toNat_lt;omega) (by have:=cB.toNat_lt;omega)))<|.a Z Z<|.ns<|.mv Z<|.mv Z<|.yw (.nilCheck Z)<|.yw (.fieldAddr Z Fx.field172_6)<|.yw (.load Z Fx.agg40 (.head _) Z)<|.yw (.cutLo Fx.sl40 Z Z (lo:=1) Z (by omega) hb.len.2.1)<|.yw (.nilCheck Z)<|.yw (.fieldAddr Z Fx.field172_6)<|.st (l':=mkC M arV _ left) .head Z Z Fx.size40 Z (nb Z) Z<|.ns<|.mv Z<|.mv Z<|.yw (.rem Z Z (by omega) (c:=((cB.toNat % n:Nat):Int)) (by rw [Int.tmod_eq_emod_of_nonneg (by omega)];omega))<|.a Z Z<|.nt<|.rt<|?_
 exact Sx.ret1 (.inl rfl) rfl (.tmp rfl) fun W t=>⟨_,NB hb (lo:=1) (by omega),rfl,t⟩
def okM (M:Mk):Prop:=0<M.ints∧M.ints≤3∧M.params≤2∧M.flags≤2
theorem jF {H:Hp} {c:UInt8} {n k cp:Nat} {p:Option Addr} (h:Rep H (.seq 1 ((jN c n).map gZ)) [.slice p n cp]) (hk:k<n):∃ b o,p=some ⟨b,o,none⟩∧dV H b (o+k * 1) [aD (nmB c k)]:=by
 obtain ⟨b,o,cs,e,r,l,m⟩:=h.elem (i:=k) (d:=gZ (nmB c k)) (by rw [List.getElem?_map,KM hk];rfl);obtain ⟨rfl,_⟩:=kV r;exact ⟨b,o,e,m⟩
theorem qN {H:Hp} {w0 W:World} {bs:List Res} {b:Nat} {M:Mk} {arV bv:Value} {left:Int} {by_:Bs} (hM:okM M) (hb:Rep H (.seq 1 ((by_).map dU8)) [bv]) (s:St H w0 (.box b (mkC M arV bv left) 172::bs) W) :
 Calls Tryz.prog 162 #[.pointer (some ⟨b,0,none⟩)] W fun e W'=>∃ z:Value × Hp,(HUp w0 H z.2∧Rep z.2 (.seq 1 (((aF by_ M.ints).2).map dU8)) [z.1])∧e=.returned (aD (nmB 120 (aF by_ M.ints).1))∧St z.2 w0 (.box b (mkC M arV z.1 left) 172::bs) W':=by
 refine Sx.enterS Tryz.func162 rfl Tryz.ntmps162 rfl s ?_;refine .sr<|.a Z Z<|.nt<|.sq<|.fL 9 [(1,0),(2,0),(3,0),(4,0),(5,0),(0,1),(6,2),(7,0),(8,0)]<|.mv Z<|.mv Z<|.yw (.nilCheck Z)<|.yw (.fieldAddr Z Fx.field172_0)<|.yw (.load Z Fx.agg3 (.head _) Z)<|.ct (X:=Value) Fx.call65 Z (fun W s=>fJ H 120 3 (by omega) W s.agr) Z fun v3 H3 hn3 u3=>?_
 obtain ⟨pn3,cn3,e3,_⟩:=hn3.sl;simp only [List.cons.injEq,and_true,List.length_map,dP] at e3;subst e3;obtain ⟨bE,oE,hpE,mE⟩:=jF hn3 (k:=(aF by_ M.ints).1) (by have:=cD by_ hM.1;have:=hM.2.1;omega);subst hpE;refine .cs (X:=Value) Fx.call143 Z (fun W s=>gH M.ints hM.1 (hb.up u3.up)  (s.p1_1 [0] Z)) Z fun z9 hz9=>.yw (.indexSl Fx.sl52 Z Z (i:=(aF by_ M.ints).1) Z (by have:=cD by_ hM.1;have:=hM.2.1;omega) (q:=oE+(aF by_ M.ints).1 * 1) Z)<|.yw (.loadM Z Fx.agg9 mE (k:=0) Z Z)<|.fn (tl:=[_]) Z<|.a Z Z<|.nt<|.rt<|?_
 exact Sx.ret1 (.inl rfl) rfl (.tmp rfl) fun W t=>⟨(z9,H3),⟨u3,hz9⟩,rfl,(t.p1_1 [0] rfl)⟩
def QG (rec:Bs→Ex × Bs) (M:Mk) (d:Nat):Prop:=∀ (H:Hp) (w0 W:World) (bs:List Res) (b:Nat) (arV bv:Value) (left:Int) (by_:Bs),Rep H (.seq 1 ((by_).map dU8)) [bv]→St H w0 (.box b (mkC M arV bv left) 172::bs) W →
 Calls Tryz.prog 160 #[.pointer (some ⟨b,0,none⟩),.int .i64 (d:Nat)] W fun e W'=>∃ z:List Value × Value × Hp,(HUp w0 H z.2.2∧Rep z.2.2 (dEx .i64 (rec by_).1) z.1∧Rep z.2.2 (.seq 1 (((rec by_).2).map dU8)) [z.2.1])∧e=.returned (.agg z.1.toArray)∧St z.2.2 w0 (.box b (mkC M arV z.2.1 left) 172::bs) W'
theorem RI {H:Hp} {n:Nat} (h:n<9):Rep H (dEx .i64 (.mk 1 [] (Int64.ofNat n) [])) [.int .i64 1,aD [],.int .i64 (n:Nat),.slice none 0 0]:=by
 have e:(Int64.ofNat n).toInt=(n:Int):=by
  have key:∀ i∈List.range 9,(Int64.ofNat i).toInt=(i:Int):=by decide
  exact key n (List.mem_range.2 h)
 have:=dO (H:=H) (k:=.i64) (op:=1) (nm:=[]) (n:=Int64.ofNat n) (args:=[]) (s:=.slice none 0 0) (by decide) (Rep.empty (by decide));rw [e] at this;exact this
theorem VD {k:Nat} (h:k<6):[Value.int .i64 14,.int .i64 15,.int .i64 11,.int .i64 12,.int .i64 13,.int .i64 14][k]? = some (.int .i64 (([14,15,11,12,13,14]:List UInt8).getD k 14).toNat):=by
 match k,h with
 | 0,_=>rfl
 | 1,_=>rfl
 | 2,_=>rfl
 | 3,_=>rfl
 | 4,_=>rfl
 | 5,_=>rfl
theorem tM (M:Mk) (hM:okM M) (d:Nat) (hd:d≤3) (rec:Bs→Ex × Bs) (hrec:d≤2→QG rec M (d+1)):QG (RS M d rec) M d:=by
 intro H w0 W bs b arV bv left by_ hb s;unfold RS;refine Sx.enterS Tryz.func160 rfl Tryz.ntmps160 rfl s ?_;refine .sr<|.al Fx.zero33 Z fun b4=>.ns<|.mv Z<|.cs (X:=Value) Fx.call143 Z (fun W s=>gH 12 (by decide) hb  (s.p2_2 [1,0] Z)) Z fun z9 hz9=>?_
 have hk12:=cD by_ (n:=12) (by decide);generalize (aF by_ 12).1=k at hk12 ⊢;generalize (aF by_ 12).2=b1 at hz9 ⊢;refine .a Z Z<|.nt<|.cu (X:=Unit) [(0,_),(1,_),(4,_)] ⟨rfl,rfl,rfl,trivial⟩ (fun z=>[]) (fun z=>H) (fun z=>(.box b (mkC M arV z9 left) 172::.box b4 [.int .i64 0,.string ⟨#[]⟩,.int .i64 0,.slice none 0 0] 33::bs)) (fun z=>¬ (k<2∨(2<d∧5<k))∧¬ (k<4∨(k=4∧M.params=0))∧¬ k=4∧¬ k=5∧¬ (k=6∧0<M.tables)∧¬ (k=7∧0<M.tables)∧¬ k=8) ?_ fun z hC=>?_
 ·
  refine .bk<|.cu (X:=Bool) [(0,_),(1,_),(4,_),(5,_)] ⟨rfl,rfl,rfl,rfl,trivial⟩ (fun z=>[(10,.bool z)]) (fun z=>H) (fun z=>(.box b (mkC M arV z9 left) 172::.box b4 [.int .i64 0,.string ⟨#[]⟩,.int .i64 0,.slice none 0 0] 33::bs)) (fun z=>z=decide (k<2∨(2<d∧5<k))) ?_ fun z hC=>?_
  ·
   refine .rg<|.mv Z<|.yw (.lss Z Z)<|.mv Z<|.b2 (fun h13=>?_) (fun h13=>?_)
   ·try simp only [dt] at h13
    exact .gG<|.gG<|.gG<|.gV<|.gV<|.gG<|.yw (.pickT Z Z)<|.a Z Z<|.nt<|.me _ ⟨rfl,trivial⟩ ⟨rfl,rfl,rfl,rfl,trivial⟩ (fun _ s=>s) (by rw [Bool.eq_iff_iff,decide_eq_true_eq];first | (rw [decide_eq_true_eq];omega) | exact ⟨fun _=>by omega,fun _=>rfl⟩ | exact ⟨fun h=>(by cases h),fun h=>by omega⟩)
   try simp only [df] at h13
   refine .gd Z Z<|.yw (.move Z)<|.gd Z Z<|.yw (.gtr Z Z)<|.gd Z Z<|.yw (.move Z)<|.b2 (fun h16=>?_) (fun h16=>?_)
   ·try simp only [dt] at h16
    exact .gd Z Z<|.yw (.move Z)<|.gd Z Z<|.yw (.gtr Z Z)<|.gd Z Z<|.yw (.pickT Z Z)<|.yw (.pickF Z Z)<|.a Z Z<|.nt<|.me _ ⟨rfl,trivial⟩ ⟨rfl,rfl,rfl,rfl,trivial⟩ (fun _ s=>s) (by rw [Bool.eq_iff_iff,decide_eq_true_eq];first | (rw [decide_eq_true_eq];omega) | exact ⟨fun _=>by omega,fun _=>rfl⟩ | exact ⟨fun h=>(by cases h),fun h=>by omega⟩)
   try simp only [df] at h16
   exact .gG<|.gG<|.gd Z Z<|.yw (.pickF Z Z)<|.yw (.pickF Z Z)<|.a Z Z<|.nt<|.me _ ⟨rfl,trivial⟩ ⟨rfl,rfl,rfl,rfl,trivial⟩ (fun _ s=>s) (by rw [Bool.eq_iff_iff,decide_eq_true_eq];first | (rw [decide_eq_true_eq];omega) | exact ⟨fun _=>by omega,fun _=>rfl⟩ | exact ⟨fun h=>(by cases h),fun h=>by omega⟩)
  have e10:=hC;refine .cd Z (fun h10=>?_) (fun h10=>?_)
  ·have q10:k<2∨(2<d∧5<k):=by rw [h10] at e10;exact of_decide_eq_true e10.symm
   refine .sr<|.mv Z<|.cs (X:=Value) Fx.call143 Z (fun W s=>gH 9 (by decide) hz9  (s.p2_2 [0,1] Z)) Z fun z22 hz22=>.yw (.build Z (Fx.bld33_0_2 _ _))<|.sW bV Z Z Fx.size33 (by simp [Value.oneCell',aD]) Z<|.nt<|.rt<|.bR<|.tR<|?_
   exact Sx.ret1 (.inl rfl) rfl (.cell rfl Fx.agg33 aQ rfl) fun W t=>⟨(_,_,H),by rw [show lW M d rec k b1=_ from by rw [lW,if_pos (by omega)]];exact ⟨.refl,RI (cD _ (by decide)),hz22⟩,rfl,(t.p2_1 [0] rfl)⟩
  have q10:¬ (k<2∨(2<d∧5<k)):=by rw [h10] at e10;exact of_decide_eq_false e10.symm
  refine .cu (X:=Bool) [(0,_),(1,_),(4,_),(5,_)] ⟨rfl,rfl,rfl,rfl,trivial⟩ (fun z=>[(24,.bool z)]) (fun z=>H) (fun z=>(.box b (mkC M arV z9 left) 172::.box b4 [.int .i64 0,.string ⟨#[]⟩,.int .i64 0,.slice none 0 0] 33::bs)) (fun z=>z=decide (k<4∨(k=4∧M.params=0))) ?_ fun z hC=>?_
  ·
   refine .rg<|.mv Z<|.yw (.lss Z Z)<|.mv Z<|.b2 (fun h27=>?_) (fun h27=>?_)
   ·try simp only [dt] at h27
    exact .gG<|.gG<|.gG<|.gV<|.gV<|.gV<|.gV<|.gV<|.gG<|.yw (.pickT Z Z)<|.a Z Z<|.nt<|.me _ ⟨rfl,trivial⟩ ⟨rfl,rfl,rfl,rfl,trivial⟩ (fun _ s=>s) (by rw [Bool.eq_iff_iff,decide_eq_true_eq];first | (rw [decide_eq_true_eq];omega) | exact ⟨fun _=>by omega,fun _=>rfl⟩ | exact ⟨fun h=>(by cases h),fun h=>by omega⟩)
   try simp only [df] at h27
   refine .gd Z Z<|.yw (.move Z)<|.gd Z Z<|.yw (.eql Z Z)<|.gd Z Z<|.yw (.move Z)<|.b2 (fun h30=>?_) (fun h30=>?_)
   ·try simp only [dt] at h30
    exact .gd Z Z<|.yw (.move Z)<|.gd Z Z<|.yw (.nilCheck Z)<|.gd Z Z<|.yw (.fieldAddr Z Fx.field172_5)<|.gd Z Z<|.yw (.load Z Fx.agg3 (.head _) Z)<|.gd Z Z<|.yw (.eql Z Z)<|.gd Z Z<|.yw (.pickT Z Z)<|.yw (.pickF Z Z)<|.a Z Z<|.nt<|.me _ ⟨rfl,trivial⟩ ⟨rfl,rfl,rfl,rfl,trivial⟩ (fun _ s=>s) (by rw [Bool.eq_iff_iff,decide_eq_true_eq];first | (rw [decide_eq_true_eq];omega) | exact ⟨fun _=>by omega,fun _=>rfl⟩ | exact ⟨fun h=>(by cases h),fun h=>by omega⟩)
   try simp only [df] at h30
   exact .gG<|.gG<|.gG<|.gG<|.gG<|.gd Z Z<|.yw (.pickF Z Z)<|.yw (.pickF Z Z)<|.a Z Z<|.nt<|.me _ ⟨rfl,trivial⟩ ⟨rfl,rfl,rfl,rfl,trivial⟩ (fun _ s=>s) (by rw [Bool.eq_iff_iff,decide_eq_true_eq];first | (rw [decide_eq_true_eq];omega) | exact ⟨fun _=>by omega,fun _=>rfl⟩ | exact ⟨fun h=>(by cases h),fun h=>by omega⟩)
  have e24:=hC;refine .cd Z (fun h24=>?_) (fun h24=>?_)
  ·have q24:k<4∨(k=4∧M.params=0):=by rw [h24] at e24;exact of_decide_eq_true e24.symm
   refine .sr<|.mv Z<|.cs (X:=Value × Hp) Fx.call162 Z (fun W s=>qN hM hz9  (s.p2_2 [0,1] Z)) Z fun z39 hz39=>.yw (.build Z (Fx.bld33_0_1 _ _))<|.sW bV Z Z Fx.size33 (by simp [Value.oneCell',aD]) Z<|.nt<|.rt<|.bR<|.tR<|?_
   exact Sx.ret1 (.inl rfl) rfl (.cell rfl Fx.agg33 aQ rfl) fun W t=>⟨(_,_,z39.2),by rw [show lW M d rec k b1=_ from by rw [lW,if_neg (by omega),if_pos (by omega)]];exact ⟨hz39.1,dO (args:=[]) (by simp [nmB]) (Rep.empty (by decide)),hz39.2⟩,rfl,(t.p2_1 [0] rfl)⟩
  have q24:¬ (k<4∨(k=4∧M.params=0)):=by rw [h24] at e24;exact of_decide_eq_false e24.symm
  refine .sr<|.mv Z<|.yw (.eql Z Z)<|.a Z Z<|.nt<|.cd Z (fun h41=>?_) (fun h41=>?_)
  ·try simp only [dt] at h41
   refine .sq<|.fL 10 [(1,0),(2,0),(3,0),(4,0),(5,0),(0,1),(6,2),(7,0),(8,0),(9,0)]<|.mv Z<|.mv Z<|.yw (.nilCheck Z)<|.yw (.fieldAddr Z Fx.field172_5)<|.yw (.load Z Fx.agg3 (.head _) Z)<|.ct (X:=Value) Fx.call65 Z (fun W s=>fJ H 112 2 (by omega) W s.agr) Z fun v44 H44 hn44 u44=>?_
   obtain ⟨pn44,cn44,e44,_⟩:=hn44.sl;simp only [List.cons.injEq,and_true,List.length_map,dP] at e44;subst e44;obtain ⟨bE,oE,hpE,mE⟩:=jF hn44 (k:=(aF b1 M.params).1) (by have:=cD b1 (n:=M.params) (by omega);have:=hM.2.2.1;omega);subst hpE;refine .cs (X:=Value) Fx.call143 Z (fun W s=>gH M.params (by omega) (hz9.up u44.up)  (s.p2_2 [0,1] Z)) Z fun z50 hz50=>.yw (.indexSl Fx.sl52 Z Z (i:=(aF b1 M.params).1) Z (by have:=cD b1 (n:=M.params) (by omega);have:=hM.2.2.1;omega) (q:=oE+(aF b1 M.params).1 * 1) Z)<|.yw (.loadM Z Fx.agg9 mE (k:=0) Z Z)<|.yw (.build Z (Fx.bld33_0_1 _ _))<|.fn (tl:=[_]) Z<|.sW bV Z Z Fx.size33 (by simp [Value.oneCell',aD]) Z<|.nt<|.rt<|.bR<|.tR<|?_
   exact Sx.ret1 (.inl rfl) rfl (.cell rfl Fx.agg33 aQ rfl) fun W t=>⟨(_,_,H44),by rw [show lW M d rec k b1=_ from by rw [lW,if_neg (by omega),if_neg (by omega),if_pos (by omega)]];exact ⟨u44,dO (args:=[]) (by simp [nmB]) (Rep.empty (by decide)),hz50⟩,rfl,(t.p2_1 [0] rfl)⟩
  try simp only [df] at h41
  refine .sr<|.mv Z<|.yw (.eql Z Z)<|.a Z Z<|.nt<|.cd Z (fun h54=>?_) (fun h54=>?_)
  ·try simp only [dt] at h54
   refine .sr<|.yw (.build Z (Fx.bld33_0 _))<|.sW bV Z Z Fx.size33 (by simp [Value.oneCell',aD]) Z<|.nt<|.rt<|.bR<|.tR<|?_
   exact Sx.ret1 (.inl rfl) rfl (.cell rfl Fx.agg33 aQ rfl) fun W t=>⟨(_,_,H),by rw [show lW M d rec k b1=_ from by rw [lW,if_neg (by omega),if_neg (by omega),if_neg (by omega),if_pos (by omega)]];exact ⟨.refl,dO (args:=[]) (nm:=[]) (by decide) (Rep.empty (by decide)),hz9⟩,rfl,(t.p2_1 [0] rfl)⟩
  try simp only [df] at h54
  refine .cu (X:=Bool) [(0,_),(1,_),(4,_),(5,_)] ⟨rfl,rfl,rfl,rfl,trivial⟩ (fun z=>[(58,.bool z)]) (fun z=>H) (fun z=>(.box b (mkC M arV z9 left) 172::.box b4 [.int .i64 0,.string ⟨#[]⟩,.int .i64 0,.slice none 0 0] 33::bs)) (fun z=>z=decide (k=6∧0<M.tables)) ?_ fun z hC=>?_
  ·
   refine .rg<|.mv Z<|.yw (.eql Z Z)<|.mv Z<|.b2 (fun h61=>?_) (fun h61=>?_)
   ·try simp only [dt] at h61
    exact .gd Z Z<|.yw (.move Z)<|.gd Z Z<|.yw (.nilCheck Z)<|.gd Z Z<|.yw (.fieldAddr Z Fx.field172_1)<|.gd Z Z<|.yw (.load Z Fx.agg3 (.head _) Z)<|.gd Z Z<|.yw (.gtr Z Z)<|.yw (.pickT Z Z)<|.a Z Z<|.nt<|.me _ ⟨rfl,trivial⟩ ⟨rfl,rfl,rfl,rfl,trivial⟩ (fun _ s=>s) (by rw [Bool.eq_iff_iff,decide_eq_true_eq];first | (rw [decide_eq_true_eq];omega) | exact ⟨fun _=>by omega,fun _=>rfl⟩ | exact ⟨fun h=>(by cases h),fun h=>by omega⟩)
   try simp only [df] at h61
   exact .gG<|.gG<|.gG<|.gG<|.gG<|.yw (.pickF Z Z)<|.a Z Z<|.nt<|.me _ ⟨rfl,trivial⟩ ⟨rfl,rfl,rfl,rfl,trivial⟩ (fun _ s=>s) (by rw [Bool.eq_iff_iff,decide_eq_true_eq];first | (rw [decide_eq_true_eq];omega) | exact ⟨fun _=>by omega,fun _=>rfl⟩ | exact ⟨fun h=>(by cases h),fun h=>by omega⟩)
  have e58:=hC;refine .cd Z (fun h58=>?_) (fun h58=>?_)
  ·have q58:k=6∧0<M.tables:=by rw [h58] at e58;exact of_decide_eq_true e58.symm
   refine .sr<|.mv Z<|.mv Z<|.yw (.add Z Z (c:=((d+1:Nat):Int)) ((w6 (by omega)).trans (by omega)))<|.cs (X:=List Value × Value × Hp) Fx.call160 Z (fun W s=>hrec (by omega) H w0 W _ b arV _ left b1 hz9  (s.p2_2 [0,1] Z)) Z fun z71 hz71=>?_
   obtain ⟨x71,v71,H71⟩:=z71;obtain ⟨u71,r71,q71⟩:=hz71;dsimp only at u71 r71 q71 ⊢;generalize hE71:(rec b1).1=e71 at r71;obtain ⟨op71,nm71,n71,a71⟩:=e71;obtain ⟨p71,c71,rfl,hs71,hl71⟩:=bY r71;refine .bl Z (Fx.bsl31_1 _ _ _ _) Z fun b72=>.yw (.build Z (Fx.bld33_0_1_3 _ _ _ _ _))<|.sW cL Z Z Fx.size33 (by simp [Value.oneCell',aD]) Z<|.nt<|.rt<|.bR<|.tR<|?_
   refine At.pt (hd:=[_,_,_]) (tl:=bs) (hd':=[_,_,_]) [0,2,1] rfl rfl ?_;refine Sx.freezeBox fun Hf uf mf=>?_;exact Sx.ret1 (.inl rfl) rfl (.cell rfl Fx.agg33 (.head _) rfl) fun W t=>⟨(_,_,Hf),by rw [show lW M d rec k b1=_ from by rw [lW,if_neg (by omega),if_neg (by omega),if_neg (by omega),if_neg (by omega),if_pos (by omega)],hE71];exact ⟨u71.trans uf,dO (nm:=[116,48]) (args:=[.mk op71 nm71 n71 a71]) (by decide) (Rep.mk (n:=1) (c:=1) mf (.single (r71.up uf.up) rfl) rfl (Nat.le_refl _) (by decide)),q71.up uf.up⟩,rfl,t.drop⟩
  have q58:¬ (k=6∧0<M.tables):=by rw [h58] at e58;exact of_decide_eq_false e58.symm
  refine .cu (X:=Bool) [(0,_),(1,_),(4,_),(5,_)] ⟨rfl,rfl,rfl,rfl,trivial⟩ (fun z=>[(74,.bool z)]) (fun z=>H) (fun z=>(.box b (mkC M arV z9 left) 172::.box b4 [.int .i64 0,.string ⟨#[]⟩,.int .i64 0,.slice none 0 0] 33::bs)) (fun z=>z=decide (k=7∧0<M.tables)) ?_ fun z hC=>?_
  ·
   refine .rg<|.mv Z<|.yw (.eql Z Z)<|.mv Z<|.b2 (fun h77=>?_) (fun h77=>?_)
   ·try simp only [dt] at h77
    exact .gd Z Z<|.yw (.move Z)<|.gd Z Z<|.yw (.nilCheck Z)<|.gd Z Z<|.yw (.fieldAddr Z Fx.field172_1)<|.gd Z Z<|.yw (.load Z Fx.agg3 (.head _) Z)<|.gd Z Z<|.yw (.gtr Z Z)<|.yw (.pickT Z Z)<|.a Z Z<|.nt<|.me _ ⟨rfl,trivial⟩ ⟨rfl,rfl,rfl,rfl,trivial⟩ (fun _ s=>s) (by rw [Bool.eq_iff_iff,decide_eq_true_eq];first | (rw [decide_eq_true_eq];omega) | exact ⟨fun _=>by omega,fun _=>rfl⟩ | exact ⟨fun h=>(by cases h),fun h=>by omega⟩)
   try simp only [df] at h77
   exact .gG<|.gG<|.gG<|.gG<|.gG<|.yw (.pickF Z Z)<|.a Z Z<|.nt<|.me _ ⟨rfl,trivial⟩ ⟨rfl,rfl,rfl,rfl,trivial⟩ (fun _ s=>s) (by rw [Bool.eq_iff_iff,decide_eq_true_eq];first | (rw [decide_eq_true_eq];omega) | exact ⟨fun _=>by omega,fun _=>rfl⟩ | exact ⟨fun h=>(by cases h),fun h=>by omega⟩)
  have e74:=hC;refine .cd Z (fun h74=>?_) (fun h74=>?_)
  ·have q74:k=7∧0<M.tables:=by rw [h74] at e74;exact of_decide_eq_true e74.symm
   refine .sr<|.yw (.build Z (Fx.bld33_0_1 _ _))<|.sW bV Z Z Fx.size33 (by simp [Value.oneCell',aD]) Z<|.nt<|.rt<|.bR<|.tR<|?_
   exact Sx.ret1 (.inl rfl) rfl (.cell rfl Fx.agg33 aQ rfl) fun W t=>⟨(_,_,H),by rw [show lW M d rec k b1=_ from by rw [lW,if_neg (by omega),if_neg (by omega),if_neg (by omega),if_neg (by omega),if_neg (by omega),if_pos (by omega)]];exact ⟨.refl,dO (args:=[]) (nm:=[116,48]) (by decide) (Rep.empty (by decide)),hz9⟩,rfl,(t.p2_1 [0] rfl)⟩
  have q74:¬ (k=7∧0<M.tables):=by rw [h74] at e74;exact of_decide_eq_false e74.symm
  refine .sr<|.mv Z<|.yw (.eql Z Z)<|.a Z Z<|.nt<|.cd Z (fun h85=>?_) (fun h85=>?_)
  ·try simp only [dt] at h85
   refine .sr<|.mv Z<|.mv Z<|.yw (.add Z Z (w6 (by omega)))<|.cs (X:=List Value × Value × Hp) Fx.call160 Z (fun W s=>hrec (by omega) H w0 W _ b arV _ left b1 hz9  (s.p2_2 [0,1] Z)) Z fun z91 hz91=>?_
   obtain ⟨x91,v91,H91⟩:=z91;obtain ⟨u91,r91,q91⟩:=hz91;dsimp only at u91 r91 q91 ⊢;generalize hE91:(rec b1).1=e91 at r91;obtain ⟨op91,nm91,n91,a91⟩:=e91;obtain ⟨p91,c91,rfl,hs91,hl91⟩:=bY r91;refine .bl Z (Fx.bsl31_1 _ _ _ _) Z fun b92=>.yw (.build Z (Fx.bld33_0_3 _ _ _ _))<|.sW cL Z Z Fx.size33 (by simp [Value.oneCell',aD]) Z<|.nt<|.rt<|.bR<|.tR<|?_
   refine At.pt (hd:=[_,_,_]) (tl:=bs) (hd':=[_,_,_]) [0,2,1] rfl rfl ?_;refine Sx.freezeBox fun Hf uf mf=>?_;exact Sx.ret1 (.inl rfl) rfl (.cell rfl Fx.agg33 (.head _) rfl) fun W t=>⟨(_,_,Hf),by rw [show lW M d rec k b1=_ from by rw [lW,if_neg (by omega),if_neg (by omega),if_neg (by omega),if_neg (by omega),if_neg (by omega),if_neg (by omega),if_pos (by omega)],hE91];exact ⟨u91.trans uf,dO (nm:=[]) (args:=[.mk op91 nm91 n91 a91]) (by decide) (Rep.mk (n:=1) (c:=1) mf (.single (r91.up uf.up) rfl) rfl (Nat.le_refl _) (by decide)),q91.up uf.up⟩,rfl,t.drop⟩
  try simp only [df] at h85
  exact .sk<|.bN<|.tN<|.me () trivial ⟨rfl,rfl,rfl,trivial⟩ (fun _ s=>s) (by omega)
 obtain ⟨hc1,hc2,hc3,hc4,hc5,hc6,hc7⟩:=hC;refine .sr<|.bl Z (Fx.bsl129_6 _ _ _ _ _ _) Z fun b94=>.mv Z<|.cs (X:=Value) Fx.call143 Z (fun W s=>gH 6 (by decide) hz9  (s.p3_3 [1,0,2] Z)) Z fun z96 hz96=>.yw (.indexSl Fx.sl129 Z Z (i:=(aF b1 6).1) Z (by have:=cD b1 (n:=6) (by decide);omega) (q:=(aF b1 6).1) (by omega))<|.yw (.load (v:=.int .i64 (([14,15,11,12,13,14]:List UInt8).getD (aF b1 6).1 14).toNat) Z Fx.agg3 aQ (VD (cD b1 (n:=6) (by decide))))<|.a Z Z<|.ns<|.mv Z<|.mv Z<|.yw (.add Z Z (w6 (by omega)))<|.cs (X:=List Value × Value × Hp) Fx.call160 Z (fun W s=>hrec (by omega) H w0 W _ b arV _ left (aF b1 6).2 hz96  (s.p3_3 [0,1,2] Z)) Z fun z102 hz102=>?_
 obtain ⟨x102,v102,H102⟩:=z102;obtain ⟨u102,r102,q102⟩:=hz102;dsimp only at u102 r102 q102 ⊢;generalize hE102:(rec (aF b1 6).2).1=e102 at r102;obtain ⟨op102,nm102,n102,a102⟩:=e102;obtain ⟨p102,c102,rfl,hs102,hl102⟩:=bY r102;refine .al Fx.zero33 Z fun b7=>.sW .head Z Z Fx.size33 (by simp [Value.oneCell',aD]) Z<|.nt<|.sq<|.fL 8 [(0,0),(1,0),(2,0),(3,0),(4,0),(5,3),(6,1),(7,0)]<|.mv Z<|.yw (.loadW Z Fx.agg33 (.head _) Z)<|.mv Z<|.mv Z<|.yw (.add Z Z (w6 (by omega)))<|.c3 (X:=List Value × Value × Hp) Fx.call160 Z (fun W s=>hrec (by omega) H102 w0 W _ b arV _ left (rec (aF b1 6).2).2 q102  (s.p4_4 [1,0,2,3] Z)) Z (fun z108 hz108=>(.dn<|.dn<|.dn<|.yv (.loadW Z Fx.agg33 aQ Z)<|.yv (.move Z)<|.nl)) fun z108 hz108=>?_
 obtain ⟨x108,v108,H108⟩:=z108;obtain ⟨u108,r108,q108⟩:=hz108;dsimp only at u108 r108 q108 ⊢;generalize hE108:(rec (rec (aF b1 6).2).2).1=e108 at r108;obtain ⟨op108,nm108,n108,a108⟩:=e108;obtain ⟨p108,c108,rfl,hs108,hl108⟩:=bY r108;refine .bl Z (Fx.bsl31_2 _ _ _ _ _ _ _ _) Z fun b109=>.yw (.build Z (Fx.bld33_0_3 _ _ _ _))<|.fn (tl:=[_]) Z<|.sW EP Z Z Fx.size33 (by simp [Value.oneCell',aD]) Z<|.nt<|.rt<|?_
 refine At.pt (hd:=[_,_,_,_,_]) (tl:=bs) (hd':=[_,_,_]) [0,4,1] rfl rfl ?_;refine Sx.freezeBox fun Hf uf mf=>?_;exact Sx.ret1 (.inl rfl) rfl (.cell rfl Fx.agg33 (.head _) rfl) fun W t=>⟨(_,_,Hf),by rw [show lW M d rec k b1=_ from by rw [lW,if_neg (by omega),if_neg (by omega),if_neg (by omega),if_neg (by omega),if_neg (by omega),if_neg (by omega),if_neg (by omega)],hE102,hE108];exact ⟨(u102.trans u108).trans uf,dO (nm:=[]) (args:=[.mk op102 nm102 n102 a102,.mk op108 nm108 n108 a108]) (by decide) (Rep.mk (n:=2) (c:=2) mf (aN.app (aN.single ((r102.up u108.up).up uf.up) rfl) (aN.single (r108.up uf.up) rfl)) rfl (Nat.le_refl _) (by decide)),q108.up uf.up⟩,rfl,t.drop⟩
theorem jE (M:Mk) (hM:okM M):∀ f,f≤3→QG (fC M f) M (3 - f)
 | 0,_=>tM M hM 3 (by omega) _ (fun h=>by omega)
 | f+1,hf=>by
  have e:3 - (f+1)=2 - f:=by omega
  rw [e];refine tM M hM (2 - f) (by omega) (fC M f) fun _=>?_;rw [show 2 - f+1=3 - f by omega];exact jE M hM f (by omega)
theorem iU {H:Hp} {w0 W:World} {bs:List Res} {b:Nat} {M:Mk} {arV bv:Value} {left:Int} {by_:Bs} (hM:okM M) (n:Nat) (hn:n≤100) (hb:Rep H (.seq 1 ((by_).map dU8)) [bv]) (s:St H w0 (.box b (mkC M arV bv left) 172::bs) W) :
 Calls Tryz.prog 161 #[.pointer (some ⟨b,0,none⟩),.int .i64 (n:Nat)] W fun e W'=>∃ z:Value × Value × Hp,(HUp w0 H z.2.2∧(∃ xs,aN z.2.2 4 ((jB M n by_).1.map (dEx .i64)) xs∧jH z.2.2 z.1 n xs∧(jB M n by_).1.length=n)∧Rep z.2.2 (.seq 1 (((jB M n by_).2).map dU8)) [z.2.1])∧e=.returned z.1∧St z.2.2 w0 (.box b (mkC M arV z.2.1 left) 172::bs) W':=by
 refine Sx.enterS Tryz.func161 rfl Tryz.ntmps161 rfl s ?_;refine .sr<|.a Z Z<|.ns<|.a Z Z<|?_
 refine Sx.row0 33 4 ?_;refine .nt<|.sq<|.sr<|.a Z Z<|.nt<|.bk<|.lp (X:=Nat × Hp × Value × List Value × Value) [(0,_),(1,_)] ⟨rfl,rfl,trivial⟩ (bs) (fun z=>[(5,z.2.2.1),(6,.int .i64 (z.1:Nat))]) (fun z=>z.2.1) (fun z=>[.row 33 4 z.2.2.1 z.1 z.2.2.2.1,.box b (mkC M arV z.2.2.2.2 left) 172]) (fun z=>z.1≤n∧HUp w0 H z.2.1∧∃ (es:List Ex) (b1:Bs),es.length=z.1∧aN z.2.1 4 (es.map (dEx .i64)) z.2.2.2.1∧Rep z.2.1 (.seq 1 ((b1).map dU8)) [z.2.2.2.2]∧jB M n by_=(es++(jB M (n - z.1) b1).1,(jB M (n - z.1) b1).2)) (fun z=>n - z.1) (0,H,.slice none 0 0,[],bv) (fun _ s=>s) ⟨rfl,rfl,trivial⟩ ⟨by dsimp only;omega,.refl,[],by_,rfl,aN.nil,hb,rfl⟩ fun z hC=>?_
 obtain ⟨k,H1,r,xs,bv⟩:=z;dsimp only at hC ⊢;obtain ⟨hk0,u1,es,b1,hlen,hz,hb1,heq⟩:=hC;refine .sq<|.sr<|.mv Z<|.mv Z<|.yw (.lss Z Z)<|.nt<|.cd Z (fun h9=>?_) (fun h9=>?_)
 ·try simp only [dt] at h9
  have hk:k<n:=by omega
  refine .sk<|.tN<|.sq<|.bk<|.rg<|.mv Z<|.mv Z<|.cs (X:=List Value × Value × Hp) Fx.call160 Z (fun W s=>jE M hM 2 (by decide) H1 w0 W _ b arV _ left b1 hb1  (s.p2_2 [1,0] Z)) Z fun z14 hz14=>?_
  obtain ⟨x14,v14,H14⟩:=z14;obtain ⟨u14,r14,q14⟩:=hz14;dsimp only at u14 r14 q14 ⊢;generalize hE14:(fC M 2 b1).1=e14 at r14;obtain ⟨op14,nm14,n14,a14⟩:=e14;obtain ⟨p14,c14,rfl,hs14,hl14⟩:=bY r14;exact .bl Z (Fx.bsl31_1 _ _ _ _) Z fun b15=>.ap (news:=[.int .i64 op14.toNat,aD nm14,.int .i64 n14.toInt,.slice p14 a14.length c14]) Fx.row31 Z (fun _=>cL) Z (.box (.head _) z0) Z (by simp [Value.oneCell',aD]) (by simp [maxLen];omega) (by omega) Z fun r16 _=>.a Z Z<|.nl<|.bN<|.tN<|.rg<|.mv Z<|.yw (.add Z Z (w6 (by omega)))<|.a Z Z<|.nt<|.ag (x:=(k,H1,r,xs,bv)) (k+1,H14,r16,xs++[.int .i64 op14.toNat,aD nm14,.int .i64 n14.toInt,.slice p14 a14.length c14],v14) ⟨rfl,rfl,trivial⟩ ⟨rfl,rfl,trivial⟩ (fun _ s=>(s.p3_2 [2,1] Z)) ⟨by dsimp only;omega,u1.trans u14,es++[.mk op14 nm14 n14 a14],(fC M 2 b1).2,by simp;omega,by dsimp only;rw [List.map_append];exact (hz.up u14.up).snoc r14 Z,q14,by dsimp only;rw [heq,show n - k=(n - (k+1))+1 by omega,jB,hE14,List.append_assoc];rfl⟩ (by dsimp only;omega)
 try simp only [df] at h9
 obtain rfl:k=n:=by omega
 rw [Nat.sub_self,jB,List.append_nil] at heq;refine .ex<|.tE<|.tE<|.bE<|.tN<|.sr<|.mv Z<|.a Z Z<|.nt<|.rt<|?_
 refine At.pt (hd:=[_,_]) (tl:=bs) (hd':=[_,_]) [0,1] rfl rfl ?_;refine Sx.freezeAt fun H3 u3 hs3=>?_;exact Sx.ret1 (.inl rfl) rfl (.tmp rfl) fun W t=>⟨(r,bv,H3),by rw [heq];exact ⟨u1.trans u3,⟨xs,hz.up u3.up,hs3,hlen⟩,hb1.up u3.up⟩,rfl,t⟩
def QE (rec:Bs→Ex × Bs) (M:Mk) (d:Nat):Prop:=∀ (H:Hp) (w0 W:World) (bs:List Res) (b:Nat) (arV bv:Value) (left:Int) (by_:Bs),Rep H (.seq 1 ((by_).map dU8)) [bv]→St H w0 (.box b (mkC M arV bv left) 172::bs) W →
 Calls Tryz.prog 159 #[.pointer (some ⟨b,0,none⟩),.int .i64 (d:Nat)] W fun e W'=>∃ z:List Value × Value × Hp,(HUp w0 H z.2.2∧Rep z.2.2 (dEx .i64 (rec by_).1) z.1∧Rep z.2.2 (.seq 1 (((rec by_).2).map dU8)) [z.2.1])∧e=.returned (.agg z.1.toArray)∧St z.2.2 w0 (.box b (mkC M arV z.2.1 left) 172::bs) W'
theorem op2 {n:Nat} (h:n<2):(((2+UInt8.ofNat n).toNat:Nat):Int)=2+(n:Int):=by
 have key:∀ i∈List.range 2,(2+UInt8.ofNat i).toNat=2+i:=by decide
 have:=key n (List.mem_range.2 h);omega
theorem VE {n:Nat} (h:n<10):(((16+UInt8.ofNat n).toNat:Nat):Int)=16+(n:Int):=by
 have key:∀ i∈List.range 10,(16+UInt8.ofNat i).toNat=16+i:=by decide
 have:=key n (List.mem_range.2 h);omega
theorem vH (M:Mk) (hM:okM M) (d:Nat) (hd:d≤2) (rec:Bs→Ex × Bs) (hrec:d≤1→QE rec M (d+1)):QE (QQ M d rec) M d:=by
 intro H w0 W bs b arV bv left by_ hb s;unfold QQ;refine Sx.enterS Tryz.func159 rfl Tryz.ntmps159 rfl s ?_;refine .sr<|.al Fx.zero33 Z fun b4=>.ns<|.mv Z<|.cs (X:=Value) Fx.call143 Z (fun W s=>gH 10 (by decide) hb  (s.p2_2 [1,0] Z)) Z fun z10 hz10=>?_
 have hk12:=cD by_ (n:=10) (by decide);generalize (aF by_ 10).1=k at hk12 ⊢;generalize (aF by_ 10).2=b1 at hz10 ⊢;refine .a Z Z<|.nt<|.cu (X:=Unit) [(0,_),(4,_)] ⟨rfl,rfl,trivial⟩ (fun z=>[]) (fun z=>H) (fun z=>(.box b (mkC M arV z10 left) 172::.box b4 [.int .i64 0,.string ⟨#[]⟩,.int .i64 0,.slice none 0 0] 33::bs)) (fun z=>¬ k=0∧¬ (k=1∨(1<d∧4<k))∧¬ (k=2∧0<M.flags)∧¬ (k=3∧0<M.tables)∧¬ k=5∧¬ (k=6∨k=7)) ?_ fun z hC=>?_
 ·
  refine .bk<|.sr<|.mv Z<|.yw (.eql Z Z)<|.a Z Z<|.nt<|.cd Z (fun h11=>?_) (fun h11=>?_)
  ·try simp only [dt] at h11
   refine .sr<|.mv Z<|.cs (X:=Value) Fx.call143 Z (fun W s=>gH 2 (by decide) hz10  (s.p2_2 [0,1] Z)) Z fun z15 hz15=>.yw (.add Z Z (c:=(((2+UInt8.ofNat (aF b1 2).1).toNat:Nat):Int)) (by have:=cD b1 (n:=2) (by decide);rw [op2 this];exact (w6 (by omega)).trans (by omega)))<|.yw (.build Z (Fx.bld33_0 _))<|.sW bV Z Z Fx.size33 (by simp [Value.oneCell',aD]) Z<|.nt<|.rt<|.bR<|.tR<|?_
   exact Sx.ret1 (.inl rfl) rfl (.cell rfl Fx.agg33 aQ rfl) fun W t=>⟨(_,_,H),by rw [show nE M d rec k b1=_ from by rw [nE,if_pos (by omega)]];exact ⟨.refl,dO (args:=[]) (nm:=[]) (by decide) (Rep.empty (by decide)),hz15⟩,rfl,(t.p2_1 [0] rfl)⟩
  try simp only [df] at h11
  refine .cu (X:=Bool) [(0,_),(1,_),(4,_),(5,_)] ⟨rfl,rfl,rfl,rfl,trivial⟩ (fun z=>[(18,.bool z)]) (fun z=>H) (fun z=>(.box b (mkC M arV z10 left) 172::.box b4 [.int .i64 0,.string ⟨#[]⟩,.int .i64 0,.slice none 0 0] 33::bs)) (fun z=>z=decide (k=1∨(1<d∧4<k))) ?_ fun z hC=>?_
  ·
   refine .rg<|.mv Z<|.yw (.eql Z Z)<|.mv Z<|.b2 (fun h21=>?_) (fun h21=>?_)
   ·try simp only [dt] at h21
    exact .gG<|.gG<|.gG<|.gV<|.gV<|.gG<|.yw (.pickT Z Z)<|.a Z Z<|.nt<|.me _ ⟨rfl,trivial⟩ ⟨rfl,rfl,rfl,rfl,trivial⟩ (fun _ s=>s) (by rw [Bool.eq_iff_iff,decide_eq_true_eq];first | (rw [decide_eq_true_eq];omega) | exact ⟨fun _=>by omega,fun _=>rfl⟩ | exact ⟨fun h=>(by cases h),fun h=>by omega⟩)
   try simp only [df] at h21
   refine .gd Z Z<|.yw (.move Z)<|.gd Z Z<|.yw (.gtr Z Z)<|.gd Z Z<|.yw (.move Z)<|.b2 (fun h24=>?_) (fun h24=>?_)
   ·try simp only [dt] at h24
    exact .gd Z Z<|.yw (.move Z)<|.gd Z Z<|.yw (.gtr Z Z)<|.gd Z Z<|.yw (.pickT Z Z)<|.yw (.pickF Z Z)<|.a Z Z<|.nt<|.me _ ⟨rfl,trivial⟩ ⟨rfl,rfl,rfl,rfl,trivial⟩ (fun _ s=>s) (by rw [Bool.eq_iff_iff,decide_eq_true_eq];first | (rw [decide_eq_true_eq];omega) | exact ⟨fun _=>by omega,fun _=>rfl⟩ | exact ⟨fun h=>(by cases h),fun h=>by omega⟩)
   try simp only [df] at h24
   exact .gG<|.gG<|.gd Z Z<|.yw (.pickF Z Z)<|.yw (.pickF Z Z)<|.a Z Z<|.nt<|.me _ ⟨rfl,trivial⟩ ⟨rfl,rfl,rfl,rfl,trivial⟩ (fun _ s=>s) (by rw [Bool.eq_iff_iff,decide_eq_true_eq];first | (rw [decide_eq_true_eq];omega) | exact ⟨fun _=>by omega,fun _=>rfl⟩ | exact ⟨fun h=>(by cases h),fun h=>by omega⟩)
  have e18:=hC;refine .cd Z (fun h18=>?_) (fun h18=>?_)
  ·have q18:k=1∨(1<d∧4<k):=by rw [h18] at e18;exact of_decide_eq_true e18.symm
   refine .sr<|.yw (.build Z (Fx.bld33_0_1 _ _))<|.sW bV Z Z Fx.size33 (by simp [Value.oneCell',aD]) Z<|.nt<|.rt<|.bR<|.tR<|?_
   exact Sx.ret1 (.inl rfl) rfl (.cell rfl Fx.agg33 aQ rfl) fun W t=>⟨(_,_,H),by rw [show nE M d rec k b1=_ from by rw [nE,if_neg (by omega),if_pos (by omega)]];exact ⟨.refl,dO (args:=[]) (nm:=[98,48]) (by decide) (Rep.empty (by decide)),hz10⟩,rfl,(t.p2_1 [0] rfl)⟩
  have q18:¬ (k=1∨(1<d∧4<k)):=by rw [h18] at e18;exact of_decide_eq_false e18.symm
  refine .cu (X:=Bool) [(0,_),(1,_),(4,_),(5,_)] ⟨rfl,rfl,rfl,rfl,trivial⟩ (fun z=>[(30,.bool z)]) (fun z=>H) (fun z=>(.box b (mkC M arV z10 left) 172::.box b4 [.int .i64 0,.string ⟨#[]⟩,.int .i64 0,.slice none 0 0] 33::bs)) (fun z=>z=decide (k=2∧0<M.flags)) ?_ fun z hC=>?_
  ·
   refine .rg<|.mv Z<|.yw (.eql Z Z)<|.mv Z<|.b2 (fun h33=>?_) (fun h33=>?_)
   ·try simp only [dt] at h33
    exact .gd Z Z<|.yw (.move Z)<|.gd Z Z<|.yw (.nilCheck Z)<|.gd Z Z<|.yw (.fieldAddr Z Fx.field172_2)<|.gd Z Z<|.yw (.load Z Fx.agg3 (.head _) Z)<|.gd Z Z<|.yw (.gtr Z Z)<|.yw (.pickT Z Z)<|.a Z Z<|.nt<|.me _ ⟨rfl,trivial⟩ ⟨rfl,rfl,rfl,rfl,trivial⟩ (fun _ s=>s) (by rw [Bool.eq_iff_iff,decide_eq_true_eq];first | (rw [decide_eq_true_eq];omega) | exact ⟨fun _=>by omega,fun _=>rfl⟩ | exact ⟨fun h=>(by cases h),fun h=>by omega⟩)
   try simp only [df] at h33
   exact .gG<|.gG<|.gG<|.gG<|.gG<|.yw (.pickF Z Z)<|.a Z Z<|.nt<|.me _ ⟨rfl,trivial⟩ ⟨rfl,rfl,rfl,rfl,trivial⟩ (fun _ s=>s) (by rw [Bool.eq_iff_iff,decide_eq_true_eq];first | (rw [decide_eq_true_eq];omega) | exact ⟨fun _=>by omega,fun _=>rfl⟩ | exact ⟨fun h=>(by cases h),fun h=>by omega⟩)
  have e30:=hC;refine .cd Z (fun h30=>?_) (fun h30=>?_)
  ·have q30:k=2∧0<M.flags:=by rw [h30] at e30;exact of_decide_eq_true e30.symm
   refine .sq<|.fL 10 [(1,0),(2,0),(3,0),(4,0),(5,0),(0,1),(6,2),(7,0),(8,0),(9,0)]<|.mv Z<|.mv Z<|.yw (.nilCheck Z)<|.yw (.fieldAddr Z Fx.field172_2)<|.yw (.load Z Fx.agg3 (.head _) Z)<|.ct (X:=Value) Fx.call65 Z (fun W s=>fJ H 102 2 (by omega) W s.agr) Z fun v40 H40 hn40 u40=>?_
   obtain ⟨pn40,cn40,e40,_⟩:=hn40.sl;simp only [List.cons.injEq,and_true,List.length_map,dP] at e40;subst e40;obtain ⟨bE,oE,hpE,mE⟩:=jF hn40 (k:=(aF b1 M.flags).1) (by have:=cD b1 (n:=M.flags) (by omega);have:=hM.2.2.2;omega);subst hpE;refine .cs (X:=Value) Fx.call143 Z (fun W s=>gH M.flags (by omega) (hz10.up u40.up)  (s.p2_2 [0,1] Z)) Z fun z46 hz46=>.yw (.indexSl Fx.sl52 Z Z (i:=(aF b1 M.flags).1) Z (by have:=cD b1 (n:=M.flags) (by omega);have:=hM.2.2.2;omega) (q:=oE+(aF b1 M.flags).1 * 1) Z)<|.yw (.loadM Z Fx.agg9 mE (k:=0) Z Z)<|.yw (.build Z (Fx.bld33_0_1 _ _))<|.fn (tl:=[_]) Z<|.sW bV Z Z Fx.size33 (by simp [Value.oneCell',aD]) Z<|.nt<|.rt<|.bR<|.tR<|?_
   exact Sx.ret1 (.inl rfl) rfl (.cell rfl Fx.agg33 aQ rfl) fun W t=>⟨(_,_,H40),by rw [show nE M d rec k b1=_ from by rw [nE,if_neg (by omega),if_neg (by omega),if_pos (by omega)]];exact ⟨u40,dO (args:=[]) (by simp [nmB]) (Rep.empty (by decide)),hz46⟩,rfl,(t.p2_1 [0] rfl)⟩
  have q30:¬ (k=2∧0<M.flags):=by rw [h30] at e30;exact of_decide_eq_false e30.symm
  refine .cu (X:=Bool) [(0,_),(1,_),(4,_),(5,_)] ⟨rfl,rfl,rfl,rfl,trivial⟩ (fun z=>[(50,.bool z)]) (fun z=>H) (fun z=>(.box b (mkC M arV z10 left) 172::.box b4 [.int .i64 0,.string ⟨#[]⟩,.int .i64 0,.slice none 0 0] 33::bs)) (fun z=>z=decide (k=3∧0<M.tables)) ?_ fun z hC=>?_
  ·
   refine .rg<|.mv Z<|.yw (.eql Z Z)<|.mv Z<|.b2 (fun h53=>?_) (fun h53=>?_)
   ·try simp only [dt] at h53
    exact .gd Z Z<|.yw (.move Z)<|.gd Z Z<|.yw (.nilCheck Z)<|.gd Z Z<|.yw (.fieldAddr Z Fx.field172_1)<|.gd Z Z<|.yw (.load Z Fx.agg3 (.head _) Z)<|.gd Z Z<|.yw (.gtr Z Z)<|.yw (.pickT Z Z)<|.a Z Z<|.nt<|.me _ ⟨rfl,trivial⟩ ⟨rfl,rfl,rfl,rfl,trivial⟩ (fun _ s=>s) (by rw [Bool.eq_iff_iff,decide_eq_true_eq];first | (rw [decide_eq_true_eq];omega) | exact ⟨fun _=>by omega,fun _=>rfl⟩ | exact ⟨fun h=>(by cases h),fun h=>by omega⟩)
   try simp only [df] at h53
   exact .gG<|.gG<|.gG<|.gG<|.gG<|.yw (.pickF Z Z)<|.a Z Z<|.nt<|.me _ ⟨rfl,trivial⟩ ⟨rfl,rfl,rfl,rfl,trivial⟩ (fun _ s=>s) (by rw [Bool.eq_iff_iff,decide_eq_true_eq];first | (rw [decide_eq_true_eq];omega) | exact ⟨fun _=>by omega,fun _=>rfl⟩ | exact ⟨fun h=>(by cases h),fun h=>by omega⟩)
  have e50:=hC;refine .cd Z (fun h50=>?_) (fun h50=>?_)
  ·have q50:k=3∧0<M.tables:=by rw [h50] at e50;exact of_decide_eq_true e50.symm
   refine .sr<|.mv Z<|.cs (X:=List Value × Value × Hp) Fx.call160 Z (fun W s=>jE M hM 2 (by decide) H w0 W _ b arV _ left b1 hz10  (s.p2_2 [0,1] Z)) Z fun z61 hz61=>?_
   obtain ⟨x61,v61,H61⟩:=z61;obtain ⟨u61,r61,q61⟩:=hz61;dsimp only at u61 r61 q61 ⊢;generalize hE61:(fC M 2 b1).1=e61 at r61;obtain ⟨op61,nm61,n61,a61⟩:=e61;obtain ⟨p61,c61,rfl,hs61,hl61⟩:=bY r61;refine .bl Z (Fx.bsl31_1 _ _ _ _) Z fun b62=>.yw (.build Z (Fx.bld33_0_1_3 _ _ _ _ _))<|.sW cL Z Z Fx.size33 (by simp [Value.oneCell',aD]) Z<|.nt<|.rt<|.bR<|.tR<|?_
   refine At.pt (hd:=[_,_,_]) (tl:=bs) (hd':=[_,_,_]) [0,2,1] rfl rfl ?_;refine Sx.freezeBox fun Hf uf mf=>?_;exact Sx.ret1 (.inl rfl) rfl (.cell rfl Fx.agg33 (.head _) rfl) fun W t=>⟨(_,_,Hf),by rw [show nE M d rec k b1=_ from by rw [nE,if_neg (by omega),if_neg (by omega),if_neg (by omega),if_pos (by omega)],hE61];exact ⟨u61.trans uf,dO (nm:=[116,48]) (args:=[.mk op61 nm61 n61 a61]) (by decide) (Rep.mk (n:=1) (c:=1) mf (.single (r61.up uf.up) rfl) rfl (Nat.le_refl _) (by decide)),q61.up uf.up⟩,rfl,t.drop⟩
  have q50:¬ (k=3∧0<M.tables):=by rw [h50] at e50;exact of_decide_eq_false e50.symm
  refine .sr<|.mv Z<|.yw (.eql Z Z)<|.a Z Z<|.nt<|.cd Z (fun h64=>?_) (fun h64=>?_)
  ·try simp only [dt] at h64
   refine .sr<|.mv Z<|.mv Z<|.yw (.add Z Z (c:=((d+1:Nat):Int)) ((w6 (by omega)).trans (by omega)))<|.cs (X:=List Value × Value × Hp) Fx.call159 Z (fun W s=>hrec (by omega) H w0 W _ b arV _ left b1 hz10  (s.p2_2 [0,1] Z)) Z fun z70 hz70=>?_
   obtain ⟨x70,v70,H70⟩:=z70;obtain ⟨u70,r70,q70⟩:=hz70;dsimp only at u70 r70 q70 ⊢;generalize hE70:(rec b1).1=e70 at r70;obtain ⟨op70,nm70,n70,a70⟩:=e70;obtain ⟨p70,c70,rfl,hs70,hl70⟩:=bY r70;refine .bl Z (Fx.bsl31_1 _ _ _ _) Z fun b71=>.yw (.build Z (Fx.bld33_0_3 _ _ _ _))<|.sW cL Z Z Fx.size33 (by simp [Value.oneCell',aD]) Z<|.nt<|.rt<|.bR<|.tR<|?_
   refine At.pt (hd:=[_,_,_]) (tl:=bs) (hd':=[_,_,_]) [0,2,1] rfl rfl ?_;refine Sx.freezeBox fun Hf uf mf=>?_;exact Sx.ret1 (.inl rfl) rfl (.cell rfl Fx.agg33 (.head _) rfl) fun W t=>⟨(_,_,Hf),by rw [show nE M d rec k b1=_ from by rw [nE,if_neg (by omega),if_neg (by omega),if_neg (by omega),if_neg (by omega),if_pos (by omega)],hE70];exact ⟨u70.trans uf,dO (nm:=[]) (args:=[.mk op70 nm70 n70 a70]) (by decide) (Rep.mk (n:=1) (c:=1) mf (.single (r70.up uf.up) rfl) rfl (Nat.le_refl _) (by decide)),q70.up uf.up⟩,rfl,t.drop⟩
  try simp only [df] at h64
  refine .cu (X:=Bool) [(0,_),(1,_),(4,_),(5,_)] ⟨rfl,rfl,rfl,rfl,trivial⟩ (fun z=>[(73,.bool z)]) (fun z=>H) (fun z=>(.box b (mkC M arV z10 left) 172::.box b4 [.int .i64 0,.string ⟨#[]⟩,.int .i64 0,.slice none 0 0] 33::bs)) (fun z=>z=decide (k=6∨k=7)) ?_ fun z hC=>?_
  ·
   refine .rg<|.mv Z<|.yw (.eql Z Z)<|.mv Z<|.b2 (fun h76=>?_) (fun h76=>?_)
   ·try simp only [dt] at h76
    exact .gG<|.gG<|.yw (.pickT Z Z)<|.a Z Z<|.nt<|.me _ ⟨rfl,trivial⟩ ⟨rfl,rfl,rfl,rfl,trivial⟩ (fun _ s=>s) (by rw [Bool.eq_iff_iff,decide_eq_true_eq];first | (rw [decide_eq_true_eq];omega) | exact ⟨fun _=>by omega,fun _=>rfl⟩ | exact ⟨fun h=>(by cases h),fun h=>by omega⟩)
   try simp only [df] at h76
   exact .gd Z Z<|.yw (.move Z)<|.gd Z Z<|.yw (.eql Z Z)<|.yw (.pickF Z Z)<|.a Z Z<|.nt<|.me _ ⟨rfl,trivial⟩ ⟨rfl,rfl,rfl,rfl,trivial⟩ (fun _ s=>s) (by rw [Bool.eq_iff_iff,decide_eq_true_eq];first | (rw [decide_eq_true_eq];omega) | exact ⟨fun _=>by omega,fun _=>rfl⟩ | exact ⟨fun h=>(by cases h),fun h=>by omega⟩)
  have e73:=hC;refine .cd Z (fun h73=>?_) (fun h73=>?_)
  ·have q73:k=6∨k=7:=by rw [h73] at e73;exact of_decide_eq_true e73.symm
   refine .sr<|.mv Z<|.mv Z<|.yw (.add Z Z (c:=((d+1:Nat):Int)) ((w6 (by omega)).trans (by omega)))<|.cs (X:=List Value × Value × Hp) Fx.call159 Z (fun W s=>hrec (by omega) H w0 W _ b arV _ left b1 hz10  (s.p2_2 [0,1] Z)) Z fun z83 hz83=>?_
   obtain ⟨x83,v83,H83⟩:=z83;obtain ⟨u83,r83,q83⟩:=hz83;dsimp only at u83 r83 q83 ⊢;generalize hE83:(rec b1).1=e83 at r83;obtain ⟨op83,nm83,n83,a83⟩:=e83;obtain ⟨p83,c83,rfl,hs83,hl83⟩:=bY r83;refine .al Fx.zero33 Z fun b6=>.sW .head Z Z Fx.size33 (by simp [Value.oneCell',aD]) Z<|.nt<|.sq<|.fL 9 [(0,0),(1,0),(2,0),(3,0),(4,0),(5,0),(6,3),(7,1),(8,0)]<|.mv Z<|.yw (.add Z Z (c:=(((16+UInt8.ofNat k).toNat:Nat):Int)) (by rw [VE hk12];exact (w6 (by omega)).trans (by omega)))<|.yw (.loadW Z Fx.agg33 (.head _) Z)<|.mv Z<|.mv Z<|.yw (.add Z Z (c:=((d+1:Nat):Int)) ((w6 (by omega)).trans (by omega)))<|.c3 (X:=List Value × Value × Hp) Fx.call159 Z (fun W s=>hrec (by omega) H83 w0 W _ b arV _ left (rec b1).2 q83  (s.p3_3 [1,0,2] Z)) Z (fun z90 hz90=>(.dn<|.dn<|.dn<|.yv (.loadW Z Fx.agg33 aQ Z)<|.yv (.add Z Z (c:=(((16+UInt8.ofNat k).toNat:Nat):Int)) (by rw [VE hk12];exact (w6 (by omega)).trans (by omega)))<|.yv (.move Z)<|.nl)) fun z90 hz90=>?_
   obtain ⟨x90,v90,H90⟩:=z90;obtain ⟨u90,r90,q90⟩:=hz90;dsimp only at u90 r90 q90 ⊢;generalize hE90:(rec (rec b1).2).1=e90 at r90;obtain ⟨op90,nm90,n90,a90⟩:=e90;obtain ⟨p90,c90,rfl,hs90,hl90⟩:=bY r90;refine .bl Z (Fx.bsl31_2 _ _ _ _ _ _ _ _) Z fun b91=>.yw (.build Z (Fx.bld33_0_3 _ _ _ _))<|.fn (tl:=[_]) Z<|.sW fS Z Z Fx.size33 (by simp [Value.oneCell',aD]) Z<|.nt<|.rt<|.bR<|.tR<|?_
   refine At.pt (hd:=[_,_,_,_]) (tl:=bs) (hd':=[_,_,_]) [0,3,1] rfl rfl ?_;refine Sx.freezeBox fun Hf uf mf=>?_;exact Sx.ret1 (.inl rfl) rfl (.cell rfl Fx.agg33 (.head _) rfl) fun W t=>⟨(_,_,Hf),by rw [show nE M d rec k b1=_ from by rw [nE,if_neg (by omega),if_neg (by omega),if_neg (by omega),if_neg (by omega),if_neg (by omega),if_pos (by omega)],hE83,hE90];exact ⟨(u83.trans u90).trans uf,dO (nm:=[]) (args:=[.mk op83 nm83 n83 a83,.mk op90 nm90 n90 a90]) (by decide) (Rep.mk (n:=2) (c:=2) mf (aN.app (aN.single ((r83.up u90.up).up uf.up) rfl) (aN.single (r90.up uf.up) rfl)) rfl (Nat.le_refl _) (by decide)),q90.up uf.up⟩,rfl,t.drop⟩
  have q73:¬ (k=6∨k=7):=by rw [h73] at e73;exact of_decide_eq_false e73.symm
  exact .sk<|.bN<|.tN<|.me () trivial ⟨rfl,rfl,trivial⟩ (fun _ s=>s) (by omega)
 obtain ⟨hc1,hc2,hc3,hc4,hc5,hc6⟩:=hC;refine .sr<|.mv Z<|.cs (X:=Value) Fx.call143 Z (fun W s=>gH 6 (by decide) hz10  (s.p2_2 [0,1] Z)) Z fun z94 hz94=>.yw (.add Z Z (c:=(((16+UInt8.ofNat (aF b1 6).1).toNat:Nat):Int)) (by have:=cD b1 (n:=6) (by decide);rw [VE (by omega)];exact (w6 (by omega)).trans (by omega)))<|.a Z Z<|.ns<|.mv Z<|.cs (X:=List Value × Value × Hp) Fx.call160 Z (fun W s=>jE M hM 2 (by decide) H w0 W _ b arV _ left (aF b1 6).2 hz94  (s.p2_2 [0,1] Z)) Z fun z97 hz97=>?_
 obtain ⟨x97,v97,H97⟩:=z97;obtain ⟨u97,r97,q97⟩:=hz97;dsimp only at u97 r97 q97 ⊢;generalize hE97:(fC M 2 (aF b1 6).2).1=e97 at r97;obtain ⟨op97,nm97,n97,a97⟩:=e97;obtain ⟨p97,c97,rfl,hs97,hl97⟩:=bY r97;refine .al Fx.zero33 Z fun b8=>.sW .head Z Z Fx.size33 (by simp [Value.oneCell',aD]) Z<|.nt<|.sq<|.fL 6 [(0,0),(1,0),(2,0),(3,3),(4,1),(5,0)]<|.mv Z<|.yw (.loadW Z Fx.agg33 (.head _) Z)<|.mv Z<|.c3 (X:=List Value × Value × Hp) Fx.call160 Z (fun W s=>jE M hM 2 (by decide) H97 w0 W _ b arV _ left (fC M 2 (aF b1 6).2).2 q97  (s.p3_3 [1,0,2] Z)) Z (fun z101 hz101=>(.dn<|.yv (.loadW Z Fx.agg33 aQ Z)<|.yv (.move Z)<|.nl)) fun z101 hz101=>?_
 obtain ⟨x101,v101,H101⟩:=z101;obtain ⟨u101,r101,q101⟩:=hz101;dsimp only at u101 r101 q101 ⊢;generalize hE101:(fC M 2 (fC M 2 (aF b1 6).2).2).1=e101 at r101;obtain ⟨op101,nm101,n101,a101⟩:=e101;obtain ⟨p101,c101,rfl,hs101,hl101⟩:=bY r101;refine .bl Z (Fx.bsl31_2 _ _ _ _ _ _ _ _) Z fun b102=>.yw (.build Z (Fx.bld33_0_3 _ _ _ _))<|.fn (tl:=[_]) Z<|.sW fS Z Z Fx.size33 (by simp [Value.oneCell',aD]) Z<|.nt<|.rt<|?_
 refine At.pt (hd:=[_,_,_,_]) (tl:=bs) (hd':=[_,_,_]) [0,3,1] rfl rfl ?_;refine Sx.freezeBox fun Hf uf mf=>?_;exact Sx.ret1 (.inl rfl) rfl (.cell rfl Fx.agg33 (.head _) rfl) fun W t=>⟨(_,_,Hf),by rw [show nE M d rec k b1=_ from by rw [nE,if_neg (by omega),if_neg (by omega),if_neg (by omega),if_neg (by omega),if_neg (by omega),if_neg (by omega)],hE97,hE101];exact ⟨(u97.trans u101).trans uf,dO (nm:=[]) (args:=[.mk op97 nm97 n97 a97,.mk op101 nm101 n101 a101]) (by decide) (Rep.mk (n:=2) (c:=2) mf (aN.app (aN.single ((r97.up u101.up).up uf.up) rfl) (aN.single (r101.up uf.up) rfl)) rfl (Nat.le_refl _) (by decide)),q101.up uf.up⟩,rfl,t.drop⟩
theorem oQ (M:Mk) (hM:okM M):∀ f,f≤2→QE (jZ M f) M (2 - f)
 | 0,_=>vH M hM 2 (by omega) _ (fun h=>by omega)
 | f+1,hf=>by
  have e:2 - (f+1)=1 - f:=by omega
  rw [e];refine vH M hM (1 - f) (by omega) (jZ M f) fun _=>?_;rw [show 1 - f+1=2 - f by omega];exact oQ M hM f (by omega)
end Go.Proofs.YthhoebdlfjffkaaGreatDoor
