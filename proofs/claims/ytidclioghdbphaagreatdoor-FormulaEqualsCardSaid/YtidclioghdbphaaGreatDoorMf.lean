/- Texts of the proof, one behind the other. -/
import Derived.Test.YtidclioghdbphaaGreatDoorMe
set_option linter.all false
set_option maxRecDepth 100000
namespace Go.Proofs.YtidclioghdbphaaGreatDoor
open Go.RowKit Go.Par Go.Sx Tryz
theorem fck1 {f:Fm} (h:60<f.count):fcheck f=3:=by unfold fcheck;rw [Al_if_pos (.inl h)]
theorem fck2 {f:Fm} (h:Fm.all shalB f=false):fcheck f=3:=by unfold fcheck;rw [Al_if_pos (.inr h)]
theorem fck0 {f:Fm} (h:¬ 60<f.count) (h2:Fm.all shalB f=true):¬ (60<f.count\/Fm.all shalB f=false):=λe=>by
 rcases e with e | e
 ·exact h e
 ·rw [h2] at e;cases e
theorem fck3 {f:Fm} (h:¬ 60<f.count) (h2:Fm.all shalB f=true) (h3:Fm.all namdB f=false):fcheck f=9:=by unfold fcheck;rw [Al_if_neg (fck0 h h2),Al_if_pos h3]
theorem fck4 {f:Fm} (h:¬ 60<f.count) (h2:Fm.all shalB f=true) (h3:Fm.all namdB f=true) (h4:Fm.all formB f=false):fcheck f=6:=by unfold fcheck;rw [Al_if_neg (fck0 h h2),Al_if_neg (by rw [h3];decide),Al_if_pos h4]
theorem fck5 {f:Fm} (h:¬ 60<f.count) (h2:Fm.all shalB f=true) (h3:Fm.all namdB f=true) (h4:Fm.all formB f=true):fcheck f=0:=by unfold fcheck;rw [Al_if_neg (fck0 h h2),Al_if_neg (by rw [h3];decide),Al_if_neg (by rw [h4];decide)]
theorem fcheck_any (H:Hp) (G:Gl H) (Gt:Gf H) (f:Fm) (hb:blF 600000 f=true) (cs:List Value) (w:World) (h:Rep H (dFm .u8 f) cs) (hA:Agr H w):Calls prg 15 #[.agg cs.toArray] w λr w'=>r=.returned (iN (fcheck f))/\Ext w w':=by
 obtain ⟨op,nm,fd,a,b,ex,args⟩:=f;obtain ⟨p1,c1,p2,c2,rfl,hs1,hs2,hnm,hfd⟩:=fm_open h;refine Sx.enter (H:=H) func15 rfl ntmps15 rfl hA ?_;refine .sr<|.bx Z Z Z λb1=>.aq Z<|.sq<|.bk<|.sq<|.sr<|.yw (.loadW Z Fx.agg35 Hm Z)<|.yw (.call Fx.call34 Z (λW s=>count_any H (.mk op nm fd a b ex args) 60 600000 (by decide) hb (.inr (by decide)) (.inl (by decide)) (by decide) _ W h s.agr))<|.yw (.gtr Z Z)<|.aq Z<|.cr Z (λh3=>?_) (λh3=>?_)
 ·have hc:60<Fm.count (.mk op nm fd a b ex args):=by have:=Al_of_decide_eq_true h3;omega
  refine .sk<|.tN<|.cT Z<|.sr<|.az Z<|.bR<|.tR<|?_
  refine y9 Z Z λW s=>⟨?_,s.ext⟩
  first
   | (rw [fck1 hc];rfl)
   | (rw [fck2 hs];rfl)
   | (rw [fck3 hc hs hn];rfl)
   | (rw [fck4 hc hs hn hf];rfl)
   | (rw [fck5 hc hs hn hf];rfl)
 have hc:¬ 60<Fm.count (.mk op nm fd a b ex args):=λe=>Al_of_decide_eq_false h3 (by omega);refine .rg<|.yw (.loadW Z Fx.agg35 Hm Z)<|.yw (.call Fx.call35 Z (λW s=>every_any H 36 shalB depB Fx.call36 (λf hp=>shallow_any H f hp) _ (fm_all_dep _ (by omega)) _ W h s.agr))<|.yw (.not Z)<|.aq Z<|.cr Z (λh3=>?_) (λh3=>?_)
 ·have hs:Fm.all shalB (.mk op nm fd a b ex args)=false:=by simpa using h3
  refine .sr<|.az Z<|.bR<|.tR<|?_
  refine y9 Z Z λW s=>⟨?_,s.ext⟩
  first
   | (rw [fck1 hc];rfl)
   | (rw [fck2 hs];rfl)
   | (rw [fck3 hc hs hn];rfl)
   | (rw [fck4 hc hs hn hf];rfl)
   | (rw [fck5 hc hs hn hf];rfl)
 have hs:Fm.all shalB (.mk op nm fd a b ex args)=true:=by simpa using h3
 refine .sr<|.yw (.loadW Z Fx.agg35 Hm Z)<|.yw (.call Fx.call35 Z (λW s=>every_any H 37 namdB (λ_=>true) Fx.call37 (λf _=>named_any H G Gt f) _ (fm_all_true _) _ W h s.agr))<|.yw (.not Z)<|.aq Z<|.cd Z (λh10=>?_) (λh10=>?_)
 ·have hn:Fm.all namdB (.mk op nm fd a b ex args)=false:=by simpa using h10
  refine .sr<|.az Z<|.bR<|.tR<|?_
  refine y9 Z Z λW s=>⟨?_,s.ext⟩
  first
   | (rw [fck1 hc];rfl)
   | (rw [fck2 hs];rfl)
   | (rw [fck3 hc hs hn];rfl)
   | (rw [fck4 hc hs hn hf];rfl)
   | (rw [fck5 hc hs hn hf];rfl)
 have hn:Fm.all namdB (.mk op nm fd a b ex args)=true:=by simpa using h10
 refine .sr<|.yw (.loadW Z Fx.agg35 Hm Z)<|.yw (.call Fx.call35 Z (λW s=>every_any H 38 formB (λ_=>true) Fx.call38 (λf _=>formed_any H Gt f) _ (fm_all_true _) _ W h s.agr))<|.yw (.not Z)<|.aq Z<|.cd Z (λh14=>?_) (λh14=>?_)
 ·have hf:Fm.all formB (.mk op nm fd a b ex args)=false:=by simpa using h14
  refine .sr<|.az Z<|.bR<|.tR<|?_
  refine y9 Z Z λW s=>⟨?_,s.ext⟩
  first
   | (rw [fck1 hc];rfl)
   | (rw [fck2 hs];rfl)
   | (rw [fck3 hc hs hn];rfl)
   | (rw [fck4 hc hs hn hf];rfl)
   | (rw [fck5 hc hs hn hf];rfl)
 have hf:Fm.all formB (.mk op nm fd a b ex args)=true:=by simpa using h14
 refine .sk<|.bN<|.tN<|.sr<|.az Z<|?_
 refine y9 Z Z λW s=>⟨?_,s.ext⟩
 first
  | (rw [fck1 hc];rfl)
  | (rw [fck2 hs];rfl)
  | (rw [fck3 hc hs hn];rfl)
  | (rw [fck4 hc hs hn hf];rfl)
  | (rw [fck5 hc hs hn hf];rfl)
noncomputable def eqP (p:Prop):Bool:=@decide p (Classical.propDecidable p)
theorem eqP_iff {p:Prop} :eqP p=true↔p:=by unfold eqP;exact @decide_eq_true_iff p (Classical.propDecidable p)
theorem eqP_false {p:Prop} :eqP p=false↔¬ p:=⟨λh k=>(by rw [eqP_iff.2 k] at h;cases h),λh=>(by cases e:eqP p with | false=>rfl | true=>exact absurd (eqP_iff.1 e) h)⟩
def EqAt (gf:FuncId) {α:Type} (d:α->D) (H:Hp) (a b:α):Prop:=∀ (ca cb:List Value) (w:World),Rep H (d a) ca->Rep H (d b) cb->Agr H w->Calls prg gf #[.agg ca.toArray,.agg cb.toArray] w λr w'=>r=.returned (.bool (eqP (a=b)))/\Ext w w'
variable {k:Nat}
theorem take_eq_succ {α:Type} {l m:List α} (h:k<l.length) (h2:k<m.length) (ht:l.take k=m.take k) (he:l[k]=m[k]):l.take (k+1)=m.take (k+1):=by rw [take_snoc h,take_snoc h2,ht,he]
theorem eqFuncE (H:Hp) (gf:FuncId) (hgf:callN prg gf=true) (l m:List Ex) (hq:∀ a∈l,∀ b,EqAt gf (dEx .u8) H a b) (v u:Value) (hs:Rep H (.seq 4 (l.map (dEx .u8))) [v]) (ht:Rep H (.seq 4 (m.map (dEx .u8))) [u]) (w:World) (hA:Agr H w) :
 Calls prg 51 #[v,u,.func (.func gf) #[] #[]] w λr w'=>r=.returned (.bool (eqP (l=m)))/\Ext w w':=by
 obtain ⟨p,c,e,_⟩:=hs.sl;simp only [Al_List_cons_injEq,Al_and_true,Al_List_length_map] at e;subst e;obtain ⟨p2,c2,e,_⟩:=ht.sl;simp only [Al_List_cons_injEq,Al_and_true,Al_List_length_map] at e;subst e;have hcap:=hs.cap;have hcap2:=ht.cap;refine Sx.enter (H:=H) func51 rfl ntmps51 rfl hA ?_;refine .sr<|.aq Z<|.sq<|.sm Z<|.yw (.lenSl Fx.sl32 Z)<|.mv Z<|.yw (.lenSl Fx.sl32 Z)<|.yw (.neq Z Z)<|.nt<|.ce Z (λh14=>?_) (λh14=>?_)
 ·have hne:¬ l=m:=λe=>by rw [e] at h14;exact h14 rfl
  refine .sr<|.az Z<|.tR<|?_
  refine y9 Z Z λW s=>⟨retB ?_,s.ext⟩
  first
   | (rw [eqP_iff];exact ⟨λh=>(by cases h),λh=>absurd h hne⟩)
   | (rw [eqP_iff];exact ⟨λ_=>heq,λ_=>rfl⟩)
 have hlen:l.length=m.length:=by omega
 refine .sk<|.tN<|.sq<|.sm Z<|.yw (.lenSl Fx.sl32 Z)<|.mv Z<|.nt<|.bk<|.lp (X:=Nat) [(1,_),(2,_),(15,_),(16,_)] ⟨Z,Z,Z,Z,Jt⟩ [] (λk=>[(17,iN k)]) (λk=>H) (λk=>[]) (λk=>k<=l.length/\l.take k=m.take k) (λk=>l.length - k) 0 (λ_ s=>s) ⟨Z,Jt⟩ ⟨by omega,Z⟩ λk hC=>?_
 obtain ⟨hk0,hal⟩:=hC;refine .sr<|.yw (.lss Z Z)<|.nt<|.sq<|.ce Z (λh18=>?_) (λh18=>?_)
 ·have hk:k<l.length:=by omega
  have hkm:k<m.length:=by omega
  obtain ⟨bE,oE,cE,hpE,rE,lE,mE⟩:=hs.elem (map_at hk);cases hpE;obtain ⟨bF,oF,cF,hpF,rF,lF,mF⟩:=ht.elem (map_at hkm);cases hpF;refine .sk<|.tN<|.sq<|.bk<|.sm Z<|.yw (.indexSl Fx.sl32 Z Z Z (by omega) (q:=oE+k * 4) Z)<|.yw (.loadMW Z Fx.agg76 mE lE)<|.al Fx.zero76 Z λb8=>.a Z Z<|.sV .head Z Z Fx.size76 lE rE.one Z<|.ns<|.mv Z<|.mv Z<|.yw (.indexSl Fx.sl32 Z Z Z (by omega) (q:=oF+k * 4) Z)<|.yw (.loadMW Z Fx.agg76 mF lF)<|.al Fx.zero76 Z λb9=>.sV .head Z Z Fx.size76 lF rF.one Z<|.ns<|.mv Z<|.yw (.loadW Z Fx.agg76 mem1 lE)<|.yw (.loadW Z Fx.agg76 Hm lF)<|.yw (.callV (fi:=[]) (ca:=[]) Z hgf Z (λW s=>hq _ (Al_List_getElem_mem hk) _ cE cF W rE rF s.agr))<|.yw (.not Z)<|.nt<|.cd Z (λh30=>?_) (λh30=>?_)
  ·try simp only [dt] at h30
   have hne:¬ l=m:=λe=>by subst e;rw [eqP_iff.2 rfl] at h30;cases h30
   refine .sr<|.az Z<|.bR<|.tR<|.tR<|.bR<|.tR<|?_
   refine y9 Z Z λW s=>⟨retB ?_,s.ext⟩
   first
    | (rw [eqP_iff];exact ⟨λh=>(by cases h),λh=>absurd h hne⟩)
    | (rw [eqP_iff];exact ⟨λ_=>heq,λ_=>rfl⟩)
  try simp only [df] at h30
  have heq:l[k]=m[k]:=eqP_iff.1 (by simpa using h30);exact .sk<|.bN<|.tN<|.rg<|.yw (.add Z Z w7)<|.mv Z<|.nt<|.ag (k+1) ⟨Z,Jt⟩ ⟨Z,Z,Z,Z,Jt⟩ (λ_ s=>s.pick [] [] Z Z) ⟨by omega,take_eq_succ hk hkm hal heq⟩ (by omega)
 have heq:l=m:=by
  have e:k=l.length:=by omega
  have e2:k=m.length:=by omega
  have h1:=hal;rw [e,Al_List_take_length,hlen,Al_List_take_length] at h1;exact h1
 refine .ex<|.eb<|.sr<|.az Z<|?_
 refine y9 Z Z λW s=>⟨retB ?_,s.ext⟩
 first
  | (rw [eqP_iff];exact ⟨λh=>(by cases h),λh=>absurd h hne⟩)
  | (rw [eqP_iff];exact ⟨λ_=>heq,λ_=>rfl⟩)
theorem equalExpr_any (H:Hp) (a:Ex):∀ b,EqAt 52 (dEx .u8) H a b:=by
 induction a using Ex.ind with | _ op nm n args ih
 intro b ca cb w ha hb hA;obtain ⟨op2,nm2,n2,args2⟩:=b;obtain ⟨p,c,rfl,hs,hnm⟩:=ex_open ha;obtain ⟨p2,c2,rfl,hs2,hnm2⟩:=ex_open hb;refine Sx.enter (H:=H) func52 rfl ntmps52 rfl hA ?_;refine .sr<|.bx Z Z Z λb2=>.bx Z Z Z λb3=>.a Z Z<|.ns<|.fA Z Fx.field76_0<|.lD Z Fx.agg74 mem1 Z<|.fA Z Fx.field76_0<|.lD Z Fx.agg74 Hm Z<|.yw (.eql Z Z)<|.mv Z<|.e2 (λh10=>?_) (λh10=>?_)
 ·have e1:op=op2:=Al_UInt8_toNat_inj.1 (by omega);refine .gy (.fieldAddr Z Fx.field76_1)<|.gy (.load Z Fx.agg9 mem1 Z)<|.gy (.fieldAddr Z Fx.field76_1)<|.gy (.load Z Fx.agg9 Hm Z)<|.gy (.eqS Z Z)<|.yw (.pickT Z Z)<|.mv Z<|.e2 (λh17=>?_) (λh17=>?_)
  ·have e2:nm=nm2:=h17;refine .gy (.fieldAddr Z Fx.field76_2)<|.gy (.load Z Fx.agg2 mem1 Z)<|.gy (.fieldAddr Z Fx.field76_2)<|.gy (.load Z Fx.agg2 Hm Z)<|.gy (.eql Z Z)<|.yw (.pickT Z Z)<|.mv Z<|.e2 (λh24=>?_) (λh24=>?_)
   ·have e3:n=n2:=Al_Int64_toInt_inj.1 h24;refine .gy (.fieldAddr Z Fx.field76_3)<|.gy (.load Z Fx.agg32 mem1 Z)<|.gy (.fieldAddr Z Fx.field76_3)<|.gy (.load Z Fx.agg32 Hm Z)<|.gy (.call Fx.call51 Z (λW s=>eqFuncE H 52 Fx.call52 args args2 ih _ _ hs hs2 W s.agr))<|.yw (.pickT Z Z)<|.az Z<|?_
    refine y9 Z Z λW s=>⟨retB ?_,s.ext⟩
    first
     | (rw [eqP_iff,eqP_iff,Ex.mk.injEq];exact ⟨λd=>⟨e1,e2,e3,d⟩,λh=>h.2.2.2⟩)
     | (rw [eqP_iff,Ex.mk.injEq];exact ⟨λh=>(by cases h),λh=>absurd h.1 e1⟩)
     | (rw [eqP_iff,Ex.mk.injEq];exact ⟨λh=>(by cases h),λh=>absurd h.2.1 e2⟩)
     | (rw [eqP_iff,Ex.mk.injEq];exact ⟨λh=>(by cases h),λh=>absurd h.2.2.1 e3⟩)
   have e3:¬ n=n2:=λe=>h24 (by rw [e]);refine .gG<|.gG<|.gG<|.gG<|.gG<|.yw (.pickF Z Z)<|.az Z<|?_
   refine y9 Z Z λW s=>⟨retB ?_,s.ext⟩
   first
    | (rw [eqP_iff,eqP_iff,Ex.mk.injEq];exact ⟨λd=>⟨e1,e2,e3,d⟩,λh=>h.2.2.2⟩)
    | (rw [eqP_iff,Ex.mk.injEq];exact ⟨λh=>(by cases h),λh=>absurd h.1 e1⟩)
    | (rw [eqP_iff,Ex.mk.injEq];exact ⟨λh=>(by cases h),λh=>absurd h.2.1 e2⟩)
    | (rw [eqP_iff,Ex.mk.injEq];exact ⟨λh=>(by cases h),λh=>absurd h.2.2.1 e3⟩)
  have e2:¬ nm=nm2:=h17;refine .gG<|.gG<|.gG<|.gG<|.gG<|.yw (.pickF Z Z)<|.mv Z<|.gG<|.gG<|.gG<|.gG<|.gG<|.yw (.pickF Z Z)<|.az Z<|?_
  refine y9 Z Z λW s=>⟨retB ?_,s.ext⟩
  first
   | (rw [eqP_iff,eqP_iff,Ex.mk.injEq];exact ⟨λd=>⟨e1,e2,e3,d⟩,λh=>h.2.2.2⟩)
   | (rw [eqP_iff,Ex.mk.injEq];exact ⟨λh=>(by cases h),λh=>absurd h.1 e1⟩)
   | (rw [eqP_iff,Ex.mk.injEq];exact ⟨λh=>(by cases h),λh=>absurd h.2.1 e2⟩)
   | (rw [eqP_iff,Ex.mk.injEq];exact ⟨λh=>(by cases h),λh=>absurd h.2.2.1 e3⟩)
 have e1:¬ op=op2:=λe=>h10 (by rw [e]);refine .gG<|.gG<|.gG<|.gG<|.gG<|.yw (.pickF Z Z)<|.mv Z<|.gG<|.gG<|.gG<|.gG<|.gG<|.yw (.pickF Z Z)<|.mv Z<|.gG<|.gG<|.gG<|.gG<|.gG<|.yw (.pickF Z Z)<|.az Z<|?_
 refine y9 Z Z λW s=>⟨retB ?_,s.ext⟩
 first
  | (rw [eqP_iff,eqP_iff,Ex.mk.injEq];exact ⟨λd=>⟨e1,e2,e3,d⟩,λh=>h.2.2.2⟩)
  | (rw [eqP_iff,Ex.mk.injEq];exact ⟨λh=>(by cases h),λh=>absurd h.1 e1⟩)
  | (rw [eqP_iff,Ex.mk.injEq];exact ⟨λh=>(by cases h),λh=>absurd h.2.1 e2⟩)
  | (rw [eqP_iff,Ex.mk.injEq];exact ⟨λh=>(by cases h),λh=>absurd h.2.2.1 e3⟩)
theorem Fx.call96:callN prg 96=true:=by kernel_rfl
theorem Fx.call147:callN prg 147=true:=by kernel_rfl
theorem Fx.call149:callN prg 149=true:=by kernel_rfl
theorem Fx.bld108_0_1_2 (x0:Int) (x1:ByteArray) (x2:Int):buildN prg 108 [(0,.int .u8 x0),(1,.string x1),(2,.int .i64 x2)]=some [.int .u8 x0,.string x1,.int .i64 x2]:=by kernel_rfl
theorem Fx.agg94:aggN prg 94=some none:=by kernel_rfl
theorem Fx.call15:callN prg 15=true:=by kernel_rfl
theorem Fx.call54:callN prg 54=true:=by kernel_rfl
theorem Fx.call55:callN prg 55=true:=by kernel_rfl
theorem Fx.call56:callN prg 56=true:=by kernel_rfl
theorem Fx.call95:callN prg 95=true:=by kernel_rfl
theorem Fx.row99:rowN prg 99=some (108,3,32):=by kernel_rfl
theorem Fx.size94:sizeN prg 94=some 1:=by kernel_rfl
theorem Fx.size99:sizeN prg 99=some 1:=by kernel_rfl
theorem Fx.zero94:zeroN prg 94=some [Go.Value.pointer none]:=by kernel_rfl
theorem Fx.bld102_2 (x2p:Option Addr) (x2n x2c:Nat):buildN prg 102 [(2,.slice x2p x2n x2c)]=some [.slice none 0 0,.int .i64 0,.slice x2p x2n x2c,.slice none 0 0,.bool false,.bool false,.bool false,.int .i64 0,.int .i64 0]:=by kernel_rfl
theorem Fx.bld108_2 (x2:Int):buildN prg 108 [(2,.int .i64 x2)]=some [.int .u8 0,.string ⟨#[]⟩,.int .i64 x2]:=by kernel_rfl
theorem Fx.bld35  : buildN prg 35 []=some [.int .u8 0,.string ⟨#[]⟩,.string ⟨#[]⟩,.int .i64 0,.int .i64 0,.slice none 0 0,.slice none 0 0]:=by kernel_rfl
theorem Fx.bsl99_1 (x00 x01 x02:Value):bslN prg 99 1 [(0,.agg [x00,x01,x02].toArray)]=some (108,[x00,x01,x02]):=by kernel_rfl
theorem Fx.call89:callN prg 89=true:=by kernel_rfl
theorem Fx.call138:callN prg 138=true:=by kernel_rfl
theorem Fx.call139:callN prg 139=true:=by kernel_rfl
theorem Fx.call140:callN prg 140=true:=by kernel_rfl
theorem Fx.call48:callN prg 48=true:=by kernel_rfl
theorem Fx.call144:callN prg 144=true:=by kernel_rfl
theorem Fx.arr163:arrN prg 163=some (19,1):=by kernel_rfl
theorem Fx.call90:callN prg 90=true:=by kernel_rfl
theorem Fx.call91:callN prg 91=true:=by kernel_rfl
theorem Fx.call92:callN prg 92=true:=by kernel_rfl
theorem Fx.call93:callN prg 93=true:=by kernel_rfl
theorem Fx.call19:callN prg 19=true:=by kernel_rfl
theorem Fx.call26:callN prg 26=true:=by kernel_rfl
theorem Fx.call129:callN prg 129=true:=by kernel_rfl
theorem Fx.agg27:aggN prg 27=some (some 7):=by kernel_rfl
theorem Fx.agg149:aggN prg 149=some none:=by kernel_rfl
theorem Fx.call82:callN prg 82=true:=by kernel_rfl
theorem Fx.call130:callN prg 130=true:=by kernel_rfl
theorem Fx.field27_0:fieldN prg 27 0=some 0:=by kernel_rfl
theorem Fx.field27_1:fieldN prg 27 1=some 1:=by kernel_rfl
theorem Fx.field27_2:fieldN prg 27 2=some 2:=by kernel_rfl
theorem Fx.field27_3:fieldN prg 27 3=some 3:=by kernel_rfl
theorem Fx.field27_4:fieldN prg 27 4=some 4:=by kernel_rfl
theorem Fx.field27_5:fieldN prg 27 5=some 5:=by kernel_rfl
theorem Fx.field151_0:fieldN prg 151 0=some 0:=by kernel_rfl
theorem Fx.field151_1:fieldN prg 151 1=some 1:=by kernel_rfl
theorem Fx.field151_2:fieldN prg 151 2=some 2:=by kernel_rfl
theorem Fx.field151_3:fieldN prg 151 3=some 3:=by kernel_rfl
theorem Fx.field151_4:fieldN prg 151 4=some 4:=by kernel_rfl
theorem Fx.field151_5:fieldN prg 151 5=some 5:=by kernel_rfl
theorem Fx.field151_6:fieldN prg 151 6=some 6:=by kernel_rfl
theorem Fx.field151_7:fieldN prg 151 7=some 7:=by kernel_rfl
theorem Fx.size27:sizeN prg 27=some 7:=by kernel_rfl
theorem Fx.zero27:zeroN prg 27=some
 [Go.Value.int Go.IntKind.i64 (Int.ofNat 0),Go.Value.string { data:={ toList:=[] } },
  Go.Value.string { data:={ toList:=[] } },Go.Value.int Go.IntKind.i64 (Int.ofNat 0),
  Go.Value.int Go.IntKind.i64 (Int.ofNat 0),Go.Value.slice none 0 0,Go.Value.slice none 0 0]:=by kernel_rfl
theorem Fx.bld27_0 (x0:Int):buildN prg 27 [(0,.int .i64 x0)]=some [.int .i64 x0,.string ⟨#[]⟩,.string ⟨#[]⟩,.int .i64 0,.int .i64 0,.slice none 0 0,.slice none 0 0]:=by kernel_rfl
theorem Fx.bld83  : buildN prg 83 []=some [.int .i64 0,.string ⟨#[]⟩,.int .i64 0,.slice none 0 0]:=by kernel_rfl
theorem Fx.agg25:aggN prg 25=some none:=by kernel_rfl
theorem Fx.agg151:aggN prg 151=some (some 8):=by kernel_rfl
theorem Fx.call33:callN prg 33=true:=by kernel_rfl
theorem Fx.call69:callN prg 69=true:=by kernel_rfl
theorem Fx.call70:callN prg 70=true:=by kernel_rfl
theorem Fx.field27_6:fieldN prg 27 6=some 6:=by kernel_rfl
theorem Fx.row25:rowN prg 25=some (27,7,104):=by kernel_rfl
theorem Fx.size25:sizeN prg 25=some 1:=by kernel_rfl
theorem Fx.size151:sizeN prg 151=some 8:=by kernel_rfl
theorem Fx.sl22:slN prg 22=some 8:=by kernel_rfl
theorem Fx.zero151:zeroN prg 151=some
 [Go.Value.int Go.IntKind.u8 (Int.ofNat 0),Go.Value.int Go.IntKind.u8 (Int.ofNat 0),
  Go.Value.int Go.IntKind.u8 (Int.ofNat 0),Go.Value.int Go.IntKind.u8 (Int.ofNat 0),Go.Value.bool false,
  Go.Value.int Go.IntKind.i64 (Int.ofNat 0),Go.Value.int Go.IntKind.i64 (Int.ofNat 0),
  Go.Value.slice none 0 0]:=by kernel_rfl
theorem Fx.bsl25_1 (x00 x01 x02 x03 x04 x05 x06:Value):bslN prg 25 1 [(0,.agg [x00,x01,x02,x03,x04,x05,x06].toArray)]=some (27,[x00,x01,x02,x03,x04,x05,x06]):=by kernel_rfl
theorem Fx.call16:callN prg 16=true:=by kernel_rfl
theorem Fx.sl25:slN prg 25=some 7:=by kernel_rfl
theorem Fx.bld35_0_1_2_3_4 (x0:Int) (x1 x2:ByteArray) (x3 x4:Int):buildN prg 35 [(0,.int .u8 x0),(1,.string x1),(2,.string x2),(3,.int .i64 x3),(4,.int .i64 x4)]=some [.int .u8 x0,.string x1,.string x2,.int .i64 x3,.int .i64 x4,.slice none 0 0,.slice none 0 0]:=by kernel_rfl
theorem Fx.bool4:isBool prg 4=true:=by kernel_rfl
theorem Fx.call13:callN prg 13=true:=by kernel_rfl
theorem Fx.call14:callN prg 14=true:=by kernel_rfl
theorem snocF_eq {fs gs:List Fm} {op0 op1:UInt8} {nm0 nm1 fd0 fd1:Str} {a0 a1 b0 b1:Int64} {ex0 ex1:List Ex} {args0 args1:List Fm} :fs++[Fm.mk op0 nm0 fd0 a0 b0 ex0 args0]=gs++[Fm.mk op1 nm1 fd1 a1 b1 ex1 args1]↔fs=gs/\op0=op1/\nm0=nm1/\fd0=fd1/\a0=a1/\b0=b1/\ex0=ex1/\args0=args1:=by
 rw [<-List.concat_eq_append,<-List.concat_eq_append]
 constructor
 ·intro h;have h1:=List.init_eq_of_concat_eq h;have h2:=List.last_eq_of_concat_eq h;injection h2 with i1 i2 i3 i4 i5 i6 i7
  exact ⟨h1,i1,i2,i3,i4,i5,i6,i7⟩
 ·rintro ⟨rfl,rfl,rfl,rfl,rfl,rfl,rfl,rfl⟩;rfl
theorem snocF_app {fs gs:List Fm} {op0 op1:UInt8} {nm0 nm1 fd0 fd1:Str} {a0 a1 b0 b1:Int64} {ex0 ex1:List Ex} {args0 args1:List Fm} (e1:op0=op1) (e2:nm0=nm1) (e3:fd0=fd1) (e4:a0=a1) (e5:b0=b1) (e6:args0.length=args1.length) (e7:ex0=ex1) (hl:fs.length+1=gs.length+1):fs++[Fm.mk op0 nm0 fd0 a0 b0 ex0 args0]=gs++[Fm.mk op1 nm1 fd1 a1 b1 ex1 args1]↔fs++args0=gs++args1:=by
 rw [snocF_eq]
 constructor
 ·rintro ⟨rfl,_,_,_,_,_,_,rfl⟩;rfl
 ·intro h;obtain ⟨h1,h2⟩:=List.append_inj h (by omega);exact ⟨h1,e1,e2,e3,e4,e5,e7,h2⟩
set_option maxHeartbeats 2000000 in
theorem fequal_any (H:Hp) (f g:Fm) (N:Nat) (hb:blF N f=true) (hN:N * f.count<=100000000000) (hN1:N<=100000000000) (cs ds:List Value) (w:World) (h:Rep H (dFm .u8 f) cs) (k:Rep H (dFm .u8 g) ds) (hA:Agr H w):Calls prg 24 #[.agg cs.toArray,.agg ds.toArray] w λr w'=>r=.returned (.bool (eqP (f=g)))/\Ext w w':=by
 obtain ⟨op,nm,fd,a,b,ex,args⟩:=f;obtain ⟨opb,nmb,fdb,ab,bb,exb,argsb⟩:=g;obtain ⟨p1,c1,p2,c2,rfl,_,_,_,_⟩:=fm_open h;obtain ⟨p3,c3,p4,c4,rfl,_,_,_,_⟩:=fm_open k;refine Sx.enter (H:=H) func24 rfl ntmps24 rfl hA ?_;refine .sr<|.bx Z Z Z λb2=>.bx Z Z Z λb3=>.aq Z<|.sq<|.ft (p:=.light _ _ (.light _ _ (.alt _ _ _ (.light _ _ (.alt _ _ _ (.done) (.no))) (.alt _ _ _ (.alt _ _ _ (.light _ _ (.done)) (.no)) (.no))))) 5 (.light 0 (.light 2 (.alt 1 0 (.light 4 (.alt 3 0 (.done) (.no))) (.alt 3 0 (.alt 1 0 (.light 4 (.done)) (.no)) (.no))))) (by kernel_rfl) (by kernel_rfl) Z<|.yw (.loadW Z Fx.agg35 mem1 Z)<|.yw (.loadW Z Fx.agg35 Hm Z)<|.h ?_ (.h ?_ .nn)
 ·
  refine .blR (z:=7) Z (Fx.bsl33_1 _ _ _ _ _ _ _) Z Z (by simp [maxLen]) λb11=>.a Z Z<|.h1<|.blR (z:=7) Z (Fx.bsl33_1 _ _ _ _ _ _ _) Z Z (by simp [maxLen]) λb13=>.fn (tl:=[_]) Z<|.aq Z<|.sq<|.sr<|.aq Z<|.bk<|.pm [1,0,2,3] [_,_,_,_] Z Z<|.lp (X:=Nat × List Fm × List Fm × Value × Value × List Value × List Value) [] trivial [_,_] (λz=>[(5,z.2.2.2.1),(6,z.2.2.2.2.1),(7,.int .i64 ((z.2.1.length:Int) - 1))]) (λz=>H) (λz=>[.row 35 7 z.2.2.2.1 z.2.1.length z.2.2.2.2.2.1,.row 35 7 z.2.2.2.2.1 z.2.2.1.length z.2.2.2.2.2.2]) (λz=>RepZ H 7 (z.2.1.map (dFm .u8)) z.2.2.2.2.2.1/\RepZ H 7 (z.2.2.1.map (dFm .u8)) z.2.2.2.2.2.2/\z.2.1.length=z.2.2.1.length/\z.1+Fm.counts z.2.1<=Fm.count (.mk op nm fd a b ex args)/\(∀ g∈z.2.1,blF N g=true)/\z.2.1.length<=1+N * z.1/\(Fm.mk op nm fd a b ex args=Fm.mk opb nmb fdb ab bb exb argsb↔z.2.1=z.2.2.1)) (λz=>Fm.counts z.2.1) (0,[Fm.mk op nm fd a b ex args],[Fm.mk opb nmb fdb ab bb exb argsb],.slice (some ⟨b11,0,none⟩) 1 1,.slice (some ⟨b13,0,none⟩) 1 1,[.int .u8 op.toNat,strV nm,strV fd,.int .i64 a.toInt,.int .i64 b.toInt,.slice p1 ex.length c1,.slice p2 args.length c2],[.int .u8 opb.toNat,strV nmb,strV fdb,.int .i64 ab.toInt,.int .i64 bb.toInt,.slice p3 exb.length c3,.slice p4 argsb.length c4]) (λ_ s=>s) ⟨Z,Z,Z,Jt⟩ ⟨.single h Z,.single k Z,Z,by rw [Fm.counts,Fm.counts];omega,λg hg=>by rw [Al_List_mem_singleton.1 hg];exact hb,by simp,by simp⟩ λz hC=>?_
  obtain ⟨n,fs,gs,rf,rg,xf,xg⟩:=z;obtain ⟨zf,zg,hle,hcnt,hbf,hlen,hiff⟩:=hC;dsimp only at zf zg hle hcnt hbf hlen hiff|-;have hNn:N * n<=N * Fm.count (.mk op nm fd a b ex args):=Al_Nat_mul_le_mul_left N (by omega);refine At.ra (size:=7) (r:=rf) (e:=35) Hm λpf cf e=>?_;subst e;refine At.ra (size:=7) (r:=rg) (e:=35) mem1 λpg cg e=>?_;subst e;refine .sq<|.sm Z<|.yw (.geq Z Z)<|.nt<|.cd Z (λh15=>?_) (λh15=>?_)
  ·try simp only [dt] at h15
   have hpos:0<fs.length:=by omega
   obtain ⟨fs0,f0,rfl⟩:∃ fs0 f0,fs=fs0++[f0]:=by
    rcases List.eq_nil_or_concat fs with h | ⟨t,x,h⟩
    ·subst h;simp at hpos hle
    ·exact ⟨t,x,by rw [h,List.concat_eq_append]⟩
   have hl0:(fs0++[f0]).length=fs0.length+1:=by rw [Al_List_length_append];rfl
   refine Sx.rowCase (size:=7) (r:=.slice pf (fs0++[f0]).length cf) (e:=35) Hm (by rw [hl0];exact Nat.succ_pos _) λwf c e hgc=>?_;injection e with e3 _ e4
   subst e3 e4;obtain ⟨cs0,r0,hc0,hx0⟩:=RepZ.at zf (i:=fs0.length) (d:=dFm .u8 f0) (by rw [Al_List_map_append,List.getElem?_append_right (by rw [Al_List_length_map];exact Al_Nat_le_refl _),Al_List_length_map,Al_Nat_sub_self];rfl)
   have hz0:RepZ H 7 (fs0.map (dFm .u8)) (xf.take (fs0.length * 7)):=by
    have h:=RepZ.take fs0.length zf;rw [Al_List_map_append,List.take_left' (by rw [Al_List_length_map])] at h;exact h
   obtain ⟨gs0,g0,rfl⟩:∃ fs0 f0,gs=fs0++[f0]:=by
    rcases List.eq_nil_or_concat gs with h | ⟨t,x,h⟩
    ·subst h;simp at hpos hle
    ·exact ⟨t,x,by rw [h,List.concat_eq_append]⟩
   have hl1:(gs0++[g0]).length=gs0.length+1:=by rw [Al_List_length_append];rfl
   refine Sx.rowCase (size:=7) (r:=.slice pg (gs0++[g0]).length cg) (e:=35) mem1 (by rw [hl1];exact Nat.succ_pos _) λwg c e hgd=>?_;injection e with e3 _ e4
   subst e3 e4;obtain ⟨cs1,r1,hc1,hx1⟩:=RepZ.at zg (i:=gs0.length) (d:=dFm .u8 g0) (by rw [Al_List_map_append,List.getElem?_append_right (by rw [Al_List_length_map];exact Al_Nat_le_refl _),Al_List_length_map,Al_Nat_sub_self];rfl)
   have hz1:RepZ H 7 (gs0.map (dFm .u8)) (xg.take (gs0.length * 7)):=by
    have h:=RepZ.take gs0.length zg;rw [Al_List_map_append,List.take_left' (by rw [Al_List_length_map])] at h;exact h
   obtain ⟨op0,nm0,fd0,a0,b0,ex0,args0⟩:=f0;obtain ⟨op1,nm1,fd1,a1,b1,ex1,args1⟩:=g0;obtain ⟨q1,d1,q2,d2,rfl,hs0,hs3,_,_⟩:=fm_open r0;obtain ⟨q5,d5,q6,d6,rfl,hs5,hs6,_,_⟩:=fm_open r1;have hb0:=(blF_mk.1 (hbf _ (Al_List_mem_append.2 (.inr (Al_List_mem_singleton.2 rfl)))));rw [fm_counts_app,Fm.counts,Fm.counts,fm_count] at hcnt;rw [hl0,hl1] at hle;rw [hl0] at hlen;have hNs:N * (n+1)=N * n+N:=Nat.mul_succ N n;have hcp0:=hs3.cap;have hcp1:=hs6.cap;refine .sk<|.tN<|.sq<|.bk<|.sq<|.ft (p:=.light _ _ (.light _ _ (.light _ _ (.light _ _ (.light _ _ (.light _ _ (.light _ _ (.light _ _ (.alt _ _ _ (.alt _ _ _ (.alt _ _ _ (.done) (.no)) (.no)) (.alt _ _ _ (.alt _ _ _ (.alt _ _ _ (.done) (.no)) (.no)) (.no))))))))))) 11 (.light 0 (.light 1 (.light 2 (.light 3 (.light 4 (.light 5 (.light 6 (.light 7 (.alt 8 0 (.alt 9 0 (.alt 10 2 (.done) (.no)) (.no)) (.alt 9 0 (.alt 8 0 (.alt 10 2 (.done) (.no)) (.no)) (.no))))))))))) (by kernel_rfl) (by kernel_rfl) Z<|.mv Z<|.mv Z<|.yw (.indexSl Fx.sl33 Z Z (i:=fs0.length) (by rw [hl0];omega) (by rw [hl0];omega) (q:=fs0.length * 7) (by omega))<|.yw (.loadR (vs:=cFm .u8 op0 nm0 fd0 a0 b0 (.slice q1 ex0.length d1) (.slice q2 args0.length d2)) Z Fx.agg35 Hm Z hx0)<|.mv Z<|.mv Z<|.yw (.indexSl Fx.sl33 Z Z (i:=gs0.length) (by rw [hl0];omega) (by rw [hl1];omega) (q:=gs0.length * 7) (by omega))<|.yw (.loadR (vs:=cFm .u8 op1 nm1 fd1 a1 b1 (.slice q5 ex1.length d5) (.slice q6 args1.length d6)) Z Fx.agg35 mem1 Z hx1)<|.h ?_ (.h ?_ .nn)
   ·
    refine .al Fx.zero35 Z λb8=>.h1<|.al Fx.zero35 Z λb9=>.h1<|.sW upd1 Z Z Fx.size35 (by simp [Value.oneCell',strV]) Z ((.yv (.loadR (vs:=cFm .u8 op1 nm1 fd1 a1 b1 (.slice q5 ex1.length d5) (.slice q6 args1.length d6)) Z Fx.agg35 mem3 Z hx1)<|.yv (.indexSl Fx.sl33 Z Z (i:=gs0.length) (by rw [hl0];omega) (by rw [hl1];omega) (q:=gs0.length * 7) (by omega))<|.yv (.move Z)<|.yv (.move Z)<|.d4<|.nl))<|.fn (tl:=[_]) Z<|.sX .head Z Z Fx.size35 Z<|.nt<|.sq<|.sr<|.fA Z Fx.field35_0<|.lD Z Fx.agg31 mem1 Z<|.fA Z Fx.field35_0<|.lD Z Fx.agg31 Hm Z<|.yw (.neq Z Z)<|.mv Z<|.b2 (λh32=>?_) (λh32=>?_)
    ·try simp only [dt] at h32
     have e1:=(λe=>h32 (by rw [e]):¬ op0=op1);refine .gG<|.gG<|.gG<|.gG<|.gG<|.yw (.pickT Z Z)<|.mv Z<|.gG<|.gG<|.gG<|.gG<|.gG<|.yw (.pickT Z Z)<|.mv Z<|.gG<|.gG<|.gG<|.gG<|.gG<|.yw (.pickT Z Z)<|.mv Z<|.gG<|.gG<|.gG<|.gG<|.gG<|.yw (.pickT Z Z)<|.mv Z<|.gG<|.gG<|.gG<|.gG<|.gG<|.gG<|.gG<|.yw (.pickT Z Z)<|.mv Z<|.gG<|.gG<|.gG<|.gG<|.gG<|.gG<|.yw (.pickT Z Z)<|.nt<|.cT Z<|.sr<|.az Z<|.tR<|.bR<|.tR<|.tR<|.bR<|.tR<|?_
     refine y9 Z Z λW s=>⟨retB ?_,s.ext⟩
     first
      | (rw [eqP_iff];exact ⟨λ_=>hall,λ_=>rfl⟩)
      | (rw [eqP_iff];exact ⟨λh=>(by cases h),λh=>absurd (hiff.1 h) (by rw [snocF_eq];exact λh=>e1 (h.2.1))⟩)
      | (rw [eqP_iff];exact ⟨λh=>(by cases h),λh=>absurd (hiff.1 h) (by rw [snocF_eq];exact λh=>e2 (h.2.2.1))⟩)
      | (rw [eqP_iff];exact ⟨λh=>(by cases h),λh=>absurd (hiff.1 h) (by rw [snocF_eq];exact λh=>e3 (h.2.2.2.1))⟩)
      | (rw [eqP_iff];exact ⟨λh=>(by cases h),λh=>absurd (hiff.1 h) (by rw [snocF_eq];exact λh=>e4 (h.2.2.2.2.1))⟩)
      | (rw [eqP_iff];exact ⟨λh=>(by cases h),λh=>absurd (hiff.1 h) (by rw [snocF_eq];exact λh=>e5 (h.2.2.2.2.2.1))⟩)
      | (rw [eqP_iff];exact ⟨λh=>(by cases h),λh=>absurd (hiff.1 h) (by rw [snocF_eq];exact λh=>e6 (by rw [h.2.2.2.2.2.2.2]))⟩)
      | (rw [eqP_iff];exact ⟨λh=>(by cases h),λh=>absurd (hiff.1 h) (by rw [snocF_eq];exact λh=>e7 h.2.2.2.2.2.2.1)⟩)
    try simp only [df] at h32
    have e1:=Al_UInt8_toNat_inj.1 (by omega:op0.toNat=op1.toNat);refine .gy (.fieldAddr Z Fx.field35_1)<|.gy (.load Z Fx.agg9 mem1 Z)<|.gy (.fieldAddr Z Fx.field35_1)<|.gy (.load Z Fx.agg9 Hm Z)<|.gy (.neS Z Z)<|.yw (.pickF Z Z)<|.mv Z<|.b2 (λh39=>?_) (λh39=>?_)
    ·try simp only [dt] at h39
     have e2:=(id h39:¬ nm0=nm1);refine .gG<|.gG<|.gG<|.gG<|.gG<|.yw (.pickT Z Z)<|.mv Z<|.gG<|.gG<|.gG<|.gG<|.gG<|.yw (.pickT Z Z)<|.mv Z<|.gG<|.gG<|.gG<|.gG<|.gG<|.yw (.pickT Z Z)<|.mv Z<|.gG<|.gG<|.gG<|.gG<|.gG<|.gG<|.gG<|.yw (.pickT Z Z)<|.mv Z<|.gG<|.gG<|.gG<|.gG<|.gG<|.gG<|.yw (.pickT Z Z)<|.nt<|.cT Z<|.sr<|.az Z<|.tR<|.bR<|.tR<|.tR<|.bR<|.tR<|?_
     refine y9 Z Z λW s=>⟨retB ?_,s.ext⟩
     first
      | (rw [eqP_iff];exact ⟨λ_=>hall,λ_=>rfl⟩)
      | (rw [eqP_iff];exact ⟨λh=>(by cases h),λh=>absurd (hiff.1 h) (by rw [snocF_eq];exact λh=>e1 (h.2.1))⟩)
      | (rw [eqP_iff];exact ⟨λh=>(by cases h),λh=>absurd (hiff.1 h) (by rw [snocF_eq];exact λh=>e2 (h.2.2.1))⟩)
      | (rw [eqP_iff];exact ⟨λh=>(by cases h),λh=>absurd (hiff.1 h) (by rw [snocF_eq];exact λh=>e3 (h.2.2.2.1))⟩)
      | (rw [eqP_iff];exact ⟨λh=>(by cases h),λh=>absurd (hiff.1 h) (by rw [snocF_eq];exact λh=>e4 (h.2.2.2.2.1))⟩)
      | (rw [eqP_iff];exact ⟨λh=>(by cases h),λh=>absurd (hiff.1 h) (by rw [snocF_eq];exact λh=>e5 (h.2.2.2.2.2.1))⟩)
      | (rw [eqP_iff];exact ⟨λh=>(by cases h),λh=>absurd (hiff.1 h) (by rw [snocF_eq];exact λh=>e6 (by rw [h.2.2.2.2.2.2.2]))⟩)
      | (rw [eqP_iff];exact ⟨λh=>(by cases h),λh=>absurd (hiff.1 h) (by rw [snocF_eq];exact λh=>e7 h.2.2.2.2.2.2.1)⟩)
    try simp only [df] at h39
    have e2:=(Al_Classical_not_not.1 h39:nm0=nm1);refine .gy (.fieldAddr Z Fx.field35_2)<|.gy (.load Z Fx.agg9 mem1 Z)<|.gy (.fieldAddr Z Fx.field35_2)<|.gy (.load Z Fx.agg9 Hm Z)<|.gy (.neS Z Z)<|.yw (.pickF Z Z)<|.mv Z<|.b2 (λh46=>?_) (λh46=>?_)
    ·try simp only [dt] at h46
     have e3:=(id h46:¬ fd0=fd1);refine .gG<|.gG<|.gG<|.gG<|.gG<|.yw (.pickT Z Z)<|.mv Z<|.gG<|.gG<|.gG<|.gG<|.gG<|.yw (.pickT Z Z)<|.mv Z<|.gG<|.gG<|.gG<|.gG<|.gG<|.gG<|.gG<|.yw (.pickT Z Z)<|.mv Z<|.gG<|.gG<|.gG<|.gG<|.gG<|.gG<|.yw (.pickT Z Z)<|.nt<|.cT Z<|.sr<|.az Z<|.tR<|.bR<|.tR<|.tR<|.bR<|.tR<|?_
     refine y9 Z Z λW s=>⟨retB ?_,s.ext⟩
     first
      | (rw [eqP_iff];exact ⟨λ_=>hall,λ_=>rfl⟩)
      | (rw [eqP_iff];exact ⟨λh=>(by cases h),λh=>absurd (hiff.1 h) (by rw [snocF_eq];exact λh=>e1 (h.2.1))⟩)
      | (rw [eqP_iff];exact ⟨λh=>(by cases h),λh=>absurd (hiff.1 h) (by rw [snocF_eq];exact λh=>e2 (h.2.2.1))⟩)
      | (rw [eqP_iff];exact ⟨λh=>(by cases h),λh=>absurd (hiff.1 h) (by rw [snocF_eq];exact λh=>e3 (h.2.2.2.1))⟩)
      | (rw [eqP_iff];exact ⟨λh=>(by cases h),λh=>absurd (hiff.1 h) (by rw [snocF_eq];exact λh=>e4 (h.2.2.2.2.1))⟩)
      | (rw [eqP_iff];exact ⟨λh=>(by cases h),λh=>absurd (hiff.1 h) (by rw [snocF_eq];exact λh=>e5 (h.2.2.2.2.2.1))⟩)
      | (rw [eqP_iff];exact ⟨λh=>(by cases h),λh=>absurd (hiff.1 h) (by rw [snocF_eq];exact λh=>e6 (by rw [h.2.2.2.2.2.2.2]))⟩)
      | (rw [eqP_iff];exact ⟨λh=>(by cases h),λh=>absurd (hiff.1 h) (by rw [snocF_eq];exact λh=>e7 h.2.2.2.2.2.2.1)⟩)
    try simp only [df] at h46
    have e3:=(Al_Classical_not_not.1 h46:fd0=fd1);refine .gy (.fieldAddr Z Fx.field35_3)<|.gy (.load Z Fx.agg3 mem1 Z)<|.gy (.fieldAddr Z Fx.field35_3)<|.gy (.load Z Fx.agg3 Hm Z)<|.gy (.neq Z Z)<|.yw (.pickF Z Z)<|.mv Z<|.b2 (λh53=>?_) (λh53=>?_)
    ·try simp only [dt] at h53
     have e4:=(λe=>h53 (by rw [e]):¬ a0=a1);refine .gG<|.gG<|.gG<|.gG<|.gG<|.yw (.pickT Z Z)<|.mv Z<|.gG<|.gG<|.gG<|.gG<|.gG<|.gG<|.gG<|.yw (.pickT Z Z)<|.mv Z<|.gG<|.gG<|.gG<|.gG<|.gG<|.gG<|.yw (.pickT Z Z)<|.nt<|.cT Z<|.sr<|.az Z<|.tR<|.bR<|.tR<|.tR<|.bR<|.tR<|?_
     refine y9 Z Z λW s=>⟨retB ?_,s.ext⟩
     first
      | (rw [eqP_iff];exact ⟨λ_=>hall,λ_=>rfl⟩)
      | (rw [eqP_iff];exact ⟨λh=>(by cases h),λh=>absurd (hiff.1 h) (by rw [snocF_eq];exact λh=>e1 (h.2.1))⟩)
      | (rw [eqP_iff];exact ⟨λh=>(by cases h),λh=>absurd (hiff.1 h) (by rw [snocF_eq];exact λh=>e2 (h.2.2.1))⟩)
      | (rw [eqP_iff];exact ⟨λh=>(by cases h),λh=>absurd (hiff.1 h) (by rw [snocF_eq];exact λh=>e3 (h.2.2.2.1))⟩)
      | (rw [eqP_iff];exact ⟨λh=>(by cases h),λh=>absurd (hiff.1 h) (by rw [snocF_eq];exact λh=>e4 (h.2.2.2.2.1))⟩)
      | (rw [eqP_iff];exact ⟨λh=>(by cases h),λh=>absurd (hiff.1 h) (by rw [snocF_eq];exact λh=>e5 (h.2.2.2.2.2.1))⟩)
      | (rw [eqP_iff];exact ⟨λh=>(by cases h),λh=>absurd (hiff.1 h) (by rw [snocF_eq];exact λh=>e6 (by rw [h.2.2.2.2.2.2.2]))⟩)
      | (rw [eqP_iff];exact ⟨λh=>(by cases h),λh=>absurd (hiff.1 h) (by rw [snocF_eq];exact λh=>e7 h.2.2.2.2.2.2.1)⟩)
    try simp only [df] at h53
    have e4:=Al_Int64_toInt_inj.1 (by omega:a0.toInt=a1.toInt);refine .gy (.fieldAddr Z Fx.field35_4)<|.gy (.load Z Fx.agg3 mem1 Z)<|.gy (.fieldAddr Z Fx.field35_4)<|.gy (.load Z Fx.agg3 Hm Z)<|.gy (.neq Z Z)<|.yw (.pickF Z Z)<|.mv Z<|.b2 (λh60=>?_) (λh60=>?_)
    ·try simp only [dt] at h60
     have e5:=(λe=>h60 (by rw [e]):¬ b0=b1);refine .gG<|.gG<|.gG<|.gG<|.gG<|.gG<|.gG<|.yw (.pickT Z Z)<|.mv Z<|.gG<|.gG<|.gG<|.gG<|.gG<|.gG<|.yw (.pickT Z Z)<|.nt<|.cT Z<|.sr<|.az Z<|.tR<|.bR<|.tR<|.tR<|.bR<|.tR<|?_
     refine y9 Z Z λW s=>⟨retB ?_,s.ext⟩
     first
      | (rw [eqP_iff];exact ⟨λ_=>hall,λ_=>rfl⟩)
      | (rw [eqP_iff];exact ⟨λh=>(by cases h),λh=>absurd (hiff.1 h) (by rw [snocF_eq];exact λh=>e1 (h.2.1))⟩)
      | (rw [eqP_iff];exact ⟨λh=>(by cases h),λh=>absurd (hiff.1 h) (by rw [snocF_eq];exact λh=>e2 (h.2.2.1))⟩)
      | (rw [eqP_iff];exact ⟨λh=>(by cases h),λh=>absurd (hiff.1 h) (by rw [snocF_eq];exact λh=>e3 (h.2.2.2.1))⟩)
      | (rw [eqP_iff];exact ⟨λh=>(by cases h),λh=>absurd (hiff.1 h) (by rw [snocF_eq];exact λh=>e4 (h.2.2.2.2.1))⟩)
      | (rw [eqP_iff];exact ⟨λh=>(by cases h),λh=>absurd (hiff.1 h) (by rw [snocF_eq];exact λh=>e5 (h.2.2.2.2.2.1))⟩)
      | (rw [eqP_iff];exact ⟨λh=>(by cases h),λh=>absurd (hiff.1 h) (by rw [snocF_eq];exact λh=>e6 (by rw [h.2.2.2.2.2.2.2]))⟩)
      | (rw [eqP_iff];exact ⟨λh=>(by cases h),λh=>absurd (hiff.1 h) (by rw [snocF_eq];exact λh=>e7 h.2.2.2.2.2.2.1)⟩)
    try simp only [df] at h60
    have e5:=Al_Int64_toInt_inj.1 (by omega:b0.toInt=b1.toInt);refine .gy (.fieldAddr Z Fx.field35_6)<|.gy (.load Z Fx.agg33 mem1 Z)<|.gy (.lenSl Fx.sl33 Z)<|.gy (.fieldAddr Z Fx.field35_6)<|.gy (.load Z Fx.agg33 Hm Z)<|.gy (.lenSl Fx.sl33 Z)<|.gy (.neq Z Z)<|.yw (.pickF Z Z)<|.mv Z<|.b2 (λh69=>?_) (λh69=>?_)
    ·try simp only [dt] at h69
     have e6:=(λe=>h69 (by rw [e]):¬ args0.length=args1.length);refine .gG<|.gG<|.gG<|.gG<|.gG<|.gG<|.yw (.pickT Z Z)<|.nt<|.cT Z<|.sr<|.az Z<|.tR<|.bR<|.tR<|.tR<|.bR<|.tR<|?_
     refine y9 Z Z λW s=>⟨retB ?_,s.ext⟩
     first
      | (rw [eqP_iff];exact ⟨λ_=>hall,λ_=>rfl⟩)
      | (rw [eqP_iff];exact ⟨λh=>(by cases h),λh=>absurd (hiff.1 h) (by rw [snocF_eq];exact λh=>e1 (h.2.1))⟩)
      | (rw [eqP_iff];exact ⟨λh=>(by cases h),λh=>absurd (hiff.1 h) (by rw [snocF_eq];exact λh=>e2 (h.2.2.1))⟩)
      | (rw [eqP_iff];exact ⟨λh=>(by cases h),λh=>absurd (hiff.1 h) (by rw [snocF_eq];exact λh=>e3 (h.2.2.2.1))⟩)
      | (rw [eqP_iff];exact ⟨λh=>(by cases h),λh=>absurd (hiff.1 h) (by rw [snocF_eq];exact λh=>e4 (h.2.2.2.2.1))⟩)
      | (rw [eqP_iff];exact ⟨λh=>(by cases h),λh=>absurd (hiff.1 h) (by rw [snocF_eq];exact λh=>e5 (h.2.2.2.2.2.1))⟩)
      | (rw [eqP_iff];exact ⟨λh=>(by cases h),λh=>absurd (hiff.1 h) (by rw [snocF_eq];exact λh=>e6 (by rw [h.2.2.2.2.2.2.2]))⟩)
      | (rw [eqP_iff];exact ⟨λh=>(by cases h),λh=>absurd (hiff.1 h) (by rw [snocF_eq];exact λh=>e7 h.2.2.2.2.2.2.1)⟩)
    try simp only [df] at h69
    have e6:=(by omega:args0.length=args1.length);refine .gy (.fieldAddr Z Fx.field35_5)<|.gy (.load Z Fx.agg32 mem1 Z)<|.gy (.fieldAddr Z Fx.field35_5)<|.gy (.load Z Fx.agg32 Hm Z)<|.gy (.call Fx.call51 Z (λW s=>eqFuncE H 52 Fx.call52 ex0 ex1 (λa _=>equalExpr_any H a) _ _ hs0 hs5 W s.agr))<|.gy (.not Z)<|.yw (.pickF Z Z)<|.nt<|.cd Z (λh76=>?_) (λh76=>?_)
    ·try simp only [dt] at h76
     have e7:=eqP_false.1 (by simpa using h76);refine .sr<|.az Z<|.tR<|.bR<|.tR<|.tR<|.bR<|.tR<|?_
     refine y9 Z Z λW s=>⟨retB ?_,s.ext⟩
     first
      | (rw [eqP_iff];exact ⟨λ_=>hall,λ_=>rfl⟩)
      | (rw [eqP_iff];exact ⟨λh=>(by cases h),λh=>absurd (hiff.1 h) (by rw [snocF_eq];exact λh=>e1 (h.2.1))⟩)
      | (rw [eqP_iff];exact ⟨λh=>(by cases h),λh=>absurd (hiff.1 h) (by rw [snocF_eq];exact λh=>e2 (h.2.2.1))⟩)
      | (rw [eqP_iff];exact ⟨λh=>(by cases h),λh=>absurd (hiff.1 h) (by rw [snocF_eq];exact λh=>e3 (h.2.2.2.1))⟩)
      | (rw [eqP_iff];exact ⟨λh=>(by cases h),λh=>absurd (hiff.1 h) (by rw [snocF_eq];exact λh=>e4 (h.2.2.2.2.1))⟩)
      | (rw [eqP_iff];exact ⟨λh=>(by cases h),λh=>absurd (hiff.1 h) (by rw [snocF_eq];exact λh=>e5 (h.2.2.2.2.2.1))⟩)
      | (rw [eqP_iff];exact ⟨λh=>(by cases h),λh=>absurd (hiff.1 h) (by rw [snocF_eq];exact λh=>e6 (by rw [h.2.2.2.2.2.2.2]))⟩)
      | (rw [eqP_iff];exact ⟨λh=>(by cases h),λh=>absurd (hiff.1 h) (by rw [snocF_eq];exact λh=>e7 h.2.2.2.2.2.2.1)⟩)
    try simp only [df] at h76
    have e7:=eqP_iff.1 (by simpa using h76);refine Sx.At.rcut (size:=7) (m:=fs0.length) (ys:=xf.take (fs0.length * 7)) upd2 (by rw [hl0];exact Nat.le_succ _) rfl ?_;refine Sx.At.rcut (size:=7) (m:=gs0.length) (ys:=xg.take (gs0.length * 7)) upd3 (by rw [hl1];exact Nat.le_succ _) rfl ?_;exact .sk<|.tN<|.fL 12 [(0,0),(1,0),(2,0),(3,0),(4,0),(6,0),(7,0),(8,0),(9,0),(10,0),(5,3),(11,3)]<|.mv Z<|.mv Z<|.yw (.cutHi Fx.sl33 Z Z (h:=fs0.length) (by rw [hl0];omega) (by rw [hl0] at hgc;omega) (λq e=>by cases e;rfl))<|.fA Z Fx.field35_6<|.lD Z Fx.agg33 mem1 Z<|.mv Z<|.mv Z<|.yw (.cutHi Fx.sl33 Z Z (h:=gs0.length) (by rw [hl0];omega) (by rw [hl1] at hgd;omega) (λq e=>by cases e;rfl))<|.fA Z Fx.field35_6<|.lD Z Fx.agg33 Hm Z<|.apD Fx.row33 Z (λ_ _=>upd2) Z hs3 (by simp only [maxLen];omega) (by omega) Z (λ_ _=>(.yv (.load Z Fx.agg33 Hm Z)<|.yv (.fieldAddr Z Fx.field35_6)<|.yv (.cutHi Fx.sl33 Z Z (h:=gs0.length) (by rw [hl0];omega) (by rw [hl1] at hgd;omega) (λq e=>by cases e;rfl))<|.yv (.move Z)<|.yv (.move Z)<|.d3<|.d2<|.nl)) λnews pN cN hzn=>.apD Fx.row33 Z (λ_ _=>upd3) Z hs6 (by simp only [maxLen];omega) (by omega) Z (λ_ _=>(.d4<|.d4<|.d2<|.nl)) λmews pM cM hzm=>.fn (tl:=[_,_]) Z<|.a Z Z<|.a Z Z<|.nl<|.bN<|.tN<|.rg<|.mv Z<|.yw (.lenSl Fx.sl33 Z)<|.yw (.sub Z Z (w6 (by omega)))<|.aq Z<|.ag (x:=(n,fs0++[Fm.mk op0 nm0 fd0 a0 b0 ex0 args0],gs0++[Fm.mk op1 nm1 fd1 a1 b1 ex1 args1],Value.slice (some ⟨wf,0,none⟩) (fs0++[Fm.mk op0 nm0 fd0 a0 b0 ex0 args0]).length cf,Value.slice (some ⟨wg,0,none⟩) (gs0++[Fm.mk op1 nm1 fd1 a1 b1 ex1 args1]).length cg,xf,xg)) (n+1,fs0++args0,gs0++args1,Value.slice pN (fs0.length+args0.length) cN,Value.slice pM (gs0.length+args1.length) cM,xf.take (fs0.length * 7)++news,xg.take (gs0.length * 7)++mews) ⟨Z,Z,by dsimp only;exact congrArg (λm:Nat=>some (Value.int .i64 ((m:Int) - 1))) (Al_List_length_append ).symm,Jt⟩ trivial (λ_ s=>by dsimp only;rw [Al_List_length_append,Al_List_length_append];exact (s.pick [2,3,4,5] _ Z Z)) ⟨by rw [Al_List_map_append];exact hz0.app hzn,by rw [Al_List_map_append];exact hz1.app hzm,by dsimp only;rw [Al_List_length_append,Al_List_length_append];omega,by dsimp only;rw [fm_counts_app];omega,λe he=>by rcases Al_List_mem_append.1 he with h | h;exact hbf e (Al_List_mem_append.2 (.inl h));exact hb0.2 e h,by dsimp only;rw [Al_List_length_append,hNs];omega,by dsimp only;exact hiff.trans (snocF_app e1 e2 e3 e4 e5 e6 e7 hle)⟩ (by dsimp only;rw [fm_counts_app,fm_counts_app,Fm.counts,Fm.counts,fm_count];omega)
   refine .al Fx.zero35 Z λb9=>.h1<|.al Fx.zero35 Z λb8=>.h1<|.sW .head Z Z Fx.size35 (by simp [Value.oneCell',strV]) Z ((.yv (.loadR (vs:=cFm .u8 op1 nm1 fd1 a1 b1 (.slice q5 ex1.length d5) (.slice q6 args1.length d6)) Z Fx.agg35 mem3 Z hx1)<|.yv (.indexSl Fx.sl33 Z Z (i:=gs0.length) (by rw [hl0];omega) (by rw [hl1];omega) (q:=gs0.length * 7) (by omega))<|.yv (.move Z)<|.yv (.move Z)<|.d4<|.nl))<|.fn (tl:=[_]) Z<|.sX upd1 Z Z Fx.size35 Z<|.nt<|.sq<|.sr<|.fA Z Fx.field35_0<|.lD Z Fx.agg31 Hm Z<|.fA Z Fx.field35_0<|.lD Z Fx.agg31 mem1 Z<|.yw (.neq Z Z)<|.mv Z<|.b2 (λh32=>?_) (λh32=>?_)
   ·try simp only [dt] at h32
    have e1:=(λe=>h32 (by rw [e]):¬ op0=op1);refine .gG<|.gG<|.gG<|.gG<|.gG<|.yw (.pickT Z Z)<|.mv Z<|.gG<|.gG<|.gG<|.gG<|.gG<|.yw (.pickT Z Z)<|.mv Z<|.gG<|.gG<|.gG<|.gG<|.gG<|.yw (.pickT Z Z)<|.mv Z<|.gG<|.gG<|.gG<|.gG<|.gG<|.yw (.pickT Z Z)<|.mv Z<|.gG<|.gG<|.gG<|.gG<|.gG<|.gG<|.gG<|.yw (.pickT Z Z)<|.mv Z<|.gG<|.gG<|.gG<|.gG<|.gG<|.gG<|.yw (.pickT Z Z)<|.nt<|.cT Z<|.sr<|.az Z<|.tR<|.bR<|.tR<|.tR<|.bR<|.tR<|?_
    refine y9 Z Z λW s=>⟨retB ?_,s.ext⟩
    first
     | (rw [eqP_iff];exact ⟨λ_=>hall,λ_=>rfl⟩)
     | (rw [eqP_iff];exact ⟨λh=>(by cases h),λh=>absurd (hiff.1 h) (by rw [snocF_eq];exact λh=>e1 (h.2.1))⟩)
     | (rw [eqP_iff];exact ⟨λh=>(by cases h),λh=>absurd (hiff.1 h) (by rw [snocF_eq];exact λh=>e2 (h.2.2.1))⟩)
     | (rw [eqP_iff];exact ⟨λh=>(by cases h),λh=>absurd (hiff.1 h) (by rw [snocF_eq];exact λh=>e3 (h.2.2.2.1))⟩)
     | (rw [eqP_iff];exact ⟨λh=>(by cases h),λh=>absurd (hiff.1 h) (by rw [snocF_eq];exact λh=>e4 (h.2.2.2.2.1))⟩)
     | (rw [eqP_iff];exact ⟨λh=>(by cases h),λh=>absurd (hiff.1 h) (by rw [snocF_eq];exact λh=>e5 (h.2.2.2.2.2.1))⟩)
     | (rw [eqP_iff];exact ⟨λh=>(by cases h),λh=>absurd (hiff.1 h) (by rw [snocF_eq];exact λh=>e6 (by rw [h.2.2.2.2.2.2.2]))⟩)
     | (rw [eqP_iff];exact ⟨λh=>(by cases h),λh=>absurd (hiff.1 h) (by rw [snocF_eq];exact λh=>e7 h.2.2.2.2.2.2.1)⟩)
   try simp only [df] at h32
   have e1:=Al_UInt8_toNat_inj.1 (by omega:op0.toNat=op1.toNat);refine .gy (.fieldAddr Z Fx.field35_1)<|.gy (.load Z Fx.agg9 Hm Z)<|.gy (.fieldAddr Z Fx.field35_1)<|.gy (.load Z Fx.agg9 mem1 Z)<|.gy (.neS Z Z)<|.yw (.pickF Z Z)<|.mv Z<|.b2 (λh39=>?_) (λh39=>?_)
   ·try simp only [dt] at h39
    have e2:=(id h39:¬ nm0=nm1);refine .gG<|.gG<|.gG<|.gG<|.gG<|.yw (.pickT Z Z)<|.mv Z<|.gG<|.gG<|.gG<|.gG<|.gG<|.yw (.pickT Z Z)<|.mv Z<|.gG<|.gG<|.gG<|.gG<|.gG<|.yw (.pickT Z Z)<|.mv Z<|.gG<|.gG<|.gG<|.gG<|.gG<|.gG<|.gG<|.yw (.pickT Z Z)<|.mv Z<|.gG<|.gG<|.gG<|.gG<|.gG<|.gG<|.yw (.pickT Z Z)<|.nt<|.cT Z<|.sr<|.az Z<|.tR<|.bR<|.tR<|.tR<|.bR<|.tR<|?_
    refine y9 Z Z λW s=>⟨retB ?_,s.ext⟩
    first
     | (rw [eqP_iff];exact ⟨λ_=>hall,λ_=>rfl⟩)
     | (rw [eqP_iff];exact ⟨λh=>(by cases h),λh=>absurd (hiff.1 h) (by rw [snocF_eq];exact λh=>e1 (h.2.1))⟩)
     | (rw [eqP_iff];exact ⟨λh=>(by cases h),λh=>absurd (hiff.1 h) (by rw [snocF_eq];exact λh=>e2 (h.2.2.1))⟩)
     | (rw [eqP_iff];exact ⟨λh=>(by cases h),λh=>absurd (hiff.1 h) (by rw [snocF_eq];exact λh=>e3 (h.2.2.2.1))⟩)
     | (rw [eqP_iff];exact ⟨λh=>(by cases h),λh=>absurd (hiff.1 h) (by rw [snocF_eq];exact λh=>e4 (h.2.2.2.2.1))⟩)
     | (rw [eqP_iff];exact ⟨λh=>(by cases h),λh=>absurd (hiff.1 h) (by rw [snocF_eq];exact λh=>e5 (h.2.2.2.2.2.1))⟩)
     | (rw [eqP_iff];exact ⟨λh=>(by cases h),λh=>absurd (hiff.1 h) (by rw [snocF_eq];exact λh=>e6 (by rw [h.2.2.2.2.2.2.2]))⟩)
     | (rw [eqP_iff];exact ⟨λh=>(by cases h),λh=>absurd (hiff.1 h) (by rw [snocF_eq];exact λh=>e7 h.2.2.2.2.2.2.1)⟩)
   try simp only [df] at h39
   have e2:=(Al_Classical_not_not.1 h39:nm0=nm1);refine .gy (.fieldAddr Z Fx.field35_2)<|.gy (.load Z Fx.agg9 Hm Z)<|.gy (.fieldAddr Z Fx.field35_2)<|.gy (.load Z Fx.agg9 mem1 Z)<|.gy (.neS Z Z)<|.yw (.pickF Z Z)<|.mv Z<|.b2 (λh46=>?_) (λh46=>?_)
   ·try simp only [dt] at h46
    have e3:=(id h46:¬ fd0=fd1);refine .gG<|.gG<|.gG<|.gG<|.gG<|.yw (.pickT Z Z)<|.mv Z<|.gG<|.gG<|.gG<|.gG<|.gG<|.yw (.pickT Z Z)<|.mv Z<|.gG<|.gG<|.gG<|.gG<|.gG<|.gG<|.gG<|.yw (.pickT Z Z)<|.mv Z<|.gG<|.gG<|.gG<|.gG<|.gG<|.gG<|.yw (.pickT Z Z)<|.nt<|.cT Z<|.sr<|.az Z<|.tR<|.bR<|.tR<|.tR<|.bR<|.tR<|?_
    refine y9 Z Z λW s=>⟨retB ?_,s.ext⟩
    first
     | (rw [eqP_iff];exact ⟨λ_=>hall,λ_=>rfl⟩)
     | (rw [eqP_iff];exact ⟨λh=>(by cases h),λh=>absurd (hiff.1 h) (by rw [snocF_eq];exact λh=>e1 (h.2.1))⟩)
     | (rw [eqP_iff];exact ⟨λh=>(by cases h),λh=>absurd (hiff.1 h) (by rw [snocF_eq];exact λh=>e2 (h.2.2.1))⟩)
     | (rw [eqP_iff];exact ⟨λh=>(by cases h),λh=>absurd (hiff.1 h) (by rw [snocF_eq];exact λh=>e3 (h.2.2.2.1))⟩)
     | (rw [eqP_iff];exact ⟨λh=>(by cases h),λh=>absurd (hiff.1 h) (by rw [snocF_eq];exact λh=>e4 (h.2.2.2.2.1))⟩)
     | (rw [eqP_iff];exact ⟨λh=>(by cases h),λh=>absurd (hiff.1 h) (by rw [snocF_eq];exact λh=>e5 (h.2.2.2.2.2.1))⟩)
     | (rw [eqP_iff];exact ⟨λh=>(by cases h),λh=>absurd (hiff.1 h) (by rw [snocF_eq];exact λh=>e6 (by rw [h.2.2.2.2.2.2.2]))⟩)
     | (rw [eqP_iff];exact ⟨λh=>(by cases h),λh=>absurd (hiff.1 h) (by rw [snocF_eq];exact λh=>e7 h.2.2.2.2.2.2.1)⟩)
   try simp only [df] at h46
   have e3:=(Al_Classical_not_not.1 h46:fd0=fd1);refine .gy (.fieldAddr Z Fx.field35_3)<|.gy (.load Z Fx.agg3 Hm Z)<|.gy (.fieldAddr Z Fx.field35_3)<|.gy (.load Z Fx.agg3 mem1 Z)<|.gy (.neq Z Z)<|.yw (.pickF Z Z)<|.mv Z<|.b2 (λh53=>?_) (λh53=>?_)
   ·try simp only [dt] at h53
    have e4:=(λe=>h53 (by rw [e]):¬ a0=a1);refine .gG<|.gG<|.gG<|.gG<|.gG<|.yw (.pickT Z Z)<|.mv Z<|.gG<|.gG<|.gG<|.gG<|.gG<|.gG<|.gG<|.yw (.pickT Z Z)<|.mv Z<|.gG<|.gG<|.gG<|.gG<|.gG<|.gG<|.yw (.pickT Z Z)<|.nt<|.cT Z<|.sr<|.az Z<|.tR<|.bR<|.tR<|.tR<|.bR<|.tR<|?_
    refine y9 Z Z λW s=>⟨retB ?_,s.ext⟩
    first
     | (rw [eqP_iff];exact ⟨λ_=>hall,λ_=>rfl⟩)
     | (rw [eqP_iff];exact ⟨λh=>(by cases h),λh=>absurd (hiff.1 h) (by rw [snocF_eq];exact λh=>e1 (h.2.1))⟩)
     | (rw [eqP_iff];exact ⟨λh=>(by cases h),λh=>absurd (hiff.1 h) (by rw [snocF_eq];exact λh=>e2 (h.2.2.1))⟩)
     | (rw [eqP_iff];exact ⟨λh=>(by cases h),λh=>absurd (hiff.1 h) (by rw [snocF_eq];exact λh=>e3 (h.2.2.2.1))⟩)
     | (rw [eqP_iff];exact ⟨λh=>(by cases h),λh=>absurd (hiff.1 h) (by rw [snocF_eq];exact λh=>e4 (h.2.2.2.2.1))⟩)
     | (rw [eqP_iff];exact ⟨λh=>(by cases h),λh=>absurd (hiff.1 h) (by rw [snocF_eq];exact λh=>e5 (h.2.2.2.2.2.1))⟩)
     | (rw [eqP_iff];exact ⟨λh=>(by cases h),λh=>absurd (hiff.1 h) (by rw [snocF_eq];exact λh=>e6 (by rw [h.2.2.2.2.2.2.2]))⟩)
     | (rw [eqP_iff];exact ⟨λh=>(by cases h),λh=>absurd (hiff.1 h) (by rw [snocF_eq];exact λh=>e7 h.2.2.2.2.2.2.1)⟩)
   try simp only [df] at h53
   have e4:=Al_Int64_toInt_inj.1 (by omega:a0.toInt=a1.toInt);refine .gy (.fieldAddr Z Fx.field35_4)<|.gy (.load Z Fx.agg3 Hm Z)<|.gy (.fieldAddr Z Fx.field35_4)<|.gy (.load Z Fx.agg3 mem1 Z)<|.gy (.neq Z Z)<|.yw (.pickF Z Z)<|.mv Z<|.b2 (λh60=>?_) (λh60=>?_)
   ·try simp only [dt] at h60
    have e5:=(λe=>h60 (by rw [e]):¬ b0=b1);refine .gG<|.gG<|.gG<|.gG<|.gG<|.gG<|.gG<|.yw (.pickT Z Z)<|.mv Z<|.gG<|.gG<|.gG<|.gG<|.gG<|.gG<|.yw (.pickT Z Z)<|.nt<|.cT Z<|.sr<|.az Z<|.tR<|.bR<|.tR<|.tR<|.bR<|.tR<|?_
    refine y9 Z Z λW s=>⟨retB ?_,s.ext⟩
    first
     | (rw [eqP_iff];exact ⟨λ_=>hall,λ_=>rfl⟩)
     | (rw [eqP_iff];exact ⟨λh=>(by cases h),λh=>absurd (hiff.1 h) (by rw [snocF_eq];exact λh=>e1 (h.2.1))⟩)
     | (rw [eqP_iff];exact ⟨λh=>(by cases h),λh=>absurd (hiff.1 h) (by rw [snocF_eq];exact λh=>e2 (h.2.2.1))⟩)
     | (rw [eqP_iff];exact ⟨λh=>(by cases h),λh=>absurd (hiff.1 h) (by rw [snocF_eq];exact λh=>e3 (h.2.2.2.1))⟩)
     | (rw [eqP_iff];exact ⟨λh=>(by cases h),λh=>absurd (hiff.1 h) (by rw [snocF_eq];exact λh=>e4 (h.2.2.2.2.1))⟩)
     | (rw [eqP_iff];exact ⟨λh=>(by cases h),λh=>absurd (hiff.1 h) (by rw [snocF_eq];exact λh=>e5 (h.2.2.2.2.2.1))⟩)
     | (rw [eqP_iff];exact ⟨λh=>(by cases h),λh=>absurd (hiff.1 h) (by rw [snocF_eq];exact λh=>e6 (by rw [h.2.2.2.2.2.2.2]))⟩)
     | (rw [eqP_iff];exact ⟨λh=>(by cases h),λh=>absurd (hiff.1 h) (by rw [snocF_eq];exact λh=>e7 h.2.2.2.2.2.2.1)⟩)
   try simp only [df] at h60
   have e5:=Al_Int64_toInt_inj.1 (by omega:b0.toInt=b1.toInt);refine .gy (.fieldAddr Z Fx.field35_6)<|.gy (.load Z Fx.agg33 Hm Z)<|.gy (.lenSl Fx.sl33 Z)<|.gy (.fieldAddr Z Fx.field35_6)<|.gy (.load Z Fx.agg33 mem1 Z)<|.gy (.lenSl Fx.sl33 Z)<|.gy (.neq Z Z)<|.yw (.pickF Z Z)<|.mv Z<|.b2 (λh69=>?_) (λh69=>?_)
   ·try simp only [dt] at h69
    have e6:=(λe=>h69 (by rw [e]):¬ args0.length=args1.length);refine .gG<|.gG<|.gG<|.gG<|.gG<|.gG<|.yw (.pickT Z Z)<|.nt<|.cT Z<|.sr<|.az Z<|.tR<|.bR<|.tR<|.tR<|.bR<|.tR<|?_
    refine y9 Z Z λW s=>⟨retB ?_,s.ext⟩
    first
     | (rw [eqP_iff];exact ⟨λ_=>hall,λ_=>rfl⟩)
     | (rw [eqP_iff];exact ⟨λh=>(by cases h),λh=>absurd (hiff.1 h) (by rw [snocF_eq];exact λh=>e1 (h.2.1))⟩)
     | (rw [eqP_iff];exact ⟨λh=>(by cases h),λh=>absurd (hiff.1 h) (by rw [snocF_eq];exact λh=>e2 (h.2.2.1))⟩)
     | (rw [eqP_iff];exact ⟨λh=>(by cases h),λh=>absurd (hiff.1 h) (by rw [snocF_eq];exact λh=>e3 (h.2.2.2.1))⟩)
     | (rw [eqP_iff];exact ⟨λh=>(by cases h),λh=>absurd (hiff.1 h) (by rw [snocF_eq];exact λh=>e4 (h.2.2.2.2.1))⟩)
     | (rw [eqP_iff];exact ⟨λh=>(by cases h),λh=>absurd (hiff.1 h) (by rw [snocF_eq];exact λh=>e5 (h.2.2.2.2.2.1))⟩)
     | (rw [eqP_iff];exact ⟨λh=>(by cases h),λh=>absurd (hiff.1 h) (by rw [snocF_eq];exact λh=>e6 (by rw [h.2.2.2.2.2.2.2]))⟩)
     | (rw [eqP_iff];exact ⟨λh=>(by cases h),λh=>absurd (hiff.1 h) (by rw [snocF_eq];exact λh=>e7 h.2.2.2.2.2.2.1)⟩)
   try simp only [df] at h69
   have e6:=(by omega:args0.length=args1.length);refine .gy (.fieldAddr Z Fx.field35_5)<|.gy (.load Z Fx.agg32 Hm Z)<|.gy (.fieldAddr Z Fx.field35_5)<|.gy (.load Z Fx.agg32 mem1 Z)<|.gy (.call Fx.call51 Z (λW s=>eqFuncE H 52 Fx.call52 ex0 ex1 (λa _=>equalExpr_any H a) _ _ hs0 hs5 W s.agr))<|.gy (.not Z)<|.yw (.pickF Z Z)<|.nt<|.cd Z (λh76=>?_) (λh76=>?_)
   ·try simp only [dt] at h76
    have e7:=eqP_false.1 (by simpa using h76);refine .sr<|.az Z<|.tR<|.bR<|.tR<|.tR<|.bR<|.tR<|?_
    refine y9 Z Z λW s=>⟨retB ?_,s.ext⟩
    first
     | (rw [eqP_iff];exact ⟨λ_=>hall,λ_=>rfl⟩)
     | (rw [eqP_iff];exact ⟨λh=>(by cases h),λh=>absurd (hiff.1 h) (by rw [snocF_eq];exact λh=>e1 (h.2.1))⟩)
     | (rw [eqP_iff];exact ⟨λh=>(by cases h),λh=>absurd (hiff.1 h) (by rw [snocF_eq];exact λh=>e2 (h.2.2.1))⟩)
     | (rw [eqP_iff];exact ⟨λh=>(by cases h),λh=>absurd (hiff.1 h) (by rw [snocF_eq];exact λh=>e3 (h.2.2.2.1))⟩)
     | (rw [eqP_iff];exact ⟨λh=>(by cases h),λh=>absurd (hiff.1 h) (by rw [snocF_eq];exact λh=>e4 (h.2.2.2.2.1))⟩)
     | (rw [eqP_iff];exact ⟨λh=>(by cases h),λh=>absurd (hiff.1 h) (by rw [snocF_eq];exact λh=>e5 (h.2.2.2.2.2.1))⟩)
     | (rw [eqP_iff];exact ⟨λh=>(by cases h),λh=>absurd (hiff.1 h) (by rw [snocF_eq];exact λh=>e6 (by rw [h.2.2.2.2.2.2.2]))⟩)
     | (rw [eqP_iff];exact ⟨λh=>(by cases h),λh=>absurd (hiff.1 h) (by rw [snocF_eq];exact λh=>e7 h.2.2.2.2.2.2.1)⟩)
   try simp only [df] at h76
   have e7:=eqP_iff.1 (by simpa using h76);refine Sx.At.rcut (size:=7) (m:=fs0.length) (ys:=xf.take (fs0.length * 7)) upd2 (by rw [hl0];exact Nat.le_succ _) rfl ?_;refine Sx.At.rcut (size:=7) (m:=gs0.length) (ys:=xg.take (gs0.length * 7)) upd3 (by rw [hl1];exact Nat.le_succ _) rfl ?_;exact .sk<|.tN<|.fL 12 [(0,0),(1,0),(2,0),(3,0),(4,0),(6,0),(7,0),(8,0),(9,0),(10,0),(5,3),(11,3)]<|.mv Z<|.mv Z<|.yw (.cutHi Fx.sl33 Z Z (h:=fs0.length) (by rw [hl0];omega) (by rw [hl0] at hgc;omega) (λq e=>by cases e;rfl))<|.fA Z Fx.field35_6<|.lD Z Fx.agg33 Hm Z<|.mv Z<|.mv Z<|.yw (.cutHi Fx.sl33 Z Z (h:=gs0.length) (by rw [hl0];omega) (by rw [hl1] at hgd;omega) (λq e=>by cases e;rfl))<|.fA Z Fx.field35_6<|.lD Z Fx.agg33 mem1 Z<|.apD Fx.row33 Z (λ_ _=>upd2) Z hs3 (by simp only [maxLen];omega) (by omega) Z (λ_ _=>(.yv (.load Z Fx.agg33 mem1 Z)<|.yv (.fieldAddr Z Fx.field35_6)<|.yv (.cutHi Fx.sl33 Z Z (h:=gs0.length) (by rw [hl0];omega) (by rw [hl1] at hgd;omega) (λq e=>by cases e;rfl))<|.yv (.move Z)<|.yv (.move Z)<|.d3<|.d2<|.nl)) λnews pN cN hzn=>.apD Fx.row33 Z (λ_ _=>upd3) Z hs6 (by simp only [maxLen];omega) (by omega) Z (λ_ _=>(.d4<|.d4<|.d2<|.nl)) λmews pM cM hzm=>.fn (tl:=[_,_]) Z<|.a Z Z<|.a Z Z<|.nl<|.bN<|.tN<|.rg<|.mv Z<|.yw (.lenSl Fx.sl33 Z)<|.yw (.sub Z Z (w6 (by omega)))<|.aq Z<|.ag (x:=(n,fs0++[Fm.mk op0 nm0 fd0 a0 b0 ex0 args0],gs0++[Fm.mk op1 nm1 fd1 a1 b1 ex1 args1],Value.slice (some ⟨wf,0,none⟩) (fs0++[Fm.mk op0 nm0 fd0 a0 b0 ex0 args0]).length cf,Value.slice (some ⟨wg,0,none⟩) (gs0++[Fm.mk op1 nm1 fd1 a1 b1 ex1 args1]).length cg,xf,xg)) (n+1,fs0++args0,gs0++args1,Value.slice pN (fs0.length+args0.length) cN,Value.slice pM (gs0.length+args1.length) cM,xf.take (fs0.length * 7)++news,xg.take (gs0.length * 7)++mews) ⟨Z,Z,by dsimp only;exact congrArg (λm:Nat=>some (Value.int .i64 ((m:Int) - 1))) (Al_List_length_append ).symm,Jt⟩ trivial (λ_ s=>by dsimp only;rw [Al_List_length_append,Al_List_length_append];exact (s.pick [2,3,4,5] _ Z Z)) ⟨by rw [Al_List_map_append];exact hz0.app hzn,by rw [Al_List_map_append];exact hz1.app hzm,by dsimp only;rw [Al_List_length_append,Al_List_length_append];omega,by dsimp only;rw [fm_counts_app];omega,λe he=>by rcases Al_List_mem_append.1 he with h | h;exact hbf e (Al_List_mem_append.2 (.inl h));exact hb0.2 e h,by dsimp only;rw [Al_List_length_append,hNs];omega,by dsimp only;exact hiff.trans (snocF_app e1 e2 e3 e4 e5 e6 e7 hle)⟩ (by dsimp only;rw [fm_counts_app,fm_counts_app,Fm.counts,Fm.counts,fm_count];omega)
  try simp only [df] at h15
  have hfs:fs=[]:=Al_List_eq_nil_of_length_eq_zero (by omega);have hgs:gs=[]:=Al_List_eq_nil_of_length_eq_zero (by omega);have hall:=hiff.2 (by rw [hfs,hgs]);refine .ex<|.eb<|.sr<|.az Z<|?_
  refine y9 Z Z λW s=>⟨retB ?_,s.ext⟩
  first
   | (rw [eqP_iff];exact ⟨λ_=>hall,λ_=>rfl⟩)
   | (rw [eqP_iff];exact ⟨λh=>(by cases h),λh=>absurd (hiff.1 h) (by rw [snocF_eq];exact λh=>e1 (h.2.1))⟩)
   | (rw [eqP_iff];exact ⟨λh=>(by cases h),λh=>absurd (hiff.1 h) (by rw [snocF_eq];exact λh=>e2 (h.2.2.1))⟩)
   | (rw [eqP_iff];exact ⟨λh=>(by cases h),λh=>absurd (hiff.1 h) (by rw [snocF_eq];exact λh=>e3 (h.2.2.2.1))⟩)
   | (rw [eqP_iff];exact ⟨λh=>(by cases h),λh=>absurd (hiff.1 h) (by rw [snocF_eq];exact λh=>e4 (h.2.2.2.2.1))⟩)
   | (rw [eqP_iff];exact ⟨λh=>(by cases h),λh=>absurd (hiff.1 h) (by rw [snocF_eq];exact λh=>e5 (h.2.2.2.2.2.1))⟩)
   | (rw [eqP_iff];exact ⟨λh=>(by cases h),λh=>absurd (hiff.1 h) (by rw [snocF_eq];exact λh=>e6 (by rw [h.2.2.2.2.2.2.2]))⟩)
   | (rw [eqP_iff];exact ⟨λh=>(by cases h),λh=>absurd (hiff.1 h) (by rw [snocF_eq];exact λh=>e7 h.2.2.2.2.2.2.1)⟩)
 refine .blR (z:=7) Z (Fx.bsl33_1 _ _ _ _ _ _ _) Z Z (by simp [maxLen]) λb13=>.h1<|.blR (z:=7) Z (Fx.bsl33_1 _ _ _ _ _ _ _) Z Z (by simp [maxLen]) λb11=>.a Z Z<|.fn (tl:=[_]) Z<|.aq Z<|.sq<|.sr<|.aq Z<|.bk<|.lp (X:=Nat × List Fm × List Fm × Value × Value × List Value × List Value) [] trivial [_,_] (λz=>[(5,z.2.2.2.1),(6,z.2.2.2.2.1),(7,.int .i64 ((z.2.1.length:Int) - 1))]) (λz=>H) (λz=>[.row 35 7 z.2.2.2.1 z.2.1.length z.2.2.2.2.2.1,.row 35 7 z.2.2.2.2.1 z.2.2.1.length z.2.2.2.2.2.2]) (λz=>RepZ H 7 (z.2.1.map (dFm .u8)) z.2.2.2.2.2.1/\RepZ H 7 (z.2.2.1.map (dFm .u8)) z.2.2.2.2.2.2/\z.2.1.length=z.2.2.1.length/\z.1+Fm.counts z.2.1<=Fm.count (.mk op nm fd a b ex args)/\(∀ g∈z.2.1,blF N g=true)/\z.2.1.length<=1+N * z.1/\(Fm.mk op nm fd a b ex args=Fm.mk opb nmb fdb ab bb exb argsb↔z.2.1=z.2.2.1)) (λz=>Fm.counts z.2.1) (0,[Fm.mk op nm fd a b ex args],[Fm.mk opb nmb fdb ab bb exb argsb],.slice (some ⟨b11,0,none⟩) 1 1,.slice (some ⟨b13,0,none⟩) 1 1,[.int .u8 op.toNat,strV nm,strV fd,.int .i64 a.toInt,.int .i64 b.toInt,.slice p1 ex.length c1,.slice p2 args.length c2],[.int .u8 opb.toNat,strV nmb,strV fdb,.int .i64 ab.toInt,.int .i64 bb.toInt,.slice p3 exb.length c3,.slice p4 argsb.length c4]) (λ_ s=>s) ⟨Z,Z,Z,Jt⟩ ⟨.single h Z,.single k Z,Z,by rw [Fm.counts,Fm.counts];omega,λg hg=>by rw [Al_List_mem_singleton.1 hg];exact hb,by simp,by simp⟩ λz hC=>?_
 obtain ⟨n,fs,gs,rf,rg,xf,xg⟩:=z;obtain ⟨zf,zg,hle,hcnt,hbf,hlen,hiff⟩:=hC;dsimp only at zf zg hle hcnt hbf hlen hiff|-;have hNn:N * n<=N * Fm.count (.mk op nm fd a b ex args):=Al_Nat_mul_le_mul_left N (by omega);refine At.ra (size:=7) (r:=rf) (e:=35) Hm λpf cf e=>?_;subst e;refine At.ra (size:=7) (r:=rg) (e:=35) mem1 λpg cg e=>?_;subst e;refine .sq<|.sm Z<|.yw (.geq Z Z)<|.nt<|.cd Z (λh15=>?_) (λh15=>?_)
 ·try simp only [dt] at h15
  have hpos:0<fs.length:=by omega
  obtain ⟨fs0,f0,rfl⟩:∃ fs0 f0,fs=fs0++[f0]:=by
   rcases List.eq_nil_or_concat fs with h | ⟨t,x,h⟩
   ·subst h;simp at hpos hle
   ·exact ⟨t,x,by rw [h,List.concat_eq_append]⟩
  have hl0:(fs0++[f0]).length=fs0.length+1:=by rw [Al_List_length_append];rfl
  refine Sx.rowCase (size:=7) (r:=.slice pf (fs0++[f0]).length cf) (e:=35) Hm (by rw [hl0];exact Nat.succ_pos _) λwf c e hgc=>?_;injection e with e3 _ e4
  subst e3 e4;obtain ⟨cs0,r0,hc0,hx0⟩:=RepZ.at zf (i:=fs0.length) (d:=dFm .u8 f0) (by rw [Al_List_map_append,List.getElem?_append_right (by rw [Al_List_length_map];exact Al_Nat_le_refl _),Al_List_length_map,Al_Nat_sub_self];rfl)
  have hz0:RepZ H 7 (fs0.map (dFm .u8)) (xf.take (fs0.length * 7)):=by
   have h:=RepZ.take fs0.length zf;rw [Al_List_map_append,List.take_left' (by rw [Al_List_length_map])] at h;exact h
  obtain ⟨gs0,g0,rfl⟩:∃ fs0 f0,gs=fs0++[f0]:=by
   rcases List.eq_nil_or_concat gs with h | ⟨t,x,h⟩
   ·subst h;simp at hpos hle
   ·exact ⟨t,x,by rw [h,List.concat_eq_append]⟩
  have hl1:(gs0++[g0]).length=gs0.length+1:=by rw [Al_List_length_append];rfl
  refine Sx.rowCase (size:=7) (r:=.slice pg (gs0++[g0]).length cg) (e:=35) mem1 (by rw [hl1];exact Nat.succ_pos _) λwg c e hgd=>?_;injection e with e3 _ e4
  subst e3 e4;obtain ⟨cs1,r1,hc1,hx1⟩:=RepZ.at zg (i:=gs0.length) (d:=dFm .u8 g0) (by rw [Al_List_map_append,List.getElem?_append_right (by rw [Al_List_length_map];exact Al_Nat_le_refl _),Al_List_length_map,Al_Nat_sub_self];rfl)
  have hz1:RepZ H 7 (gs0.map (dFm .u8)) (xg.take (gs0.length * 7)):=by
   have h:=RepZ.take gs0.length zg;rw [Al_List_map_append,List.take_left' (by rw [Al_List_length_map])] at h;exact h
  obtain ⟨op0,nm0,fd0,a0,b0,ex0,args0⟩:=f0;obtain ⟨op1,nm1,fd1,a1,b1,ex1,args1⟩:=g0;obtain ⟨q1,d1,q2,d2,rfl,hs0,hs3,_,_⟩:=fm_open r0;obtain ⟨q5,d5,q6,d6,rfl,hs5,hs6,_,_⟩:=fm_open r1;have hb0:=(blF_mk.1 (hbf _ (Al_List_mem_append.2 (.inr (Al_List_mem_singleton.2 rfl)))));rw [fm_counts_app,Fm.counts,Fm.counts,fm_count] at hcnt;rw [hl0,hl1] at hle;rw [hl0] at hlen;have hNs:N * (n+1)=N * n+N:=Nat.mul_succ N n;have hcp0:=hs3.cap;have hcp1:=hs6.cap;refine .sk<|.tN<|.sq<|.bk<|.sq<|.ft (p:=.light _ _ (.light _ _ (.light _ _ (.light _ _ (.light _ _ (.light _ _ (.light _ _ (.light _ _ (.alt _ _ _ (.alt _ _ _ (.alt _ _ _ (.done) (.no)) (.no)) (.alt _ _ _ (.alt _ _ _ (.alt _ _ _ (.done) (.no)) (.no)) (.no))))))))))) 11 (.light 0 (.light 1 (.light 2 (.light 3 (.light 4 (.light 5 (.light 6 (.light 7 (.alt 8 0 (.alt 9 0 (.alt 10 2 (.done) (.no)) (.no)) (.alt 9 0 (.alt 8 0 (.alt 10 2 (.done) (.no)) (.no)) (.no))))))))))) (by kernel_rfl) (by kernel_rfl) Z<|.mv Z<|.mv Z<|.yw (.indexSl Fx.sl33 Z Z (i:=fs0.length) (by rw [hl0];omega) (by rw [hl0];omega) (q:=fs0.length * 7) (by omega))<|.yw (.loadR (vs:=cFm .u8 op0 nm0 fd0 a0 b0 (.slice q1 ex0.length d1) (.slice q2 args0.length d2)) Z Fx.agg35 Hm Z hx0)<|.mv Z<|.mv Z<|.yw (.indexSl Fx.sl33 Z Z (i:=gs0.length) (by rw [hl0];omega) (by rw [hl1];omega) (q:=gs0.length * 7) (by omega))<|.yw (.loadR (vs:=cFm .u8 op1 nm1 fd1 a1 b1 (.slice q5 ex1.length d5) (.slice q6 args1.length d6)) Z Fx.agg35 mem1 Z hx1)<|.h ?_ (.h ?_ .nn)
  ·
   refine .al Fx.zero35 Z λb8=>.h1<|.al Fx.zero35 Z λb9=>.h1<|.sW upd1 Z Z Fx.size35 (by simp [Value.oneCell',strV]) Z ((.yv (.loadR (vs:=cFm .u8 op1 nm1 fd1 a1 b1 (.slice q5 ex1.length d5) (.slice q6 args1.length d6)) Z Fx.agg35 mem3 Z hx1)<|.yv (.indexSl Fx.sl33 Z Z (i:=gs0.length) (by rw [hl0];omega) (by rw [hl1];omega) (q:=gs0.length * 7) (by omega))<|.yv (.move Z)<|.yv (.move Z)<|.d4<|.nl))<|.fn (tl:=[_]) Z<|.sX .head Z Z Fx.size35 Z<|.nt<|.sq<|.sr<|.fA Z Fx.field35_0<|.lD Z Fx.agg31 mem1 Z<|.fA Z Fx.field35_0<|.lD Z Fx.agg31 Hm Z<|.yw (.neq Z Z)<|.mv Z<|.b2 (λh32=>?_) (λh32=>?_)
   ·try simp only [dt] at h32
    have e1:=(λe=>h32 (by rw [e]):¬ op0=op1);refine .gG<|.gG<|.gG<|.gG<|.gG<|.yw (.pickT Z Z)<|.mv Z<|.gG<|.gG<|.gG<|.gG<|.gG<|.yw (.pickT Z Z)<|.mv Z<|.gG<|.gG<|.gG<|.gG<|.gG<|.yw (.pickT Z Z)<|.mv Z<|.gG<|.gG<|.gG<|.gG<|.gG<|.yw (.pickT Z Z)<|.mv Z<|.gG<|.gG<|.gG<|.gG<|.gG<|.gG<|.gG<|.yw (.pickT Z Z)<|.mv Z<|.gG<|.gG<|.gG<|.gG<|.gG<|.gG<|.yw (.pickT Z Z)<|.nt<|.cT Z<|.sr<|.az Z<|.tR<|.bR<|.tR<|.tR<|.bR<|.tR<|?_
    refine y9 Z Z λW s=>⟨retB ?_,s.ext⟩
    first
     | (rw [eqP_iff];exact ⟨λ_=>hall,λ_=>rfl⟩)
     | (rw [eqP_iff];exact ⟨λh=>(by cases h),λh=>absurd (hiff.1 h) (by rw [snocF_eq];exact λh=>e1 (h.2.1))⟩)
     | (rw [eqP_iff];exact ⟨λh=>(by cases h),λh=>absurd (hiff.1 h) (by rw [snocF_eq];exact λh=>e2 (h.2.2.1))⟩)
     | (rw [eqP_iff];exact ⟨λh=>(by cases h),λh=>absurd (hiff.1 h) (by rw [snocF_eq];exact λh=>e3 (h.2.2.2.1))⟩)
     | (rw [eqP_iff];exact ⟨λh=>(by cases h),λh=>absurd (hiff.1 h) (by rw [snocF_eq];exact λh=>e4 (h.2.2.2.2.1))⟩)
     | (rw [eqP_iff];exact ⟨λh=>(by cases h),λh=>absurd (hiff.1 h) (by rw [snocF_eq];exact λh=>e5 (h.2.2.2.2.2.1))⟩)
     | (rw [eqP_iff];exact ⟨λh=>(by cases h),λh=>absurd (hiff.1 h) (by rw [snocF_eq];exact λh=>e6 (by rw [h.2.2.2.2.2.2.2]))⟩)
     | (rw [eqP_iff];exact ⟨λh=>(by cases h),λh=>absurd (hiff.1 h) (by rw [snocF_eq];exact λh=>e7 h.2.2.2.2.2.2.1)⟩)
   try simp only [df] at h32
   have e1:=Al_UInt8_toNat_inj.1 (by omega:op0.toNat=op1.toNat);refine .gy (.fieldAddr Z Fx.field35_1)<|.gy (.load Z Fx.agg9 mem1 Z)<|.gy (.fieldAddr Z Fx.field35_1)<|.gy (.load Z Fx.agg9 Hm Z)<|.gy (.neS Z Z)<|.yw (.pickF Z Z)<|.mv Z<|.b2 (λh39=>?_) (λh39=>?_)
   ·try simp only [dt] at h39
    have e2:=(id h39:¬ nm0=nm1);refine .gG<|.gG<|.gG<|.gG<|.gG<|.yw (.pickT Z Z)<|.mv Z<|.gG<|.gG<|.gG<|.gG<|.gG<|.yw (.pickT Z Z)<|.mv Z<|.gG<|.gG<|.gG<|.gG<|.gG<|.yw (.pickT Z Z)<|.mv Z<|.gG<|.gG<|.gG<|.gG<|.gG<|.gG<|.gG<|.yw (.pickT Z Z)<|.mv Z<|.gG<|.gG<|.gG<|.gG<|.gG<|.gG<|.yw (.pickT Z Z)<|.nt<|.cT Z<|.sr<|.az Z<|.tR<|.bR<|.tR<|.tR<|.bR<|.tR<|?_
    refine y9 Z Z λW s=>⟨retB ?_,s.ext⟩
    first
     | (rw [eqP_iff];exact ⟨λ_=>hall,λ_=>rfl⟩)
     | (rw [eqP_iff];exact ⟨λh=>(by cases h),λh=>absurd (hiff.1 h) (by rw [snocF_eq];exact λh=>e1 (h.2.1))⟩)
     | (rw [eqP_iff];exact ⟨λh=>(by cases h),λh=>absurd (hiff.1 h) (by rw [snocF_eq];exact λh=>e2 (h.2.2.1))⟩)
     | (rw [eqP_iff];exact ⟨λh=>(by cases h),λh=>absurd (hiff.1 h) (by rw [snocF_eq];exact λh=>e3 (h.2.2.2.1))⟩)
     | (rw [eqP_iff];exact ⟨λh=>(by cases h),λh=>absurd (hiff.1 h) (by rw [snocF_eq];exact λh=>e4 (h.2.2.2.2.1))⟩)
     | (rw [eqP_iff];exact ⟨λh=>(by cases h),λh=>absurd (hiff.1 h) (by rw [snocF_eq];exact λh=>e5 (h.2.2.2.2.2.1))⟩)
     | (rw [eqP_iff];exact ⟨λh=>(by cases h),λh=>absurd (hiff.1 h) (by rw [snocF_eq];exact λh=>e6 (by rw [h.2.2.2.2.2.2.2]))⟩)
     | (rw [eqP_iff];exact ⟨λh=>(by cases h),λh=>absurd (hiff.1 h) (by rw [snocF_eq];exact λh=>e7 h.2.2.2.2.2.2.1)⟩)
   try simp only [df] at h39
   have e2:=(Al_Classical_not_not.1 h39:nm0=nm1);refine .gy (.fieldAddr Z Fx.field35_2)<|.gy (.load Z Fx.agg9 mem1 Z)<|.gy (.fieldAddr Z Fx.field35_2)<|.gy (.load Z Fx.agg9 Hm Z)<|.gy (.neS Z Z)<|.yw (.pickF Z Z)<|.mv Z<|.b2 (λh46=>?_) (λh46=>?_)
   ·try simp only [dt] at h46
    have e3:=(id h46:¬ fd0=fd1);refine .gG<|.gG<|.gG<|.gG<|.gG<|.yw (.pickT Z Z)<|.mv Z<|.gG<|.gG<|.gG<|.gG<|.gG<|.yw (.pickT Z Z)<|.mv Z<|.gG<|.gG<|.gG<|.gG<|.gG<|.gG<|.gG<|.yw (.pickT Z Z)<|.mv Z<|.gG<|.gG<|.gG<|.gG<|.gG<|.gG<|.yw (.pickT Z Z)<|.nt<|.cT Z<|.sr<|.az Z<|.tR<|.bR<|.tR<|.tR<|.bR<|.tR<|?_
    refine y9 Z Z λW s=>⟨retB ?_,s.ext⟩
    first
     | (rw [eqP_iff];exact ⟨λ_=>hall,λ_=>rfl⟩)
     | (rw [eqP_iff];exact ⟨λh=>(by cases h),λh=>absurd (hiff.1 h) (by rw [snocF_eq];exact λh=>e1 (h.2.1))⟩)
     | (rw [eqP_iff];exact ⟨λh=>(by cases h),λh=>absurd (hiff.1 h) (by rw [snocF_eq];exact λh=>e2 (h.2.2.1))⟩)
     | (rw [eqP_iff];exact ⟨λh=>(by cases h),λh=>absurd (hiff.1 h) (by rw [snocF_eq];exact λh=>e3 (h.2.2.2.1))⟩)
     | (rw [eqP_iff];exact ⟨λh=>(by cases h),λh=>absurd (hiff.1 h) (by rw [snocF_eq];exact λh=>e4 (h.2.2.2.2.1))⟩)
     | (rw [eqP_iff];exact ⟨λh=>(by cases h),λh=>absurd (hiff.1 h) (by rw [snocF_eq];exact λh=>e5 (h.2.2.2.2.2.1))⟩)
     | (rw [eqP_iff];exact ⟨λh=>(by cases h),λh=>absurd (hiff.1 h) (by rw [snocF_eq];exact λh=>e6 (by rw [h.2.2.2.2.2.2.2]))⟩)
     | (rw [eqP_iff];exact ⟨λh=>(by cases h),λh=>absurd (hiff.1 h) (by rw [snocF_eq];exact λh=>e7 h.2.2.2.2.2.2.1)⟩)
   try simp only [df] at h46
   have e3:=(Al_Classical_not_not.1 h46:fd0=fd1);refine .gy (.fieldAddr Z Fx.field35_3)<|.gy (.load Z Fx.agg3 mem1 Z)<|.gy (.fieldAddr Z Fx.field35_3)<|.gy (.load Z Fx.agg3 Hm Z)<|.gy (.neq Z Z)<|.yw (.pickF Z Z)<|.mv Z<|.b2 (λh53=>?_) (λh53=>?_)
   ·try simp only [dt] at h53
    have e4:=(λe=>h53 (by rw [e]):¬ a0=a1);refine .gG<|.gG<|.gG<|.gG<|.gG<|.yw (.pickT Z Z)<|.mv Z<|.gG<|.gG<|.gG<|.gG<|.gG<|.gG<|.gG<|.yw (.pickT Z Z)<|.mv Z<|.gG<|.gG<|.gG<|.gG<|.gG<|.gG<|.yw (.pickT Z Z)<|.nt<|.cT Z<|.sr<|.az Z<|.tR<|.bR<|.tR<|.tR<|.bR<|.tR<|?_
    refine y9 Z Z λW s=>⟨retB ?_,s.ext⟩
    first
     | (rw [eqP_iff];exact ⟨λ_=>hall,λ_=>rfl⟩)
     | (rw [eqP_iff];exact ⟨λh=>(by cases h),λh=>absurd (hiff.1 h) (by rw [snocF_eq];exact λh=>e1 (h.2.1))⟩)
     | (rw [eqP_iff];exact ⟨λh=>(by cases h),λh=>absurd (hiff.1 h) (by rw [snocF_eq];exact λh=>e2 (h.2.2.1))⟩)
     | (rw [eqP_iff];exact ⟨λh=>(by cases h),λh=>absurd (hiff.1 h) (by rw [snocF_eq];exact λh=>e3 (h.2.2.2.1))⟩)
     | (rw [eqP_iff];exact ⟨λh=>(by cases h),λh=>absurd (hiff.1 h) (by rw [snocF_eq];exact λh=>e4 (h.2.2.2.2.1))⟩)
     | (rw [eqP_iff];exact ⟨λh=>(by cases h),λh=>absurd (hiff.1 h) (by rw [snocF_eq];exact λh=>e5 (h.2.2.2.2.2.1))⟩)
     | (rw [eqP_iff];exact ⟨λh=>(by cases h),λh=>absurd (hiff.1 h) (by rw [snocF_eq];exact λh=>e6 (by rw [h.2.2.2.2.2.2.2]))⟩)
     | (rw [eqP_iff];exact ⟨λh=>(by cases h),λh=>absurd (hiff.1 h) (by rw [snocF_eq];exact λh=>e7 h.2.2.2.2.2.2.1)⟩)
   try simp only [df] at h53
   have e4:=Al_Int64_toInt_inj.1 (by omega:a0.toInt=a1.toInt);refine .gy (.fieldAddr Z Fx.field35_4)<|.gy (.load Z Fx.agg3 mem1 Z)<|.gy (.fieldAddr Z Fx.field35_4)<|.gy (.load Z Fx.agg3 Hm Z)<|.gy (.neq Z Z)<|.yw (.pickF Z Z)<|.mv Z<|.b2 (λh60=>?_) (λh60=>?_)
   ·try simp only [dt] at h60
    have e5:=(λe=>h60 (by rw [e]):¬ b0=b1);refine .gG<|.gG<|.gG<|.gG<|.gG<|.gG<|.gG<|.yw (.pickT Z Z)<|.mv Z<|.gG<|.gG<|.gG<|.gG<|.gG<|.gG<|.yw (.pickT Z Z)<|.nt<|.cT Z<|.sr<|.az Z<|.tR<|.bR<|.tR<|.tR<|.bR<|.tR<|?_
    refine y9 Z Z λW s=>⟨retB ?_,s.ext⟩
    first
     | (rw [eqP_iff];exact ⟨λ_=>hall,λ_=>rfl⟩)
     | (rw [eqP_iff];exact ⟨λh=>(by cases h),λh=>absurd (hiff.1 h) (by rw [snocF_eq];exact λh=>e1 (h.2.1))⟩)
     | (rw [eqP_iff];exact ⟨λh=>(by cases h),λh=>absurd (hiff.1 h) (by rw [snocF_eq];exact λh=>e2 (h.2.2.1))⟩)
     | (rw [eqP_iff];exact ⟨λh=>(by cases h),λh=>absurd (hiff.1 h) (by rw [snocF_eq];exact λh=>e3 (h.2.2.2.1))⟩)
     | (rw [eqP_iff];exact ⟨λh=>(by cases h),λh=>absurd (hiff.1 h) (by rw [snocF_eq];exact λh=>e4 (h.2.2.2.2.1))⟩)
     | (rw [eqP_iff];exact ⟨λh=>(by cases h),λh=>absurd (hiff.1 h) (by rw [snocF_eq];exact λh=>e5 (h.2.2.2.2.2.1))⟩)
     | (rw [eqP_iff];exact ⟨λh=>(by cases h),λh=>absurd (hiff.1 h) (by rw [snocF_eq];exact λh=>e6 (by rw [h.2.2.2.2.2.2.2]))⟩)
     | (rw [eqP_iff];exact ⟨λh=>(by cases h),λh=>absurd (hiff.1 h) (by rw [snocF_eq];exact λh=>e7 h.2.2.2.2.2.2.1)⟩)
   try simp only [df] at h60
   have e5:=Al_Int64_toInt_inj.1 (by omega:b0.toInt=b1.toInt);refine .gy (.fieldAddr Z Fx.field35_6)<|.gy (.load Z Fx.agg33 mem1 Z)<|.gy (.lenSl Fx.sl33 Z)<|.gy (.fieldAddr Z Fx.field35_6)<|.gy (.load Z Fx.agg33 Hm Z)<|.gy (.lenSl Fx.sl33 Z)<|.gy (.neq Z Z)<|.yw (.pickF Z Z)<|.mv Z<|.b2 (λh69=>?_) (λh69=>?_)
   ·try simp only [dt] at h69
    have e6:=(λe=>h69 (by rw [e]):¬ args0.length=args1.length);refine .gG<|.gG<|.gG<|.gG<|.gG<|.gG<|.yw (.pickT Z Z)<|.nt<|.cT Z<|.sr<|.az Z<|.tR<|.bR<|.tR<|.tR<|.bR<|.tR<|?_
    refine y9 Z Z λW s=>⟨retB ?_,s.ext⟩
    first
     | (rw [eqP_iff];exact ⟨λ_=>hall,λ_=>rfl⟩)
     | (rw [eqP_iff];exact ⟨λh=>(by cases h),λh=>absurd (hiff.1 h) (by rw [snocF_eq];exact λh=>e1 (h.2.1))⟩)
     | (rw [eqP_iff];exact ⟨λh=>(by cases h),λh=>absurd (hiff.1 h) (by rw [snocF_eq];exact λh=>e2 (h.2.2.1))⟩)
     | (rw [eqP_iff];exact ⟨λh=>(by cases h),λh=>absurd (hiff.1 h) (by rw [snocF_eq];exact λh=>e3 (h.2.2.2.1))⟩)
     | (rw [eqP_iff];exact ⟨λh=>(by cases h),λh=>absurd (hiff.1 h) (by rw [snocF_eq];exact λh=>e4 (h.2.2.2.2.1))⟩)
     | (rw [eqP_iff];exact ⟨λh=>(by cases h),λh=>absurd (hiff.1 h) (by rw [snocF_eq];exact λh=>e5 (h.2.2.2.2.2.1))⟩)
     | (rw [eqP_iff];exact ⟨λh=>(by cases h),λh=>absurd (hiff.1 h) (by rw [snocF_eq];exact λh=>e6 (by rw [h.2.2.2.2.2.2.2]))⟩)
     | (rw [eqP_iff];exact ⟨λh=>(by cases h),λh=>absurd (hiff.1 h) (by rw [snocF_eq];exact λh=>e7 h.2.2.2.2.2.2.1)⟩)
   try simp only [df] at h69
   have e6:=(by omega:args0.length=args1.length);refine .gy (.fieldAddr Z Fx.field35_5)<|.gy (.load Z Fx.agg32 mem1 Z)<|.gy (.fieldAddr Z Fx.field35_5)<|.gy (.load Z Fx.agg32 Hm Z)<|.gy (.call Fx.call51 Z (λW s=>eqFuncE H 52 Fx.call52 ex0 ex1 (λa _=>equalExpr_any H a) _ _ hs0 hs5 W s.agr))<|.gy (.not Z)<|.yw (.pickF Z Z)<|.nt<|.cd Z (λh76=>?_) (λh76=>?_)
   ·try simp only [dt] at h76
    have e7:=eqP_false.1 (by simpa using h76);refine .sr<|.az Z<|.tR<|.bR<|.tR<|.tR<|.bR<|.tR<|?_
    refine y9 Z Z λW s=>⟨retB ?_,s.ext⟩
    first
     | (rw [eqP_iff];exact ⟨λ_=>hall,λ_=>rfl⟩)
     | (rw [eqP_iff];exact ⟨λh=>(by cases h),λh=>absurd (hiff.1 h) (by rw [snocF_eq];exact λh=>e1 (h.2.1))⟩)
     | (rw [eqP_iff];exact ⟨λh=>(by cases h),λh=>absurd (hiff.1 h) (by rw [snocF_eq];exact λh=>e2 (h.2.2.1))⟩)
     | (rw [eqP_iff];exact ⟨λh=>(by cases h),λh=>absurd (hiff.1 h) (by rw [snocF_eq];exact λh=>e3 (h.2.2.2.1))⟩)
     | (rw [eqP_iff];exact ⟨λh=>(by cases h),λh=>absurd (hiff.1 h) (by rw [snocF_eq];exact λh=>e4 (h.2.2.2.2.1))⟩)
     | (rw [eqP_iff];exact ⟨λh=>(by cases h),λh=>absurd (hiff.1 h) (by rw [snocF_eq];exact λh=>e5 (h.2.2.2.2.2.1))⟩)
     | (rw [eqP_iff];exact ⟨λh=>(by cases h),λh=>absurd (hiff.1 h) (by rw [snocF_eq];exact λh=>e6 (by rw [h.2.2.2.2.2.2.2]))⟩)
     | (rw [eqP_iff];exact ⟨λh=>(by cases h),λh=>absurd (hiff.1 h) (by rw [snocF_eq];exact λh=>e7 h.2.2.2.2.2.2.1)⟩)
   try simp only [df] at h76
   have e7:=eqP_iff.1 (by simpa using h76);refine Sx.At.rcut (size:=7) (m:=fs0.length) (ys:=xf.take (fs0.length * 7)) upd2 (by rw [hl0];exact Nat.le_succ _) rfl ?_;refine Sx.At.rcut (size:=7) (m:=gs0.length) (ys:=xg.take (gs0.length * 7)) upd3 (by rw [hl1];exact Nat.le_succ _) rfl ?_;exact .sk<|.tN<|.fL 12 [(0,0),(1,0),(2,0),(3,0),(4,0),(6,0),(7,0),(8,0),(9,0),(10,0),(5,3),(11,3)]<|.mv Z<|.mv Z<|.yw (.cutHi Fx.sl33 Z Z (h:=fs0.length) (by rw [hl0];omega) (by rw [hl0] at hgc;omega) (λq e=>by cases e;rfl))<|.fA Z Fx.field35_6<|.lD Z Fx.agg33 mem1 Z<|.mv Z<|.mv Z<|.yw (.cutHi Fx.sl33 Z Z (h:=gs0.length) (by rw [hl0];omega) (by rw [hl1] at hgd;omega) (λq e=>by cases e;rfl))<|.fA Z Fx.field35_6<|.lD Z Fx.agg33 Hm Z<|.apD Fx.row33 Z (λ_ _=>upd2) Z hs3 (by simp only [maxLen];omega) (by omega) Z (λ_ _=>(.yv (.load Z Fx.agg33 Hm Z)<|.yv (.fieldAddr Z Fx.field35_6)<|.yv (.cutHi Fx.sl33 Z Z (h:=gs0.length) (by rw [hl0];omega) (by rw [hl1] at hgd;omega) (λq e=>by cases e;rfl))<|.yv (.move Z)<|.yv (.move Z)<|.d3<|.d2<|.nl)) λnews pN cN hzn=>.apD Fx.row33 Z (λ_ _=>upd3) Z hs6 (by simp only [maxLen];omega) (by omega) Z (λ_ _=>(.d4<|.d4<|.d2<|.nl)) λmews pM cM hzm=>.fn (tl:=[_,_]) Z<|.a Z Z<|.a Z Z<|.nl<|.bN<|.tN<|.rg<|.mv Z<|.yw (.lenSl Fx.sl33 Z)<|.yw (.sub Z Z (w6 (by omega)))<|.aq Z<|.ag (x:=(n,fs0++[Fm.mk op0 nm0 fd0 a0 b0 ex0 args0],gs0++[Fm.mk op1 nm1 fd1 a1 b1 ex1 args1],Value.slice (some ⟨wf,0,none⟩) (fs0++[Fm.mk op0 nm0 fd0 a0 b0 ex0 args0]).length cf,Value.slice (some ⟨wg,0,none⟩) (gs0++[Fm.mk op1 nm1 fd1 a1 b1 ex1 args1]).length cg,xf,xg)) (n+1,fs0++args0,gs0++args1,Value.slice pN (fs0.length+args0.length) cN,Value.slice pM (gs0.length+args1.length) cM,xf.take (fs0.length * 7)++news,xg.take (gs0.length * 7)++mews) ⟨Z,Z,by dsimp only;exact congrArg (λm:Nat=>some (Value.int .i64 ((m:Int) - 1))) (Al_List_length_append ).symm,Jt⟩ trivial (λ_ s=>by dsimp only;rw [Al_List_length_append,Al_List_length_append];exact (s.pick [2,3,4,5] _ Z Z)) ⟨by rw [Al_List_map_append];exact hz0.app hzn,by rw [Al_List_map_append];exact hz1.app hzm,by dsimp only;rw [Al_List_length_append,Al_List_length_append];omega,by dsimp only;rw [fm_counts_app];omega,λe he=>by rcases Al_List_mem_append.1 he with h | h;exact hbf e (Al_List_mem_append.2 (.inl h));exact hb0.2 e h,by dsimp only;rw [Al_List_length_append,hNs];omega,by dsimp only;exact hiff.trans (snocF_app e1 e2 e3 e4 e5 e6 e7 hle)⟩ (by dsimp only;rw [fm_counts_app,fm_counts_app,Fm.counts,Fm.counts,fm_count];omega)
  refine .al Fx.zero35 Z λb9=>.h1<|.al Fx.zero35 Z λb8=>.h1<|.sW .head Z Z Fx.size35 (by simp [Value.oneCell',strV]) Z ((.yv (.loadR (vs:=cFm .u8 op1 nm1 fd1 a1 b1 (.slice q5 ex1.length d5) (.slice q6 args1.length d6)) Z Fx.agg35 mem3 Z hx1)<|.yv (.indexSl Fx.sl33 Z Z (i:=gs0.length) (by rw [hl0];omega) (by rw [hl1];omega) (q:=gs0.length * 7) (by omega))<|.yv (.move Z)<|.yv (.move Z)<|.d4<|.nl))<|.fn (tl:=[_]) Z<|.sX upd1 Z Z Fx.size35 Z<|.nt<|.sq<|.sr<|.fA Z Fx.field35_0<|.lD Z Fx.agg31 Hm Z<|.fA Z Fx.field35_0<|.lD Z Fx.agg31 mem1 Z<|.yw (.neq Z Z)<|.mv Z<|.b2 (λh32=>?_) (λh32=>?_)
  ·try simp only [dt] at h32
   have e1:=(λe=>h32 (by rw [e]):¬ op0=op1);refine .gG<|.gG<|.gG<|.gG<|.gG<|.yw (.pickT Z Z)<|.mv Z<|.gG<|.gG<|.gG<|.gG<|.gG<|.yw (.pickT Z Z)<|.mv Z<|.gG<|.gG<|.gG<|.gG<|.gG<|.yw (.pickT Z Z)<|.mv Z<|.gG<|.gG<|.gG<|.gG<|.gG<|.yw (.pickT Z Z)<|.mv Z<|.gG<|.gG<|.gG<|.gG<|.gG<|.gG<|.gG<|.yw (.pickT Z Z)<|.mv Z<|.gG<|.gG<|.gG<|.gG<|.gG<|.gG<|.yw (.pickT Z Z)<|.nt<|.cT Z<|.sr<|.az Z<|.tR<|.bR<|.tR<|.tR<|.bR<|.tR<|?_
   refine y9 Z Z λW s=>⟨retB ?_,s.ext⟩
   first
    | (rw [eqP_iff];exact ⟨λ_=>hall,λ_=>rfl⟩)
    | (rw [eqP_iff];exact ⟨λh=>(by cases h),λh=>absurd (hiff.1 h) (by rw [snocF_eq];exact λh=>e1 (h.2.1))⟩)
    | (rw [eqP_iff];exact ⟨λh=>(by cases h),λh=>absurd (hiff.1 h) (by rw [snocF_eq];exact λh=>e2 (h.2.2.1))⟩)
    | (rw [eqP_iff];exact ⟨λh=>(by cases h),λh=>absurd (hiff.1 h) (by rw [snocF_eq];exact λh=>e3 (h.2.2.2.1))⟩)
    | (rw [eqP_iff];exact ⟨λh=>(by cases h),λh=>absurd (hiff.1 h) (by rw [snocF_eq];exact λh=>e4 (h.2.2.2.2.1))⟩)
    | (rw [eqP_iff];exact ⟨λh=>(by cases h),λh=>absurd (hiff.1 h) (by rw [snocF_eq];exact λh=>e5 (h.2.2.2.2.2.1))⟩)
    | (rw [eqP_iff];exact ⟨λh=>(by cases h),λh=>absurd (hiff.1 h) (by rw [snocF_eq];exact λh=>e6 (by rw [h.2.2.2.2.2.2.2]))⟩)
    | (rw [eqP_iff];exact ⟨λh=>(by cases h),λh=>absurd (hiff.1 h) (by rw [snocF_eq];exact λh=>e7 h.2.2.2.2.2.2.1)⟩)
  try simp only [df] at h32
  have e1:=Al_UInt8_toNat_inj.1 (by omega:op0.toNat=op1.toNat);refine .gy (.fieldAddr Z Fx.field35_1)<|.gy (.load Z Fx.agg9 Hm Z)<|.gy (.fieldAddr Z Fx.field35_1)<|.gy (.load Z Fx.agg9 mem1 Z)<|.gy (.neS Z Z)<|.yw (.pickF Z Z)<|.mv Z<|.b2 (λh39=>?_) (λh39=>?_)
  ·try simp only [dt] at h39
   have e2:=(id h39:¬ nm0=nm1);refine .gG<|.gG<|.gG<|.gG<|.gG<|.yw (.pickT Z Z)<|.mv Z<|.gG<|.gG<|.gG<|.gG<|.gG<|.yw (.pickT Z Z)<|.mv Z<|.gG<|.gG<|.gG<|.gG<|.gG<|.yw (.pickT Z Z)<|.mv Z<|.gG<|.gG<|.gG<|.gG<|.gG<|.gG<|.gG<|.yw (.pickT Z Z)<|.mv Z<|.gG<|.gG<|.gG<|.gG<|.gG<|.gG<|.yw (.pickT Z Z)<|.nt<|.cT Z<|.sr<|.az Z<|.tR<|.bR<|.tR<|.tR<|.bR<|.tR<|?_
   refine y9 Z Z λW s=>⟨retB ?_,s.ext⟩
   first
    | (rw [eqP_iff];exact ⟨λ_=>hall,λ_=>rfl⟩)
    | (rw [eqP_iff];exact ⟨λh=>(by cases h),λh=>absurd (hiff.1 h) (by rw [snocF_eq];exact λh=>e1 (h.2.1))⟩)
    | (rw [eqP_iff];exact ⟨λh=>(by cases h),λh=>absurd (hiff.1 h) (by rw [snocF_eq];exact λh=>e2 (h.2.2.1))⟩)
    | (rw [eqP_iff];exact ⟨λh=>(by cases h),λh=>absurd (hiff.1 h) (by rw [snocF_eq];exact λh=>e3 (h.2.2.2.1))⟩)
    | (rw [eqP_iff];exact ⟨λh=>(by cases h),λh=>absurd (hiff.1 h) (by rw [snocF_eq];exact λh=>e4 (h.2.2.2.2.1))⟩)
    | (rw [eqP_iff];exact ⟨λh=>(by cases h),λh=>absurd (hiff.1 h) (by rw [snocF_eq];exact λh=>e5 (h.2.2.2.2.2.1))⟩)
    | (rw [eqP_iff];exact ⟨λh=>(by cases h),λh=>absurd (hiff.1 h) (by rw [snocF_eq];exact λh=>e6 (by rw [h.2.2.2.2.2.2.2]))⟩)
    | (rw [eqP_iff];exact ⟨λh=>(by cases h),λh=>absurd (hiff.1 h) (by rw [snocF_eq];exact λh=>e7 h.2.2.2.2.2.2.1)⟩)
  try simp only [df] at h39
  have e2:=(Al_Classical_not_not.1 h39:nm0=nm1);refine .gy (.fieldAddr Z Fx.field35_2)<|.gy (.load Z Fx.agg9 Hm Z)<|.gy (.fieldAddr Z Fx.field35_2)<|.gy (.load Z Fx.agg9 mem1 Z)<|.gy (.neS Z Z)<|.yw (.pickF Z Z)<|.mv Z<|.b2 (λh46=>?_) (λh46=>?_)
  ·try simp only [dt] at h46
   have e3:=(id h46:¬ fd0=fd1);refine .gG<|.gG<|.gG<|.gG<|.gG<|.yw (.pickT Z Z)<|.mv Z<|.gG<|.gG<|.gG<|.gG<|.gG<|.yw (.pickT Z Z)<|.mv Z<|.gG<|.gG<|.gG<|.gG<|.gG<|.gG<|.gG<|.yw (.pickT Z Z)<|.mv Z<|.gG<|.gG<|.gG<|.gG<|.gG<|.gG<|.yw (.pickT Z Z)<|.nt<|.cT Z<|.sr<|.az Z<|.tR<|.bR<|.tR<|.tR<|.bR<|.tR<|?_
   refine y9 Z Z λW s=>⟨retB ?_,s.ext⟩
   first
    | (rw [eqP_iff];exact ⟨λ_=>hall,λ_=>rfl⟩)
    | (rw [eqP_iff];exact ⟨λh=>(by cases h),λh=>absurd (hiff.1 h) (by rw [snocF_eq];exact λh=>e1 (h.2.1))⟩)
    | (rw [eqP_iff];exact ⟨λh=>(by cases h),λh=>absurd (hiff.1 h) (by rw [snocF_eq];exact λh=>e2 (h.2.2.1))⟩)
    | (rw [eqP_iff];exact ⟨λh=>(by cases h),λh=>absurd (hiff.1 h) (by rw [snocF_eq];exact λh=>e3 (h.2.2.2.1))⟩)
    | (rw [eqP_iff];exact ⟨λh=>(by cases h),λh=>absurd (hiff.1 h) (by rw [snocF_eq];exact λh=>e4 (h.2.2.2.2.1))⟩)
    | (rw [eqP_iff];exact ⟨λh=>(by cases h),λh=>absurd (hiff.1 h) (by rw [snocF_eq];exact λh=>e5 (h.2.2.2.2.2.1))⟩)
    | (rw [eqP_iff];exact ⟨λh=>(by cases h),λh=>absurd (hiff.1 h) (by rw [snocF_eq];exact λh=>e6 (by rw [h.2.2.2.2.2.2.2]))⟩)
    | (rw [eqP_iff];exact ⟨λh=>(by cases h),λh=>absurd (hiff.1 h) (by rw [snocF_eq];exact λh=>e7 h.2.2.2.2.2.2.1)⟩)
  try simp only [df] at h46
  have e3:=(Al_Classical_not_not.1 h46:fd0=fd1);refine .gy (.fieldAddr Z Fx.field35_3)<|.gy (.load Z Fx.agg3 Hm Z)<|.gy (.fieldAddr Z Fx.field35_3)<|.gy (.load Z Fx.agg3 mem1 Z)<|.gy (.neq Z Z)<|.yw (.pickF Z Z)<|.mv Z<|.b2 (λh53=>?_) (λh53=>?_)
  ·try simp only [dt] at h53
   have e4:=(λe=>h53 (by rw [e]):¬ a0=a1);refine .gG<|.gG<|.gG<|.gG<|.gG<|.yw (.pickT Z Z)<|.mv Z<|.gG<|.gG<|.gG<|.gG<|.gG<|.gG<|.gG<|.yw (.pickT Z Z)<|.mv Z<|.gG<|.gG<|.gG<|.gG<|.gG<|.gG<|.yw (.pickT Z Z)<|.nt<|.cT Z<|.sr<|.az Z<|.tR<|.bR<|.tR<|.tR<|.bR<|.tR<|?_
   refine y9 Z Z λW s=>⟨retB ?_,s.ext⟩
   first
    | (rw [eqP_iff];exact ⟨λ_=>hall,λ_=>rfl⟩)
    | (rw [eqP_iff];exact ⟨λh=>(by cases h),λh=>absurd (hiff.1 h) (by rw [snocF_eq];exact λh=>e1 (h.2.1))⟩)
    | (rw [eqP_iff];exact ⟨λh=>(by cases h),λh=>absurd (hiff.1 h) (by rw [snocF_eq];exact λh=>e2 (h.2.2.1))⟩)
    | (rw [eqP_iff];exact ⟨λh=>(by cases h),λh=>absurd (hiff.1 h) (by rw [snocF_eq];exact λh=>e3 (h.2.2.2.1))⟩)
    | (rw [eqP_iff];exact ⟨λh=>(by cases h),λh=>absurd (hiff.1 h) (by rw [snocF_eq];exact λh=>e4 (h.2.2.2.2.1))⟩)
    | (rw [eqP_iff];exact ⟨λh=>(by cases h),λh=>absurd (hiff.1 h) (by rw [snocF_eq];exact λh=>e5 (h.2.2.2.2.2.1))⟩)
    | (rw [eqP_iff];exact ⟨λh=>(by cases h),λh=>absurd (hiff.1 h) (by rw [snocF_eq];exact λh=>e6 (by rw [h.2.2.2.2.2.2.2]))⟩)
    | (rw [eqP_iff];exact ⟨λh=>(by cases h),λh=>absurd (hiff.1 h) (by rw [snocF_eq];exact λh=>e7 h.2.2.2.2.2.2.1)⟩)
  try simp only [df] at h53
  have e4:=Al_Int64_toInt_inj.1 (by omega:a0.toInt=a1.toInt);refine .gy (.fieldAddr Z Fx.field35_4)<|.gy (.load Z Fx.agg3 Hm Z)<|.gy (.fieldAddr Z Fx.field35_4)<|.gy (.load Z Fx.agg3 mem1 Z)<|.gy (.neq Z Z)<|.yw (.pickF Z Z)<|.mv Z<|.b2 (λh60=>?_) (λh60=>?_)
  ·try simp only [dt] at h60
   have e5:=(λe=>h60 (by rw [e]):¬ b0=b1);refine .gG<|.gG<|.gG<|.gG<|.gG<|.gG<|.gG<|.yw (.pickT Z Z)<|.mv Z<|.gG<|.gG<|.gG<|.gG<|.gG<|.gG<|.yw (.pickT Z Z)<|.nt<|.cT Z<|.sr<|.az Z<|.tR<|.bR<|.tR<|.tR<|.bR<|.tR<|?_
   refine y9 Z Z λW s=>⟨retB ?_,s.ext⟩
   first
    | (rw [eqP_iff];exact ⟨λ_=>hall,λ_=>rfl⟩)
    | (rw [eqP_iff];exact ⟨λh=>(by cases h),λh=>absurd (hiff.1 h) (by rw [snocF_eq];exact λh=>e1 (h.2.1))⟩)
    | (rw [eqP_iff];exact ⟨λh=>(by cases h),λh=>absurd (hiff.1 h) (by rw [snocF_eq];exact λh=>e2 (h.2.2.1))⟩)
    | (rw [eqP_iff];exact ⟨λh=>(by cases h),λh=>absurd (hiff.1 h) (by rw [snocF_eq];exact λh=>e3 (h.2.2.2.1))⟩)
    | (rw [eqP_iff];exact ⟨λh=>(by cases h),λh=>absurd (hiff.1 h) (by rw [snocF_eq];exact λh=>e4 (h.2.2.2.2.1))⟩)
    | (rw [eqP_iff];exact ⟨λh=>(by cases h),λh=>absurd (hiff.1 h) (by rw [snocF_eq];exact λh=>e5 (h.2.2.2.2.2.1))⟩)
    | (rw [eqP_iff];exact ⟨λh=>(by cases h),λh=>absurd (hiff.1 h) (by rw [snocF_eq];exact λh=>e6 (by rw [h.2.2.2.2.2.2.2]))⟩)
    | (rw [eqP_iff];exact ⟨λh=>(by cases h),λh=>absurd (hiff.1 h) (by rw [snocF_eq];exact λh=>e7 h.2.2.2.2.2.2.1)⟩)
  try simp only [df] at h60
  have e5:=Al_Int64_toInt_inj.1 (by omega:b0.toInt=b1.toInt);refine .gy (.fieldAddr Z Fx.field35_6)<|.gy (.load Z Fx.agg33 Hm Z)<|.gy (.lenSl Fx.sl33 Z)<|.gy (.fieldAddr Z Fx.field35_6)<|.gy (.load Z Fx.agg33 mem1 Z)<|.gy (.lenSl Fx.sl33 Z)<|.gy (.neq Z Z)<|.yw (.pickF Z Z)<|.mv Z<|.b2 (λh69=>?_) (λh69=>?_)
  ·try simp only [dt] at h69
   have e6:=(λe=>h69 (by rw [e]):¬ args0.length=args1.length);refine .gG<|.gG<|.gG<|.gG<|.gG<|.gG<|.yw (.pickT Z Z)<|.nt<|.cT Z<|.sr<|.az Z<|.tR<|.bR<|.tR<|.tR<|.bR<|.tR<|?_
   refine y9 Z Z λW s=>⟨retB ?_,s.ext⟩
   first
    | (rw [eqP_iff];exact ⟨λ_=>hall,λ_=>rfl⟩)
    | (rw [eqP_iff];exact ⟨λh=>(by cases h),λh=>absurd (hiff.1 h) (by rw [snocF_eq];exact λh=>e1 (h.2.1))⟩)
    | (rw [eqP_iff];exact ⟨λh=>(by cases h),λh=>absurd (hiff.1 h) (by rw [snocF_eq];exact λh=>e2 (h.2.2.1))⟩)
    | (rw [eqP_iff];exact ⟨λh=>(by cases h),λh=>absurd (hiff.1 h) (by rw [snocF_eq];exact λh=>e3 (h.2.2.2.1))⟩)
    | (rw [eqP_iff];exact ⟨λh=>(by cases h),λh=>absurd (hiff.1 h) (by rw [snocF_eq];exact λh=>e4 (h.2.2.2.2.1))⟩)
    | (rw [eqP_iff];exact ⟨λh=>(by cases h),λh=>absurd (hiff.1 h) (by rw [snocF_eq];exact λh=>e5 (h.2.2.2.2.2.1))⟩)
    | (rw [eqP_iff];exact ⟨λh=>(by cases h),λh=>absurd (hiff.1 h) (by rw [snocF_eq];exact λh=>e6 (by rw [h.2.2.2.2.2.2.2]))⟩)
    | (rw [eqP_iff];exact ⟨λh=>(by cases h),λh=>absurd (hiff.1 h) (by rw [snocF_eq];exact λh=>e7 h.2.2.2.2.2.2.1)⟩)
  try simp only [df] at h69
  have e6:=(by omega:args0.length=args1.length);refine .gy (.fieldAddr Z Fx.field35_5)<|.gy (.load Z Fx.agg32 Hm Z)<|.gy (.fieldAddr Z Fx.field35_5)<|.gy (.load Z Fx.agg32 mem1 Z)<|.gy (.call Fx.call51 Z (λW s=>eqFuncE H 52 Fx.call52 ex0 ex1 (λa _=>equalExpr_any H a) _ _ hs0 hs5 W s.agr))<|.gy (.not Z)<|.yw (.pickF Z Z)<|.nt<|.cd Z (λh76=>?_) (λh76=>?_)
  ·try simp only [dt] at h76
   have e7:=eqP_false.1 (by simpa using h76);refine .sr<|.az Z<|.tR<|.bR<|.tR<|.tR<|.bR<|.tR<|?_
   refine y9 Z Z λW s=>⟨retB ?_,s.ext⟩
   first
    | (rw [eqP_iff];exact ⟨λ_=>hall,λ_=>rfl⟩)
    | (rw [eqP_iff];exact ⟨λh=>(by cases h),λh=>absurd (hiff.1 h) (by rw [snocF_eq];exact λh=>e1 (h.2.1))⟩)
    | (rw [eqP_iff];exact ⟨λh=>(by cases h),λh=>absurd (hiff.1 h) (by rw [snocF_eq];exact λh=>e2 (h.2.2.1))⟩)
    | (rw [eqP_iff];exact ⟨λh=>(by cases h),λh=>absurd (hiff.1 h) (by rw [snocF_eq];exact λh=>e3 (h.2.2.2.1))⟩)
    | (rw [eqP_iff];exact ⟨λh=>(by cases h),λh=>absurd (hiff.1 h) (by rw [snocF_eq];exact λh=>e4 (h.2.2.2.2.1))⟩)
    | (rw [eqP_iff];exact ⟨λh=>(by cases h),λh=>absurd (hiff.1 h) (by rw [snocF_eq];exact λh=>e5 (h.2.2.2.2.2.1))⟩)
    | (rw [eqP_iff];exact ⟨λh=>(by cases h),λh=>absurd (hiff.1 h) (by rw [snocF_eq];exact λh=>e6 (by rw [h.2.2.2.2.2.2.2]))⟩)
    | (rw [eqP_iff];exact ⟨λh=>(by cases h),λh=>absurd (hiff.1 h) (by rw [snocF_eq];exact λh=>e7 h.2.2.2.2.2.2.1)⟩)
  try simp only [df] at h76
  have e7:=eqP_iff.1 (by simpa using h76);refine Sx.At.rcut (size:=7) (m:=fs0.length) (ys:=xf.take (fs0.length * 7)) upd2 (by rw [hl0];exact Nat.le_succ _) rfl ?_;refine Sx.At.rcut (size:=7) (m:=gs0.length) (ys:=xg.take (gs0.length * 7)) upd3 (by rw [hl1];exact Nat.le_succ _) rfl ?_;exact .sk<|.tN<|.fL 12 [(0,0),(1,0),(2,0),(3,0),(4,0),(6,0),(7,0),(8,0),(9,0),(10,0),(5,3),(11,3)]<|.mv Z<|.mv Z<|.yw (.cutHi Fx.sl33 Z Z (h:=fs0.length) (by rw [hl0];omega) (by rw [hl0] at hgc;omega) (λq e=>by cases e;rfl))<|.fA Z Fx.field35_6<|.lD Z Fx.agg33 Hm Z<|.mv Z<|.mv Z<|.yw (.cutHi Fx.sl33 Z Z (h:=gs0.length) (by rw [hl0];omega) (by rw [hl1] at hgd;omega) (λq e=>by cases e;rfl))<|.fA Z Fx.field35_6<|.lD Z Fx.agg33 mem1 Z<|.apD Fx.row33 Z (λ_ _=>upd2) Z hs3 (by simp only [maxLen];omega) (by omega) Z (λ_ _=>(.yv (.load Z Fx.agg33 mem1 Z)<|.yv (.fieldAddr Z Fx.field35_6)<|.yv (.cutHi Fx.sl33 Z Z (h:=gs0.length) (by rw [hl0];omega) (by rw [hl1] at hgd;omega) (λq e=>by cases e;rfl))<|.yv (.move Z)<|.yv (.move Z)<|.d3<|.d2<|.nl)) λnews pN cN hzn=>.apD Fx.row33 Z (λ_ _=>upd3) Z hs6 (by simp only [maxLen];omega) (by omega) Z (λ_ _=>(.d4<|.d4<|.d2<|.nl)) λmews pM cM hzm=>.fn (tl:=[_,_]) Z<|.a Z Z<|.a Z Z<|.nl<|.bN<|.tN<|.rg<|.mv Z<|.yw (.lenSl Fx.sl33 Z)<|.yw (.sub Z Z (w6 (by omega)))<|.aq Z<|.ag (x:=(n,fs0++[Fm.mk op0 nm0 fd0 a0 b0 ex0 args0],gs0++[Fm.mk op1 nm1 fd1 a1 b1 ex1 args1],Value.slice (some ⟨wf,0,none⟩) (fs0++[Fm.mk op0 nm0 fd0 a0 b0 ex0 args0]).length cf,Value.slice (some ⟨wg,0,none⟩) (gs0++[Fm.mk op1 nm1 fd1 a1 b1 ex1 args1]).length cg,xf,xg)) (n+1,fs0++args0,gs0++args1,Value.slice pN (fs0.length+args0.length) cN,Value.slice pM (gs0.length+args1.length) cM,xf.take (fs0.length * 7)++news,xg.take (gs0.length * 7)++mews) ⟨Z,Z,by dsimp only;exact congrArg (λm:Nat=>some (Value.int .i64 ((m:Int) - 1))) (Al_List_length_append ).symm,Jt⟩ trivial (λ_ s=>by dsimp only;rw [Al_List_length_append,Al_List_length_append];exact (s.pick [2,3,4,5] _ Z Z)) ⟨by rw [Al_List_map_append];exact hz0.app hzn,by rw [Al_List_map_append];exact hz1.app hzm,by dsimp only;rw [Al_List_length_append,Al_List_length_append];omega,by dsimp only;rw [fm_counts_app];omega,λe he=>by rcases Al_List_mem_append.1 he with h | h;exact hbf e (Al_List_mem_append.2 (.inl h));exact hb0.2 e h,by dsimp only;rw [Al_List_length_append,hNs];omega,by dsimp only;exact hiff.trans (snocF_app e1 e2 e3 e4 e5 e6 e7 hle)⟩ (by dsimp only;rw [fm_counts_app,fm_counts_app,Fm.counts,Fm.counts,fm_count];omega)
 try simp only [df] at h15
 have hfs:fs=[]:=Al_List_eq_nil_of_length_eq_zero (by omega);have hgs:gs=[]:=Al_List_eq_nil_of_length_eq_zero (by omega);have hall:=hiff.2 (by rw [hfs,hgs]);refine .ex<|.eb<|.sr<|.az Z<|?_
 refine y9 Z Z λW s=>⟨retB ?_,s.ext⟩
 first
  | (rw [eqP_iff];exact ⟨λ_=>hall,λ_=>rfl⟩)
  | (rw [eqP_iff];exact ⟨λh=>(by cases h),λh=>absurd (hiff.1 h) (by rw [snocF_eq];exact λh=>e1 (h.2.1))⟩)
  | (rw [eqP_iff];exact ⟨λh=>(by cases h),λh=>absurd (hiff.1 h) (by rw [snocF_eq];exact λh=>e2 (h.2.2.1))⟩)
  | (rw [eqP_iff];exact ⟨λh=>(by cases h),λh=>absurd (hiff.1 h) (by rw [snocF_eq];exact λh=>e3 (h.2.2.2.1))⟩)
  | (rw [eqP_iff];exact ⟨λh=>(by cases h),λh=>absurd (hiff.1 h) (by rw [snocF_eq];exact λh=>e4 (h.2.2.2.2.1))⟩)
  | (rw [eqP_iff];exact ⟨λh=>(by cases h),λh=>absurd (hiff.1 h) (by rw [snocF_eq];exact λh=>e5 (h.2.2.2.2.2.1))⟩)
  | (rw [eqP_iff];exact ⟨λh=>(by cases h),λh=>absurd (hiff.1 h) (by rw [snocF_eq];exact λh=>e6 (by rw [h.2.2.2.2.2.2.2]))⟩)
  | (rw [eqP_iff];exact ⟨λh=>(by cases h),λh=>absurd (hiff.1 h) (by rw [snocF_eq];exact λh=>e7 h.2.2.2.2.2.2.1)⟩)
theorem Fx.call25:callN prg 25=true:=by kernel_rfl
theorem Fx.call53:callN prg 53=true:=by kernel_rfl
theorem getElem_congr {α:Type} {l m:List α} (h:l=m) (hk:k<l.length) (hm:k<m.length):l[k]=m[k]:=by subst h;rfl
theorem sameExpr_any (H:Hp) (a:Ex):∀ b,EqAt 53 (dEx .i64) H a b:=by
 induction a using Ex.ind with | _ op nm n args ih
 intro b ca cb w ha hb hA;obtain ⟨op2,nm2,n2,args2⟩:=b;obtain ⟨p,c,rfl,hs,hnm⟩:=ex_open ha;obtain ⟨p2,c2,rfl,hs2,hnm2⟩:=ex_open hb;have hcap:=hs.cap;have hcap2:=hs2.cap;refine Sx.enter (H:=H) func53 rfl ntmps53 rfl hA ?_;refine .sr<|.bx Z Z Z λb2=>.bx Z Z Z λb3=>.aq Z<|.sq<|.sr<|.fA Z Fx.field83_0<|.lD Z Fx.agg3 mem1 Z<|.fA Z Fx.field83_0<|.lD Z Fx.agg3 Hm Z<|.yw (.neq Z Z)<|.mv Z<|.e2 (λh11=>?_) (λh11=>?_)
 ·have e1:=(λe=>h11 (by rw [e]):¬ op=op2);refine .gG<|.gG<|.gG<|.gG<|.gG<|.yw (.pickT Z Z)<|.mv Z<|.gG<|.gG<|.gG<|.gG<|.gG<|.yw (.pickT Z Z)<|.mv Z<|.gG<|.gG<|.gG<|.gG<|.gG<|.gG<|.gG<|.yw (.pickT Z Z)<|.nt<|.cT Z<|.sr<|.az Z<|.tR<|?_
  refine y9 Z Z λW s=>⟨retB ?_,s.ext⟩
  first
   | (rw [eqP_iff,Ex.mk.injEq];exact ⟨λ_=>⟨e1,e2,e3,heq⟩,λ_=>rfl⟩)
   | (rw [eqP_iff,Ex.mk.injEq];exact ⟨λh=>(by cases h),λh=>absurd h.1 e1⟩)
   | (rw [eqP_iff,Ex.mk.injEq];exact ⟨λh=>(by cases h),λh=>absurd h.2.1 e2⟩)
   | (rw [eqP_iff,Ex.mk.injEq];exact ⟨λh=>(by cases h),λh=>absurd h.2.2.1 e3⟩)
   | (rw [eqP_iff,Ex.mk.injEq];exact ⟨λh=>(by cases h),λh=>absurd (congrArg List.length h.2.2.2) e4⟩)
   | (rw [eqP_iff,Ex.mk.injEq];exact ⟨λh=>(by cases h),λh=>absurd (getElem_congr h.2.2.2 hk hkm) heq⟩)
 have e1:=Al_UInt8_toNat_inj.1 (by omega:op.toNat=op2.toNat);refine .gy (.fieldAddr Z Fx.field83_1)<|.gy (.load Z Fx.agg9 mem1 Z)<|.gy (.fieldAddr Z Fx.field83_1)<|.gy (.load Z Fx.agg9 Hm Z)<|.gy (.neS Z Z)<|.yw (.pickF Z Z)<|.mv Z<|.e2 (λh18=>?_) (λh18=>?_)
 ·have e2:=(id h18:¬ nm=nm2);refine .gG<|.gG<|.gG<|.gG<|.gG<|.yw (.pickT Z Z)<|.mv Z<|.gG<|.gG<|.gG<|.gG<|.gG<|.gG<|.gG<|.yw (.pickT Z Z)<|.nt<|.cT Z<|.sr<|.az Z<|.tR<|?_
  refine y9 Z Z λW s=>⟨retB ?_,s.ext⟩
  first
   | (rw [eqP_iff,Ex.mk.injEq];exact ⟨λ_=>⟨e1,e2,e3,heq⟩,λ_=>rfl⟩)
   | (rw [eqP_iff,Ex.mk.injEq];exact ⟨λh=>(by cases h),λh=>absurd h.1 e1⟩)
   | (rw [eqP_iff,Ex.mk.injEq];exact ⟨λh=>(by cases h),λh=>absurd h.2.1 e2⟩)
   | (rw [eqP_iff,Ex.mk.injEq];exact ⟨λh=>(by cases h),λh=>absurd h.2.2.1 e3⟩)
   | (rw [eqP_iff,Ex.mk.injEq];exact ⟨λh=>(by cases h),λh=>absurd (congrArg List.length h.2.2.2) e4⟩)
   | (rw [eqP_iff,Ex.mk.injEq];exact ⟨λh=>(by cases h),λh=>absurd (getElem_congr h.2.2.2 hk hkm) heq⟩)
 have e2:=(Al_Classical_not_not.1 h18:nm=nm2);refine .gy (.fieldAddr Z Fx.field83_2)<|.gy (.load Z Fx.agg2 mem1 Z)<|.gy (.fieldAddr Z Fx.field83_2)<|.gy (.load Z Fx.agg2 Hm Z)<|.gy (.neq Z Z)<|.yw (.pickF Z Z)<|.mv Z<|.e2 (λh25=>?_) (λh25=>?_)
 ·have e3:=(λe=>h25 (by rw [e]):¬ n=n2);refine .gG<|.gG<|.gG<|.gG<|.gG<|.gG<|.gG<|.yw (.pickT Z Z)<|.nt<|.cT Z<|.sr<|.az Z<|.tR<|?_
  refine y9 Z Z λW s=>⟨retB ?_,s.ext⟩
  first
   | (rw [eqP_iff,Ex.mk.injEq];exact ⟨λ_=>⟨e1,e2,e3,heq⟩,λ_=>rfl⟩)
   | (rw [eqP_iff,Ex.mk.injEq];exact ⟨λh=>(by cases h),λh=>absurd h.1 e1⟩)
   | (rw [eqP_iff,Ex.mk.injEq];exact ⟨λh=>(by cases h),λh=>absurd h.2.1 e2⟩)
   | (rw [eqP_iff,Ex.mk.injEq];exact ⟨λh=>(by cases h),λh=>absurd h.2.2.1 e3⟩)
   | (rw [eqP_iff,Ex.mk.injEq];exact ⟨λh=>(by cases h),λh=>absurd (congrArg List.length h.2.2.2) e4⟩)
   | (rw [eqP_iff,Ex.mk.injEq];exact ⟨λh=>(by cases h),λh=>absurd (getElem_congr h.2.2.2 hk hkm) heq⟩)
 have e3:=Al_Int64_toInt_inj.1 (by omega:n.toInt=n2.toInt);refine .gy (.fieldAddr Z Fx.field83_3)<|.gy (.load Z Fx.agg24 mem1 Z)<|.gy (.lenSl Fx.sl24 Z)<|.gy (.fieldAddr Z Fx.field83_3)<|.gy (.load Z Fx.agg24 Hm Z)<|.gy (.lenSl Fx.sl24 Z)<|.gy (.neq Z Z)<|.yw (.pickF Z Z)<|.nt<|.ce Z (λh33=>?_) (λh33=>?_)
 ·have e4:=(λe=>h33 (by rw [e]):¬ args.length=args2.length);refine .sr<|.az Z<|.tR<|?_
  refine y9 Z Z λW s=>⟨retB ?_,s.ext⟩
  first
   | (rw [eqP_iff,Ex.mk.injEq];exact ⟨λ_=>⟨e1,e2,e3,heq⟩,λ_=>rfl⟩)
   | (rw [eqP_iff,Ex.mk.injEq];exact ⟨λh=>(by cases h),λh=>absurd h.1 e1⟩)
   | (rw [eqP_iff,Ex.mk.injEq];exact ⟨λh=>(by cases h),λh=>absurd h.2.1 e2⟩)
   | (rw [eqP_iff,Ex.mk.injEq];exact ⟨λh=>(by cases h),λh=>absurd h.2.2.1 e3⟩)
   | (rw [eqP_iff,Ex.mk.injEq];exact ⟨λh=>(by cases h),λh=>absurd (congrArg List.length h.2.2.2) e4⟩)
   | (rw [eqP_iff,Ex.mk.injEq];exact ⟨λh=>(by cases h),λh=>absurd (getElem_congr h.2.2.2 hk hkm) heq⟩)
 have e4:=(by omega:args.length=args2.length);refine .sk<|.tN<|.sq<|.sr<|.fA Z Fx.field83_3<|.lD Z Fx.agg24 mem1 Z<|.yw (.lenSl Fx.sl24 Z)<|.mv Z<|.nt<|.bk<|.lp (X:=Nat) [(2,_),(3,_),(36,_)] ⟨Z,Z,Z,Jt⟩ [_,_] (λk=>[(37,iN k)]) (λk=>H) (λk=>[]) (λk=>k<=args.length/\args.take k=args2.take k) (λk=>args.length - k) 0 (λ_ s=>s) ⟨Z,Jt⟩ ⟨by omega,Z⟩ λk hC=>?_
 obtain ⟨hk0,hal⟩:=hC;refine .sr<|.yw (.lss Z Z)<|.nt<|.sq<|.ce Z (λh38=>?_) (λh38=>?_)
 ·have hk:k<args.length:=by omega
  have hkm:k<args2.length:=by omega
  obtain ⟨bE,oE,cE,hpE,rE,lE,mE⟩:=hs.elem (map_at (f:=dEx .i64) hk);cases hpE;obtain ⟨bF,oF,cF,hpF,rF,lF,mF⟩:=hs2.elem (map_at (f:=dEx .i64) hkm);cases hpF;refine .sk<|.tN<|.sq<|.bk<|.sm Z<|.aq Z<|.sq<|.fL 11 [(0,0),(1,0),(2,0),(3,0),(4,0),(5,0),(6,0),(7,0),(8,0),(9,0),(10,0)]<|.fA Z Fx.field83_3<|.lD Z Fx.agg24 mem1 Z<|.mv Z<|.yw (.indexSl Fx.sl24 Z Z Z (by omega) (q:=oE+k * 4) Z)<|.yw (.loadMW Z Fx.agg83 mE lE)<|.fA Z Fx.field83_3<|.lD Z Fx.agg24 Hm Z<|.mv Z<|.yw (.indexSl Fx.sl24 Z Z Z (by omega) (q:=oF+k * 4) Z)<|.yw (.loadMW Z Fx.agg83 mF lF)<|.yw (.call Fx.call53 Z (λW s=>ih _ (Al_List_getElem_mem hk) _ cE cF W rE rF s.agr))<|.fn (tl:=[_]) Z<|.yw (.not Z)<|.nt<|.cd Z (λh51=>?_) (λh51=>?_)
  ·try simp only [dt] at h51
   have heq:=eqP_false.1 (by simpa using h51);refine .sr<|.az Z<|.bR<|.tR<|.tR<|.bR<|.tR<|?_
   refine y9 Z Z λW s=>⟨retB ?_,s.ext⟩
   first
    | (rw [eqP_iff,Ex.mk.injEq];exact ⟨λ_=>⟨e1,e2,e3,heq⟩,λ_=>rfl⟩)
    | (rw [eqP_iff,Ex.mk.injEq];exact ⟨λh=>(by cases h),λh=>absurd h.1 e1⟩)
    | (rw [eqP_iff,Ex.mk.injEq];exact ⟨λh=>(by cases h),λh=>absurd h.2.1 e2⟩)
    | (rw [eqP_iff,Ex.mk.injEq];exact ⟨λh=>(by cases h),λh=>absurd h.2.2.1 e3⟩)
    | (rw [eqP_iff,Ex.mk.injEq];exact ⟨λh=>(by cases h),λh=>absurd (congrArg List.length h.2.2.2) e4⟩)
    | (rw [eqP_iff,Ex.mk.injEq];exact ⟨λh=>(by cases h),λh=>absurd (getElem_congr h.2.2.2 hk hkm) heq⟩)
  try simp only [df] at h51
  have heq:=eqP_iff.1 (by simpa using h51);exact .sk<|.bN<|.tN<|.rg<|.yw (.add Z Z w7)<|.mv Z<|.nt<|.ag (k+1) ⟨Z,Jt⟩ ⟨Z,Z,Z,Jt⟩ (λ_ s=>s) ⟨by omega,take_eq_succ hk hkm hal heq⟩ (by omega)
 have heq:args=args2:=by
  have e8:k=args.length:=by omega
  have e9:k=args2.length:=by omega
  have h1:=hal;rw [e8,Al_List_take_length,e4,Al_List_take_length] at h1;exact h1
 refine .ex<|.eb<|.sr<|.az Z<|?_
 refine y9 Z Z λW s=>⟨retB ?_,s.ext⟩
 first
  | (rw [eqP_iff,Ex.mk.injEq];exact ⟨λ_=>⟨e1,e2,e3,heq⟩,λ_=>rfl⟩)
  | (rw [eqP_iff,Ex.mk.injEq];exact ⟨λh=>(by cases h),λh=>absurd h.1 e1⟩)
  | (rw [eqP_iff,Ex.mk.injEq];exact ⟨λh=>(by cases h),λh=>absurd h.2.1 e2⟩)
  | (rw [eqP_iff,Ex.mk.injEq];exact ⟨λh=>(by cases h),λh=>absurd h.2.2.1 e3⟩)
  | (rw [eqP_iff,Ex.mk.injEq];exact ⟨λh=>(by cases h),λh=>absurd (congrArg List.length h.2.2.2) e4⟩)
  | (rw [eqP_iff,Ex.mk.injEq];exact ⟨λh=>(by cases h),λh=>absurd (getElem_congr h.2.2.2 hk hkm) heq⟩)
theorem fsame_any (H:Hp) (f:Fm):∀ g,EqAt 25 (dFm .i64) H f g:=by
 induction f using Fm.ind with | _ op nm fd a b ex args ih
 intro g ca cb w ha hb hA;obtain ⟨opb,nmb,fdb,ab,bb,exb,argsb⟩:=g;obtain ⟨p1,c1,p2,c2,rfl,hs1,hs2,_,_⟩:=fm_open ha;obtain ⟨p3,c3,p4,c4,rfl,ht1,ht2,_,_⟩:=fm_open hb;have hcap1:=hs1.cap;have hcap2:=hs2.cap;have hcap3:=ht1.cap;have hcap4:=ht2.cap;refine Sx.enter (H:=H) func25 rfl ntmps25 rfl hA ?_;refine .sr<|.bx Z Z Z λb2=>.bx Z Z Z λb3=>.aq Z<|.sq<|.sr<|.fA Z Fx.field27_0<|.lD Z Fx.agg3 mem1 Z<|.fA Z Fx.field27_0<|.lD Z Fx.agg3 Hm Z<|.yw (.neq Z Z)<|.mv Z<|.e2 (λh12=>?_) (λh12=>?_)
 ·have e1:=(λe=>h12 (by rw [e]):¬ op=opb);refine .gG<|.gG<|.gG<|.gG<|.gG<|.yw (.pickT Z Z)<|.mv Z<|.gG<|.gG<|.gG<|.gG<|.gG<|.yw (.pickT Z Z)<|.mv Z<|.gG<|.gG<|.gG<|.gG<|.gG<|.yw (.pickT Z Z)<|.mv Z<|.gG<|.gG<|.gG<|.gG<|.gG<|.yw (.pickT Z Z)<|.mv Z<|.gG<|.gG<|.gG<|.gG<|.gG<|.gG<|.gG<|.yw (.pickT Z Z)<|.mv Z<|.gG<|.gG<|.gG<|.gG<|.gG<|.gG<|.gG<|.yw (.pickT Z Z)<|.nt<|.cT Z<|.sr<|.az Z<|.tR<|?_
  refine y9 Z Z λW s=>⟨retB ?_,s.ext⟩
  first
   | (rw [eqP_iff,Fm.mk.injEq];exact ⟨λ_=>⟨e1,e2,e3,e4,e5,hexs,hall⟩,λ_=>rfl⟩)
   | (rw [eqP_iff,Fm.mk.injEq];exact ⟨λh=>(by cases h),λh=>absurd h.1 e1⟩)
   | (rw [eqP_iff,Fm.mk.injEq];exact ⟨λh=>(by cases h),λh=>absurd h.2.1 e2⟩)
   | (rw [eqP_iff,Fm.mk.injEq];exact ⟨λh=>(by cases h),λh=>absurd h.2.2.1 e3⟩)
   | (rw [eqP_iff,Fm.mk.injEq];exact ⟨λh=>(by cases h),λh=>absurd h.2.2.2.1 e4⟩)
   | (rw [eqP_iff,Fm.mk.injEq];exact ⟨λh=>(by cases h),λh=>absurd h.2.2.2.2.1 e5⟩)
   | (rw [eqP_iff,Fm.mk.injEq];exact ⟨λh=>(by cases h),λh=>absurd (congrArg List.length h.2.2.2.2.2.1) e6⟩)
   | (rw [eqP_iff,Fm.mk.injEq];exact ⟨λh=>(by cases h),λh=>absurd (congrArg List.length h.2.2.2.2.2.2) e7⟩)
   | (rw [eqP_iff,Fm.mk.injEq];exact ⟨λh=>(by cases h),λh=>absurd (getElem_congr h.2.2.2.2.2.1 hk hkm) heq⟩)
   | (rw [eqP_iff,Fm.mk.injEq];exact ⟨λh=>(by cases h),λh=>absurd (getElem_congr h.2.2.2.2.2.2 hk hkm) heq⟩)
 have e1:=Al_UInt8_toNat_inj.1 (by omega:op.toNat=opb.toNat);refine .gy (.fieldAddr Z Fx.field27_1)<|.gy (.load Z Fx.agg9 mem1 Z)<|.gy (.fieldAddr Z Fx.field27_1)<|.gy (.load Z Fx.agg9 Hm Z)<|.gy (.neS Z Z)<|.yw (.pickF Z Z)<|.mv Z<|.e2 (λh19=>?_) (λh19=>?_)
 ·have e2:=(id h19:¬ nm=nmb);refine .gG<|.gG<|.gG<|.gG<|.gG<|.yw (.pickT Z Z)<|.mv Z<|.gG<|.gG<|.gG<|.gG<|.gG<|.yw (.pickT Z Z)<|.mv Z<|.gG<|.gG<|.gG<|.gG<|.gG<|.yw (.pickT Z Z)<|.mv Z<|.gG<|.gG<|.gG<|.gG<|.gG<|.gG<|.gG<|.yw (.pickT Z Z)<|.mv Z<|.gG<|.gG<|.gG<|.gG<|.gG<|.gG<|.gG<|.yw (.pickT Z Z)<|.nt<|.cT Z<|.sr<|.az Z<|.tR<|?_
  refine y9 Z Z λW s=>⟨retB ?_,s.ext⟩
  first
   | (rw [eqP_iff,Fm.mk.injEq];exact ⟨λ_=>⟨e1,e2,e3,e4,e5,hexs,hall⟩,λ_=>rfl⟩)
   | (rw [eqP_iff,Fm.mk.injEq];exact ⟨λh=>(by cases h),λh=>absurd h.1 e1⟩)
   | (rw [eqP_iff,Fm.mk.injEq];exact ⟨λh=>(by cases h),λh=>absurd h.2.1 e2⟩)
   | (rw [eqP_iff,Fm.mk.injEq];exact ⟨λh=>(by cases h),λh=>absurd h.2.2.1 e3⟩)
   | (rw [eqP_iff,Fm.mk.injEq];exact ⟨λh=>(by cases h),λh=>absurd h.2.2.2.1 e4⟩)
   | (rw [eqP_iff,Fm.mk.injEq];exact ⟨λh=>(by cases h),λh=>absurd h.2.2.2.2.1 e5⟩)
   | (rw [eqP_iff,Fm.mk.injEq];exact ⟨λh=>(by cases h),λh=>absurd (congrArg List.length h.2.2.2.2.2.1) e6⟩)
   | (rw [eqP_iff,Fm.mk.injEq];exact ⟨λh=>(by cases h),λh=>absurd (congrArg List.length h.2.2.2.2.2.2) e7⟩)
   | (rw [eqP_iff,Fm.mk.injEq];exact ⟨λh=>(by cases h),λh=>absurd (getElem_congr h.2.2.2.2.2.1 hk hkm) heq⟩)
   | (rw [eqP_iff,Fm.mk.injEq];exact ⟨λh=>(by cases h),λh=>absurd (getElem_congr h.2.2.2.2.2.2 hk hkm) heq⟩)
 have e2:=(Al_Classical_not_not.1 h19:nm=nmb);refine .gy (.fieldAddr Z Fx.field27_2)<|.gy (.load Z Fx.agg9 mem1 Z)<|.gy (.fieldAddr Z Fx.field27_2)<|.gy (.load Z Fx.agg9 Hm Z)<|.gy (.neS Z Z)<|.yw (.pickF Z Z)<|.mv Z<|.e2 (λh26=>?_) (λh26=>?_)
 ·have e3:=(id h26:¬ fd=fdb);refine .gG<|.gG<|.gG<|.gG<|.gG<|.yw (.pickT Z Z)<|.mv Z<|.gG<|.gG<|.gG<|.gG<|.gG<|.yw (.pickT Z Z)<|.mv Z<|.gG<|.gG<|.gG<|.gG<|.gG<|.gG<|.gG<|.yw (.pickT Z Z)<|.mv Z<|.gG<|.gG<|.gG<|.gG<|.gG<|.gG<|.gG<|.yw (.pickT Z Z)<|.nt<|.cT Z<|.sr<|.az Z<|.tR<|?_
  refine y9 Z Z λW s=>⟨retB ?_,s.ext⟩
  first
   | (rw [eqP_iff,Fm.mk.injEq];exact ⟨λ_=>⟨e1,e2,e3,e4,e5,hexs,hall⟩,λ_=>rfl⟩)
   | (rw [eqP_iff,Fm.mk.injEq];exact ⟨λh=>(by cases h),λh=>absurd h.1 e1⟩)
   | (rw [eqP_iff,Fm.mk.injEq];exact ⟨λh=>(by cases h),λh=>absurd h.2.1 e2⟩)
   | (rw [eqP_iff,Fm.mk.injEq];exact ⟨λh=>(by cases h),λh=>absurd h.2.2.1 e3⟩)
   | (rw [eqP_iff,Fm.mk.injEq];exact ⟨λh=>(by cases h),λh=>absurd h.2.2.2.1 e4⟩)
   | (rw [eqP_iff,Fm.mk.injEq];exact ⟨λh=>(by cases h),λh=>absurd h.2.2.2.2.1 e5⟩)
   | (rw [eqP_iff,Fm.mk.injEq];exact ⟨λh=>(by cases h),λh=>absurd (congrArg List.length h.2.2.2.2.2.1) e6⟩)
   | (rw [eqP_iff,Fm.mk.injEq];exact ⟨λh=>(by cases h),λh=>absurd (congrArg List.length h.2.2.2.2.2.2) e7⟩)
   | (rw [eqP_iff,Fm.mk.injEq];exact ⟨λh=>(by cases h),λh=>absurd (getElem_congr h.2.2.2.2.2.1 hk hkm) heq⟩)
   | (rw [eqP_iff,Fm.mk.injEq];exact ⟨λh=>(by cases h),λh=>absurd (getElem_congr h.2.2.2.2.2.2 hk hkm) heq⟩)
 have e3:=(Al_Classical_not_not.1 h26:fd=fdb);refine .gy (.fieldAddr Z Fx.field27_3)<|.gy (.load Z Fx.agg3 mem1 Z)<|.gy (.fieldAddr Z Fx.field27_3)<|.gy (.load Z Fx.agg3 Hm Z)<|.gy (.neq Z Z)<|.yw (.pickF Z Z)<|.mv Z<|.e2 (λh33=>?_) (λh33=>?_)
 ·have e4:=(λe=>h33 (by rw [e]):¬ a=ab);refine .gG<|.gG<|.gG<|.gG<|.gG<|.yw (.pickT Z Z)<|.mv Z<|.gG<|.gG<|.gG<|.gG<|.gG<|.gG<|.gG<|.yw (.pickT Z Z)<|.mv Z<|.gG<|.gG<|.gG<|.gG<|.gG<|.gG<|.gG<|.yw (.pickT Z Z)<|.nt<|.cT Z<|.sr<|.az Z<|.tR<|?_
  refine y9 Z Z λW s=>⟨retB ?_,s.ext⟩
  first
   | (rw [eqP_iff,Fm.mk.injEq];exact ⟨λ_=>⟨e1,e2,e3,e4,e5,hexs,hall⟩,λ_=>rfl⟩)
   | (rw [eqP_iff,Fm.mk.injEq];exact ⟨λh=>(by cases h),λh=>absurd h.1 e1⟩)
   | (rw [eqP_iff,Fm.mk.injEq];exact ⟨λh=>(by cases h),λh=>absurd h.2.1 e2⟩)
   | (rw [eqP_iff,Fm.mk.injEq];exact ⟨λh=>(by cases h),λh=>absurd h.2.2.1 e3⟩)
   | (rw [eqP_iff,Fm.mk.injEq];exact ⟨λh=>(by cases h),λh=>absurd h.2.2.2.1 e4⟩)
   | (rw [eqP_iff,Fm.mk.injEq];exact ⟨λh=>(by cases h),λh=>absurd h.2.2.2.2.1 e5⟩)
   | (rw [eqP_iff,Fm.mk.injEq];exact ⟨λh=>(by cases h),λh=>absurd (congrArg List.length h.2.2.2.2.2.1) e6⟩)
   | (rw [eqP_iff,Fm.mk.injEq];exact ⟨λh=>(by cases h),λh=>absurd (congrArg List.length h.2.2.2.2.2.2) e7⟩)
   | (rw [eqP_iff,Fm.mk.injEq];exact ⟨λh=>(by cases h),λh=>absurd (getElem_congr h.2.2.2.2.2.1 hk hkm) heq⟩)
   | (rw [eqP_iff,Fm.mk.injEq];exact ⟨λh=>(by cases h),λh=>absurd (getElem_congr h.2.2.2.2.2.2 hk hkm) heq⟩)
 have e4:=Al_Int64_toInt_inj.1 (by omega:a.toInt=ab.toInt);refine .gy (.fieldAddr Z Fx.field27_4)<|.gy (.load Z Fx.agg3 mem1 Z)<|.gy (.fieldAddr Z Fx.field27_4)<|.gy (.load Z Fx.agg3 Hm Z)<|.gy (.neq Z Z)<|.yw (.pickF Z Z)<|.mv Z<|.e2 (λh40=>?_) (λh40=>?_)
 ·have e5:=(λe=>h40 (by rw [e]):¬ b=bb);refine .gG<|.gG<|.gG<|.gG<|.gG<|.gG<|.gG<|.yw (.pickT Z Z)<|.mv Z<|.gG<|.gG<|.gG<|.gG<|.gG<|.gG<|.gG<|.yw (.pickT Z Z)<|.nt<|.cT Z<|.sr<|.az Z<|.tR<|?_
  refine y9 Z Z λW s=>⟨retB ?_,s.ext⟩
  first
   | (rw [eqP_iff,Fm.mk.injEq];exact ⟨λ_=>⟨e1,e2,e3,e4,e5,hexs,hall⟩,λ_=>rfl⟩)
   | (rw [eqP_iff,Fm.mk.injEq];exact ⟨λh=>(by cases h),λh=>absurd h.1 e1⟩)
   | (rw [eqP_iff,Fm.mk.injEq];exact ⟨λh=>(by cases h),λh=>absurd h.2.1 e2⟩)
   | (rw [eqP_iff,Fm.mk.injEq];exact ⟨λh=>(by cases h),λh=>absurd h.2.2.1 e3⟩)
   | (rw [eqP_iff,Fm.mk.injEq];exact ⟨λh=>(by cases h),λh=>absurd h.2.2.2.1 e4⟩)
   | (rw [eqP_iff,Fm.mk.injEq];exact ⟨λh=>(by cases h),λh=>absurd h.2.2.2.2.1 e5⟩)
   | (rw [eqP_iff,Fm.mk.injEq];exact ⟨λh=>(by cases h),λh=>absurd (congrArg List.length h.2.2.2.2.2.1) e6⟩)
   | (rw [eqP_iff,Fm.mk.injEq];exact ⟨λh=>(by cases h),λh=>absurd (congrArg List.length h.2.2.2.2.2.2) e7⟩)
   | (rw [eqP_iff,Fm.mk.injEq];exact ⟨λh=>(by cases h),λh=>absurd (getElem_congr h.2.2.2.2.2.1 hk hkm) heq⟩)
   | (rw [eqP_iff,Fm.mk.injEq];exact ⟨λh=>(by cases h),λh=>absurd (getElem_congr h.2.2.2.2.2.2 hk hkm) heq⟩)
 have e5:=Al_Int64_toInt_inj.1 (by omega:b.toInt=bb.toInt);refine .gy (.fieldAddr Z Fx.field27_5)<|.gy (.load Z Fx.agg24 mem1 Z)<|.gy (.lenSl Fx.sl24 Z)<|.gy (.fieldAddr Z Fx.field27_5)<|.gy (.load Z Fx.agg24 Hm Z)<|.gy (.lenSl Fx.sl24 Z)<|.gy (.neq Z Z)<|.yw (.pickF Z Z)<|.mv Z<|.e2 (λh49=>?_) (λh49=>?_)
 ·have e6:=(λe=>h49 (by rw [e]):¬ ex.length=exb.length);refine .gG<|.gG<|.gG<|.gG<|.gG<|.gG<|.gG<|.yw (.pickT Z Z)<|.nt<|.cT Z<|.sr<|.az Z<|.tR<|?_
  refine y9 Z Z λW s=>⟨retB ?_,s.ext⟩
  first
   | (rw [eqP_iff,Fm.mk.injEq];exact ⟨λ_=>⟨e1,e2,e3,e4,e5,hexs,hall⟩,λ_=>rfl⟩)
   | (rw [eqP_iff,Fm.mk.injEq];exact ⟨λh=>(by cases h),λh=>absurd h.1 e1⟩)
   | (rw [eqP_iff,Fm.mk.injEq];exact ⟨λh=>(by cases h),λh=>absurd h.2.1 e2⟩)
   | (rw [eqP_iff,Fm.mk.injEq];exact ⟨λh=>(by cases h),λh=>absurd h.2.2.1 e3⟩)
   | (rw [eqP_iff,Fm.mk.injEq];exact ⟨λh=>(by cases h),λh=>absurd h.2.2.2.1 e4⟩)
   | (rw [eqP_iff,Fm.mk.injEq];exact ⟨λh=>(by cases h),λh=>absurd h.2.2.2.2.1 e5⟩)
   | (rw [eqP_iff,Fm.mk.injEq];exact ⟨λh=>(by cases h),λh=>absurd (congrArg List.length h.2.2.2.2.2.1) e6⟩)
   | (rw [eqP_iff,Fm.mk.injEq];exact ⟨λh=>(by cases h),λh=>absurd (congrArg List.length h.2.2.2.2.2.2) e7⟩)
   | (rw [eqP_iff,Fm.mk.injEq];exact ⟨λh=>(by cases h),λh=>absurd (getElem_congr h.2.2.2.2.2.1 hk hkm) heq⟩)
   | (rw [eqP_iff,Fm.mk.injEq];exact ⟨λh=>(by cases h),λh=>absurd (getElem_congr h.2.2.2.2.2.2 hk hkm) heq⟩)
 have e6:=(by omega:ex.length=exb.length);refine .gy (.fieldAddr Z Fx.field27_6)<|.gy (.load Z Fx.agg25 mem1 Z)<|.gy (.lenSl Fx.sl25 Z)<|.gy (.fieldAddr Z Fx.field27_6)<|.gy (.load Z Fx.agg25 Hm Z)<|.gy (.lenSl Fx.sl25 Z)<|.gy (.neq Z Z)<|.yw (.pickF Z Z)<|.nt<|.ce Z (λh57=>?_) (λh57=>?_)
 ·have e7:=(λe=>h57 (by rw [e]):¬ args.length=argsb.length);refine .sr<|.az Z<|.tR<|?_
  refine y9 Z Z λW s=>⟨retB ?_,s.ext⟩
  first
   | (rw [eqP_iff,Fm.mk.injEq];exact ⟨λ_=>⟨e1,e2,e3,e4,e5,hexs,hall⟩,λ_=>rfl⟩)
   | (rw [eqP_iff,Fm.mk.injEq];exact ⟨λh=>(by cases h),λh=>absurd h.1 e1⟩)
   | (rw [eqP_iff,Fm.mk.injEq];exact ⟨λh=>(by cases h),λh=>absurd h.2.1 e2⟩)
   | (rw [eqP_iff,Fm.mk.injEq];exact ⟨λh=>(by cases h),λh=>absurd h.2.2.1 e3⟩)
   | (rw [eqP_iff,Fm.mk.injEq];exact ⟨λh=>(by cases h),λh=>absurd h.2.2.2.1 e4⟩)
   | (rw [eqP_iff,Fm.mk.injEq];exact ⟨λh=>(by cases h),λh=>absurd h.2.2.2.2.1 e5⟩)
   | (rw [eqP_iff,Fm.mk.injEq];exact ⟨λh=>(by cases h),λh=>absurd (congrArg List.length h.2.2.2.2.2.1) e6⟩)
   | (rw [eqP_iff,Fm.mk.injEq];exact ⟨λh=>(by cases h),λh=>absurd (congrArg List.length h.2.2.2.2.2.2) e7⟩)
   | (rw [eqP_iff,Fm.mk.injEq];exact ⟨λh=>(by cases h),λh=>absurd (getElem_congr h.2.2.2.2.2.1 hk hkm) heq⟩)
   | (rw [eqP_iff,Fm.mk.injEq];exact ⟨λh=>(by cases h),λh=>absurd (getElem_congr h.2.2.2.2.2.2 hk hkm) heq⟩)
 have e7:=(by omega:args.length=argsb.length);refine .sk<|.tN<|.sq<|.sr<|.fA Z Fx.field27_5<|.lD Z Fx.agg24 mem1 Z<|.yw (.lenSl Fx.sl24 Z)<|.mv Z<|.nt<|.bk<|.lp (X:=Nat) [(2,_),(3,_),(60,_)] ⟨Z,Z,Z,Jt⟩ [_,_] (λk=>[(61,iN k)]) (λk=>H) (λk=>[]) (λk=>k<=ex.length/\ex.take k=exb.take k) (λk=>ex.length - k) 0 (λ_ s=>s) ⟨Z,Jt⟩ ⟨by omega,Z⟩ λk hC=>?_
 obtain ⟨hk0,hal⟩:=hC;refine .sr<|.yw (.lss Z Z)<|.nt<|.sq<|.ce Z (λh62=>?_) (λh62=>?_)
 ·have hk:k<ex.length:=by omega
  have hkm:k<exb.length:=by omega
  obtain ⟨bE,oE,cE,hpE,rE,lE,mE⟩:=hs1.elem (map_at (f:=dEx .i64) hk);cases hpE;obtain ⟨bF,oF,cF,hpF,rF,lF,mF⟩:=ht1.elem (map_at (f:=dEx .i64) hkm);cases hpF;refine .sk<|.tN<|.sq<|.bk<|.sm Z<|.aq Z<|.sq<|.fL 11 [(0,0),(1,0),(2,0),(3,0),(4,0),(5,0),(6,0),(7,0),(8,0),(9,0),(10,0)]<|.fA Z Fx.field27_5<|.lD Z Fx.agg24 mem1 Z<|.mv Z<|.yw (.indexSl Fx.sl24 Z Z Z (by omega) (q:=oE+k * 4) Z)<|.yw (.loadMW Z Fx.agg83 mE lE)<|.fA Z Fx.field27_5<|.lD Z Fx.agg24 Hm Z<|.mv Z<|.yw (.indexSl Fx.sl24 Z Z Z (by omega) (q:=oF+k * 4) Z)<|.yw (.loadMW Z Fx.agg83 mF lF)<|.yw (.call Fx.call53 Z (λW s=>sameExpr_any H _ _ cE cF W rE rF s.agr))<|.fn (tl:=[_]) Z<|.yw (.not Z)<|.nt<|.cd Z (λh75=>?_) (λh75=>?_)
  ·try simp only [dt] at h75
   have heq:=eqP_false.1 (by simpa using h75);refine .sr<|.az Z<|.bR<|.tR<|.tR<|.bR<|.tR<|?_
   refine y9 Z Z λW s=>⟨retB ?_,s.ext⟩
   first
    | (rw [eqP_iff,Fm.mk.injEq];exact ⟨λ_=>⟨e1,e2,e3,e4,e5,hexs,hall⟩,λ_=>rfl⟩)
    | (rw [eqP_iff,Fm.mk.injEq];exact ⟨λh=>(by cases h),λh=>absurd h.1 e1⟩)
    | (rw [eqP_iff,Fm.mk.injEq];exact ⟨λh=>(by cases h),λh=>absurd h.2.1 e2⟩)
    | (rw [eqP_iff,Fm.mk.injEq];exact ⟨λh=>(by cases h),λh=>absurd h.2.2.1 e3⟩)
    | (rw [eqP_iff,Fm.mk.injEq];exact ⟨λh=>(by cases h),λh=>absurd h.2.2.2.1 e4⟩)
    | (rw [eqP_iff,Fm.mk.injEq];exact ⟨λh=>(by cases h),λh=>absurd h.2.2.2.2.1 e5⟩)
    | (rw [eqP_iff,Fm.mk.injEq];exact ⟨λh=>(by cases h),λh=>absurd (congrArg List.length h.2.2.2.2.2.1) e6⟩)
    | (rw [eqP_iff,Fm.mk.injEq];exact ⟨λh=>(by cases h),λh=>absurd (congrArg List.length h.2.2.2.2.2.2) e7⟩)
    | (rw [eqP_iff,Fm.mk.injEq];exact ⟨λh=>(by cases h),λh=>absurd (getElem_congr h.2.2.2.2.2.1 hk hkm) heq⟩)
    | (rw [eqP_iff,Fm.mk.injEq];exact ⟨λh=>(by cases h),λh=>absurd (getElem_congr h.2.2.2.2.2.2 hk hkm) heq⟩)
  try simp only [df] at h75
  have heq:=eqP_iff.1 (by simpa using h75);exact .sk<|.bN<|.tN<|.rg<|.yw (.add Z Z w7)<|.mv Z<|.nt<|.ag (k+1) ⟨Z,Jt⟩ ⟨Z,Z,Z,Jt⟩ (λ_ s=>s) ⟨by omega,take_eq_succ hk hkm hal heq⟩ (by omega)
 have hexs:ex=exb:=by
  have e8:k=ex.length:=by omega
  have e9:k=exb.length:=by omega
  have h1:=hal;rw [e8,Al_List_take_length,e6,Al_List_take_length] at h1;exact h1
 refine .ex<|.eb<|.sq<|.sr<|.fA Z Fx.field27_6<|.lD Z Fx.agg25 mem1 Z<|.yw (.lenSl Fx.sl25 Z)<|.mv Z<|.nt<|.bk<|.lp (X:=Nat) [(2,_),(3,_),(79,_)] ⟨Z,Z,Z,Jt⟩ [_,_] (λk2=>[(80,iN k2)]) (λk2=>H) (λk2=>[]) (λk2=>k2<=args.length/\args.take k2=argsb.take k2) (λk2=>args.length - k2) 0 (λ_ s=>s) ⟨Z,Jt⟩ ⟨by omega,Z⟩ λk2 hC=>?_
 obtain ⟨hk0,hal⟩:=hC;refine .sr<|.yw (.lss Z Z)<|.nt<|.sq<|.ce Z (λh81=>?_) (λh81=>?_)
 ·have hk:k2<args.length:=by omega
  have hkm:k2<argsb.length:=by omega
  obtain ⟨bE,oE,cE,hpE,rE,lE,mE⟩:=hs2.elem (map_at (f:=dFm .i64) hk);cases hpE;obtain ⟨bF,oF,cF,hpF,rF,lF,mF⟩:=ht2.elem (map_at (f:=dFm .i64) hkm);cases hpF;refine .sk<|.tN<|.sq<|.bk<|.sm Z<|.aq Z<|.sq<|.fL 11 [(0,0),(1,0),(2,0),(3,0),(4,0),(5,0),(6,0),(7,0),(8,0),(9,0),(10,0)]<|.fA Z Fx.field27_6<|.lD Z Fx.agg25 mem1 Z<|.mv Z<|.yw (.indexSl Fx.sl25 Z Z Z (by omega) (q:=oE+k2 * 7) Z)<|.yw (.loadMW Z Fx.agg27 mE lE)<|.fA Z Fx.field27_6<|.lD Z Fx.agg25 Hm Z<|.mv Z<|.yw (.indexSl Fx.sl25 Z Z Z (by omega) (q:=oF+k2 * 7) Z)<|.yw (.loadMW Z Fx.agg27 mF lF)<|.yw (.call Fx.call25 Z (λW s=>ih _ (Al_List_getElem_mem hk) _ cE cF W rE rF s.agr))<|.fn (tl:=[_]) Z<|.yw (.not Z)<|.nt<|.cd Z (λh94=>?_) (λh94=>?_)
  ·try simp only [dt] at h94
   have heq:=eqP_false.1 (by simpa using h94);refine .sr<|.az Z<|.bR<|.tR<|.tR<|.bR<|.tR<|?_
   refine y9 Z Z λW s=>⟨retB ?_,s.ext⟩
   first
    | (rw [eqP_iff,Fm.mk.injEq];exact ⟨λ_=>⟨e1,e2,e3,e4,e5,hexs,hall⟩,λ_=>rfl⟩)
    | (rw [eqP_iff,Fm.mk.injEq];exact ⟨λh=>(by cases h),λh=>absurd h.1 e1⟩)
    | (rw [eqP_iff,Fm.mk.injEq];exact ⟨λh=>(by cases h),λh=>absurd h.2.1 e2⟩)
    | (rw [eqP_iff,Fm.mk.injEq];exact ⟨λh=>(by cases h),λh=>absurd h.2.2.1 e3⟩)
    | (rw [eqP_iff,Fm.mk.injEq];exact ⟨λh=>(by cases h),λh=>absurd h.2.2.2.1 e4⟩)
    | (rw [eqP_iff,Fm.mk.injEq];exact ⟨λh=>(by cases h),λh=>absurd h.2.2.2.2.1 e5⟩)
    | (rw [eqP_iff,Fm.mk.injEq];exact ⟨λh=>(by cases h),λh=>absurd (congrArg List.length h.2.2.2.2.2.1) e6⟩)
    | (rw [eqP_iff,Fm.mk.injEq];exact ⟨λh=>(by cases h),λh=>absurd (congrArg List.length h.2.2.2.2.2.2) e7⟩)
    | (rw [eqP_iff,Fm.mk.injEq];exact ⟨λh=>(by cases h),λh=>absurd (getElem_congr h.2.2.2.2.2.1 hk hkm) heq⟩)
    | (rw [eqP_iff,Fm.mk.injEq];exact ⟨λh=>(by cases h),λh=>absurd (getElem_congr h.2.2.2.2.2.2 hk hkm) heq⟩)
  try simp only [df] at h94
  have heq:=eqP_iff.1 (by simpa using h94);exact .sk<|.bN<|.tN<|.rg<|.yw (.add Z Z w7)<|.mv Z<|.nt<|.ag (k2+1) ⟨Z,Jt⟩ ⟨Z,Z,Z,Jt⟩ (λ_ s=>s) ⟨by omega,take_eq_succ hk hkm hal heq⟩ (by omega)
 have hall:args=argsb:=by
  have e8:k2=args.length:=by omega
  have e9:k2=argsb.length:=by omega
  have h1:=hal;rw [e8,Al_List_take_length,e7,Al_List_take_length] at h1;exact h1
 refine .ex<|.eb<|.sr<|.az Z<|?_
 refine y9 Z Z λW s=>⟨retB ?_,s.ext⟩
 first
  | (rw [eqP_iff,Fm.mk.injEq];exact ⟨λ_=>⟨e1,e2,e3,e4,e5,hexs,hall⟩,λ_=>rfl⟩)
  | (rw [eqP_iff,Fm.mk.injEq];exact ⟨λh=>(by cases h),λh=>absurd h.1 e1⟩)
  | (rw [eqP_iff,Fm.mk.injEq];exact ⟨λh=>(by cases h),λh=>absurd h.2.1 e2⟩)
  | (rw [eqP_iff,Fm.mk.injEq];exact ⟨λh=>(by cases h),λh=>absurd h.2.2.1 e3⟩)
  | (rw [eqP_iff,Fm.mk.injEq];exact ⟨λh=>(by cases h),λh=>absurd h.2.2.2.1 e4⟩)
  | (rw [eqP_iff,Fm.mk.injEq];exact ⟨λh=>(by cases h),λh=>absurd h.2.2.2.2.1 e5⟩)
  | (rw [eqP_iff,Fm.mk.injEq];exact ⟨λh=>(by cases h),λh=>absurd (congrArg List.length h.2.2.2.2.2.1) e6⟩)
  | (rw [eqP_iff,Fm.mk.injEq];exact ⟨λh=>(by cases h),λh=>absurd (congrArg List.length h.2.2.2.2.2.2) e7⟩)
  | (rw [eqP_iff,Fm.mk.injEq];exact ⟨λh=>(by cases h),λh=>absurd (getElem_congr h.2.2.2.2.2.1 hk hkm) heq⟩)
  | (rw [eqP_iff,Fm.mk.injEq];exact ⟨λh=>(by cases h),λh=>absurd (getElem_congr h.2.2.2.2.2.2 hk hkm) heq⟩)
def n13 (e:Ex):Bool:=decide (e.nm.length<=13)
theorem buildC_any:∀ (f d:Nat),d+f=31->∀ (H:Hp) (l:List Nd) (v:Value) (w:World),Rep H (.seq 5 (l.map dNd)) [v]->Agr H w ->
 Calls prg 169 #[v,iN d] w λr w'=>∃ (y:List Value × Value) (H':Hp),(∃ (e:Ex) (rest:List Nd),Rep H' (dEx .i64 e) y.1/\goodE d e/\Ex.all n13 e=true/\e.count+3 * rest.length<=3 * l.length+1/\Rep H' (.seq 5 (rest.map dNd)) [y.2])/\r=.returned (.tuple #[.agg y.1.toArray,y.2])/\Grow H w H' w':=by
 intro f;induction f using Nat.strongRecOn with
 | _ f ih =>
  intro d hd H l v w h hA;obtain ⟨p,c,e,_⟩:=h.sl;simp only [Al_List_cons_injEq,Al_and_true] at e;subst e;obtain ⟨n,hn⟩:∃ n,n=(l.map dNd).length:=⟨_,Z⟩;rw [<-hn] at h|-;have hnl:n=l.length:=by simpa using hn
  have hcap:=h.cap;refine Sx.enter (H:=H) func169 rfl ntmps169 rfl hA ?_;refine .sr<|.al Fx.zero83 Z λb4=>.aq Z<|.sq<|.sm Z<|.yw (.lenSl Fx.sl149 Z)<|.yw (.eql Z Z)<|.mv Z<|.e2 (λh15=>?_) (λh15=>?_)
  ·refine .gG<|.gG<|.yw (.pickT Z Z)<|.nt<|.cT Z<|.sr<|.yw (.build Z (Fx.bld83_0 _))<|.mv Z<|.sW .head Z Z Fx.size83 (by simp [Value.oneCell',strV,cNd]) Z<|.az Z<|.tR<|?_
   exact y7 Z (.cons (.cell Z Fx.agg83 Hm rfl) (.cons (.tmp Z) .nil)) rfl λW s=>⟨(_,_),H,⟨.mk 1 [] 0 [],l,ex_shut (by decide) (Rep.empty (by decide)),goodE_leaf (by omega),Z,(by rw [ex_count,Ex.counts];omega),h⟩,Z,.pure hA s.ext⟩
  refine .gy (.move Z)<|.gy (.gtr Z Z)<|.yw (.pickF Z Z)<|.nt<|.ce Z (λh18=>?_) (λh18=>?_)
  ·refine .sr<|.yw (.build Z (Fx.bld83_0 _))<|.mv Z<|.sW .head Z Z Fx.size83 (by simp [Value.oneCell',strV,cNd]) Z<|.az Z<|.tR<|?_
   exact y7 Z (.cons (.cell Z Fx.agg83 Hm rfl) (.cons (.tmp Z) .nil)) rfl λW s=>⟨(_,_),H,⟨.mk 1 [] 0 [],l,ex_shut (by decide) (Rep.empty (by decide)),goodE_leaf (by omega),Z,(by rw [ex_count,Ex.counts];omega),h⟩,Z,.pure hA s.ext⟩
  have hn0:0<n:=by omega
  obtain ⟨bE,oE,cE,hpE,rE,lE,mE⟩:=h.elem (map_at (f:=dNd) (show 0<l.length by omega));subst hpE;generalize hx:l[0]=x at rE;obtain rfl:=nd_open rE;obtain ⟨op,hop⟩:∃ op:UInt8,op.toNat=x.op.toNat % 24:=⟨UInt8.ofNat (x.op.toNat % 24),by simp [Al_UInt8_toNat_ofNat'];omega⟩;obtain ⟨m0,hm0,hm2⟩:∃ m0:Nat,max (arR op.toNat) 0=(m0:Int)/\m0<=2:=⟨(max (arR op.toNat) 0).toNat,by have:=arR_bnd op.toNat;omega,by have:=arR_bnd op.toNat;omega⟩;refine .sk<|.tN<|.sm Z<|.yw (.indexSl Fx.sl149 Z Z (i:=0) Z (by omega) (q:=oE+0 * 5) (by omega))<|.yw (.loadMW Z Fx.agg240 mE Z)<|.al Fx.zero240 Z λb6=>.sW .head Z Z Fx.size240 (by simp [Value.oneCell',strV,cNd]) Z<|.ns<|.mv Z<|.yw (.cutLo Fx.sl149 Z Z (lo:=1) Z (by omega) h.len.2.1)<|.a Z Z<|.ns<|.fA Z Fx.field240_0<|.lD Z Fx.agg5 Hm Z<|.yw (.rem Z Z (by decide) (c:=((x.op.toNat % 24:Nat):Int)) (by rw [Al_Int_tmod_eq_emod_of_nonneg (by omega)];omega))<|.yw (.conv Z Fx.int5 Fx.int3 (c:=((op.toNat:Nat):Int)) ((w6 (by omega)).trans (by rw [hop])))<|.fA Z Fx.field240_4<|.lD Z Fx.agg2 Hm Z<|.yw (.build Z (Fx.bld83_0_2 _ _))<|.al Fx.zero83 Z λb7=>.sW .head Z Z Fx.size83 (by simp [Value.oneCell',strV,cNd]) Z<|.ns<|.fA Z Fx.field83_0<|.lD Z Fx.agg3 Hm Z<|.yw (.call Fx.call170 Z (λW s=>arity_any H op.toNat W s.agr))<|.yw (.max2 Z Z (c:=((m0:Nat):Int)) hm0)<|.aq Z<|.cu (X:=Str) [(0,_),(1,_),(4,_),(6,_),(7,_),(8,_)] ⟨Z,Z,Z,Z,Z,Z,Jt⟩ (λnm=>[]) (λnm=>H) (λnm=>[.box b7 [.int .i64 op.toNat,strV nm,.int .i64 (x.n).toInt,.slice none 0 0] 83,.box b6 (cNd x) 240,.box b4 [.int .i64 0,.string ⟨#[]⟩,.int .i64 0,.slice none 0 0] 83]) (λnm=>nm.length<=13) ?_ λnm hC=>?_
  ·
   refine .sr<|.fA Z Fx.field83_0<|.lD Z Fx.agg3 Hm Z<|.yw (.geq Z Z)<|.mv Z<|.e2 (λh40=>?_) (λh40=>?_)
   ·refine .gy (.fieldAddr Z Fx.field83_0)<|.gy (.load Z Fx.agg3 Hm Z)<|.gy (.leq Z Z)<|.yw (.pickT Z Z)<|.nt<|.cd Z (λh44=>?_) (λh44=>?_)
    ·exact .rg<|.fA Z Fx.field240_1<|.lD Z Fx.agg5 mem1 Z<|.yw (.call Fx.call128 Z (λW s=>word_any H x.nm W s.agr))<|.fA Z Fx.field83_1<|.st .head Z Z Fx.size9 Z (nb Z) Z<|.nt<|.me _ trivial ⟨Z,Z,Z,Z,Z,Z,Jt⟩ (λ_ s=>s) (by first | exact word_len _ | decide)
    exact .sk<|.tN<|.me _ trivial ⟨Z,Z,Z,Z,Z,Z,Jt⟩ (λ_ s=>s) (by first | exact word_len _ | decide)
   exact .gG<|.gG<|.gG<|.yw (.pickF Z Z)<|.nt<|.cF Z<|.sk<|.tN<|.me _ trivial ⟨Z,Z,Z,Z,Z,Z,Jt⟩ (λ_ s=>s) (by first | exact word_len _ | decide)
  have hnm:=hC;refine .cu (X:=Int64) [(0,_),(1,_),(4,_),(6,_),(7,_),(8,_)] ⟨Z,Z,Z,Z,Z,Z,Jt⟩ (λnn=>[]) (λnn=>H) (λnn=>[.box b7 [.int .i64 op.toNat,strV nm,.int .i64 (nn).toInt,.slice none 0 0] 83,.box b6 (cNd x) 240,.box b4 [.int .i64 0,.string ⟨#[]⟩,.int .i64 0,.slice none 0 0] 83]) (λnn=>True) ?_ λnn hC=>?_
  ·
   refine .sr<|.fA Z Fx.field83_0<|.lD Z Fx.agg3 Hm Z<|.yw (.neq Z Z)<|.nt<|.cd Z (λh51=>?_) (λh51=>?_)
   ·exact .rg<|.fA Z Fx.field83_2<|.st .head Z Z Fx.size2 Z (nb Z) Z<|.nt<|.me 0 trivial ⟨Z,Z,Z,Z,Z,Z,Jt⟩ (λ_ s=>s) trivial
   exact .sk<|.tN<|.me x.n trivial ⟨Z,Z,Z,Z,Z,Z,Jt⟩ (λ_ s=>s) trivial
  refine .cu (X:=Nat × Str × Int64) [(0,_),(1,_),(4,_),(7,_)] ⟨Z,Z,Z,Z,Jt⟩ (λz=>[(8,iN z.1)]) (λz=>H) (λz=>[.box b7 [.int .i64 op.toNat,strV z.2.1,.int .i64 (z.2.2).toInt,.slice none 0 0] 83,.box b6 (cNd x) 240,.box b4 [.int .i64 0,.string ⟨#[]⟩,.int .i64 0,.slice none 0 0] 83]) (λz=>z.1<=3/\z.2.1.length<=13) ?_ λz hC=>?_
  ·
   refine .sr<|.fA Z Fx.field240_3<|.lD Z Fx.agg4 mem1 Z<|.nt<|.cd Z (λh54=>?_) (λh54=>?_)
   ·refine .sr<|.fA Z Fx.field240_2<|.lD Z Fx.agg5 mem1 Z<|.yw (.rem Z Z (by decide) (c:=((x.ct.toNat % 4:Nat):Int)) (by rw [Al_Int_tmod_eq_emod_of_nonneg (by omega)];omega))<|.yw (.conv Z Fx.int5 Fx.int3 (c:=((x.ct.toNat % 4:Nat):Int)) (w6 (by omega)))<|.a Z Z<|.ns<|.fA Z Fx.field240_2<|.lD Z Fx.agg5 mem1 Z<|.yw (.rem Z Z (by decide) (c:=((x.ct.toNat % 5:Nat):Int)) (by rw [Al_Int_tmod_eq_emod_of_nonneg (by omega)];omega))<|.yw (.eql Z Z)<|.nt<|.cd Z (λh62=>?_) (λh62=>?_)
    ·refine .ar 9 #[false,false,false,false,false,false,false,false,false] (by kernel_rfl) Z Z<|.an 0 [3] (by kernel_rfl) ⟨?_,?_,Jt⟩
     ·
      refine .ao #[true,false,false,false,false,false,false,false,false] Z Z<|.fA Z Fx.field240_1<|.nx<|.an 1 [3] (by kernel_rfl) ⟨?_,?_,Jt⟩
      ·
       refine .ao #[true,true,false,false,false,false,false,false,false] Z Z<|.lD Z Fx.agg5 mem1 Z<|.nx<|.an 2 [3] (by kernel_rfl) ⟨?_,?_,Jt⟩
       ·
        refine .ao #[true,true,true,false,false,false,false,false,false] Z Z<|.yw (.call Fx.call128 Z (λW s=>word_any H x.nm W s.agr))<|.nx<|.an 3 [5] (by kernel_rfl) ⟨?_,?_,Jt⟩
        ·
         refine .ao #[true,true,true,true,false,false,false,false,false] Z Z<|.fA Z Fx.field240_4<|.nx<|.an 4 [5] (by kernel_rfl) ⟨?_,?_,Jt⟩
         ·
          refine .ao #[true,true,true,true,true,false,false,false,false] Z Z<|.lD Z Fx.agg2 mem1 Z<|.nx<|.an 5 [] (by kernel_rfl) ⟨?_,Jt⟩
          refine .ao #[true,true,true,true,true,true,false,false,false] Z Z<|.fA Z Fx.field83_1<|.nx<|.an 6 [] (by kernel_rfl) ⟨?_,Jt⟩
          refine .ao #[true,true,true,true,true,true,true,false,false] Z Z<|.st .head Z Z Fx.size9 Z (nb Z) Z<|.nx<|.an 7 [] (by kernel_rfl) ⟨?_,Jt⟩
          refine .ao #[true,true,true,true,true,true,true,true,false] Z Z<|.fA Z Fx.field83_2<|.nx<|.an 8 [] (by kernel_rfl) ⟨?_,Jt⟩
          exact .ao #[true,true,true,true,true,true,true,true,true] Z Z<|.st .head Z Z Fx.size2 Z (nb Z) Z<|.nx<|.ae (by kernel_rfl)<|.tN<|.me (x.ct.toNat % 4,wordR x.nm,x.n) ⟨Z,Jt⟩ ⟨Z,Z,Z,Z,Jt⟩ (λ_ s=>s) ⟨by dsimp only;omega,by dsimp only;first | exact word_len _ | exact hnm⟩
         refine .ao #[true,true,true,true,false,true,false,false,false] Z Z<|.fA Z Fx.field83_1<|.nx<|.an 4 [6] (by kernel_rfl) ⟨?_,?_,Jt⟩
         ·
          refine .ao #[true,true,true,true,true,true,false,false,false] Z Z<|.lD Z Fx.agg2 mem1 Z<|.nx<|.an 6 [] (by kernel_rfl) ⟨?_,Jt⟩
          refine .ao #[true,true,true,true,true,true,true,false,false] Z Z<|.st .head Z Z Fx.size9 Z (nb Z) Z<|.nx<|.an 7 [] (by kernel_rfl) ⟨?_,Jt⟩
          refine .ao #[true,true,true,true,true,true,true,true,false] Z Z<|.fA Z Fx.field83_2<|.nx<|.an 8 [] (by kernel_rfl) ⟨?_,Jt⟩
          exact .ao #[true,true,true,true,true,true,true,true,true] Z Z<|.st .head Z Z Fx.size2 Z (nb Z) Z<|.nx<|.ae (by kernel_rfl)<|.tN<|.me (x.ct.toNat % 4,wordR x.nm,x.n) ⟨Z,Jt⟩ ⟨Z,Z,Z,Z,Jt⟩ (λ_ s=>s) ⟨by dsimp only;omega,by dsimp only;first | exact word_len _ | exact hnm⟩
         refine .ao #[true,true,true,true,false,true,true,false,false] Z Z<|.st .head Z Z Fx.size9 Z (nb Z) Z<|.nx<|.an 4 [] (by kernel_rfl) ⟨?_,Jt⟩
         refine .ao #[true,true,true,true,true,true,true,false,false] Z Z<|.lD Z Fx.agg2 mem1 Z<|.nx<|.an 7 [] (by kernel_rfl) ⟨?_,Jt⟩
         refine .ao #[true,true,true,true,true,true,true,true,false] Z Z<|.fA Z Fx.field83_2<|.nx<|.an 8 [] (by kernel_rfl) ⟨?_,Jt⟩
         exact .ao #[true,true,true,true,true,true,true,true,true] Z Z<|.st .head Z Z Fx.size2 Z (nb Z) Z<|.nx<|.ae (by kernel_rfl)<|.tN<|.me (x.ct.toNat % 4,wordR x.nm,x.n) ⟨Z,Jt⟩ ⟨Z,Z,Z,Z,Jt⟩ (λ_ s=>s) ⟨by dsimp only;omega,by dsimp only;first | exact word_len _ | exact hnm⟩
        refine .ao #[true,true,true,false,false,true,false,false,false] Z Z<|.fA Z Fx.field83_1<|.nx<|.an 3 [6] (by kernel_rfl) ⟨?_,?_,Jt⟩
        ·
         refine .ao #[true,true,true,true,false,true,false,false,false] Z Z<|.fA Z Fx.field240_4<|.nx<|.an 4 [6] (by kernel_rfl) ⟨?_,?_,Jt⟩
         ·
          refine .ao #[true,true,true,true,true,true,false,false,false] Z Z<|.lD Z Fx.agg2 mem1 Z<|.nx<|.an 6 [] (by kernel_rfl) ⟨?_,Jt⟩
          refine .ao #[true,true,true,true,true,true,true,false,false] Z Z<|.st .head Z Z Fx.size9 Z (nb Z) Z<|.nx<|.an 7 [] (by kernel_rfl) ⟨?_,Jt⟩
          refine .ao #[true,true,true,true,true,true,true,true,false] Z Z<|.fA Z Fx.field83_2<|.nx<|.an 8 [] (by kernel_rfl) ⟨?_,Jt⟩
          exact .ao #[true,true,true,true,true,true,true,true,true] Z Z<|.st .head Z Z Fx.size2 Z (nb Z) Z<|.nx<|.ae (by kernel_rfl)<|.tN<|.me (x.ct.toNat % 4,wordR x.nm,x.n) ⟨Z,Jt⟩ ⟨Z,Z,Z,Z,Jt⟩ (λ_ s=>s) ⟨by dsimp only;omega,by dsimp only;first | exact word_len _ | exact hnm⟩
         refine .ao #[true,true,true,true,false,true,true,false,false] Z Z<|.st .head Z Z Fx.size9 Z (nb Z) Z<|.nx<|.an 4 [] (by kernel_rfl) ⟨?_,Jt⟩
         refine .ao #[true,true,true,true,true,true,true,false,false] Z Z<|.lD Z Fx.agg2 mem1 Z<|.nx<|.an 7 [] (by kernel_rfl) ⟨?_,Jt⟩
         refine .ao #[true,true,true,true,true,true,true,true,false] Z Z<|.fA Z Fx.field83_2<|.nx<|.an 8 [] (by kernel_rfl) ⟨?_,Jt⟩
         exact .ao #[true,true,true,true,true,true,true,true,true] Z Z<|.st .head Z Z Fx.size2 Z (nb Z) Z<|.nx<|.ae (by kernel_rfl)<|.tN<|.me (x.ct.toNat % 4,wordR x.nm,x.n) ⟨Z,Jt⟩ ⟨Z,Z,Z,Z,Jt⟩ (λ_ s=>s) ⟨by dsimp only;omega,by dsimp only;first | exact word_len _ | exact hnm⟩
        refine .ao #[true,true,true,false,false,true,true,false,false] Z Z<|.st .head Z Z Fx.size9 Z (nb Z) Z<|.nx<|.an 3 [] (by kernel_rfl) ⟨?_,Jt⟩
        refine .ao #[true,true,true,true,false,true,true,false,false] Z Z<|.fA Z Fx.field240_4<|.nx<|.an 4 [] (by kernel_rfl) ⟨?_,Jt⟩
        refine .ao #[true,true,true,true,true,true,true,false,false] Z Z<|.lD Z Fx.agg2 mem1 Z<|.nx<|.an 7 [] (by kernel_rfl) ⟨?_,Jt⟩
        refine .ao #[true,true,true,true,true,true,true,true,false] Z Z<|.fA Z Fx.field83_2<|.nx<|.an 8 [] (by kernel_rfl) ⟨?_,Jt⟩
        exact .ao #[true,true,true,true,true,true,true,true,true] Z Z<|.st .head Z Z Fx.size2 Z (nb Z) Z<|.nx<|.ae (by kernel_rfl)<|.tN<|.me (x.ct.toNat % 4,wordR x.nm,x.n) ⟨Z,Jt⟩ ⟨Z,Z,Z,Z,Jt⟩ (λ_ s=>s) ⟨by dsimp only;omega,by dsimp only;first | exact word_len _ | exact hnm⟩
       refine .ao #[true,true,false,true,false,false,false,false,false] Z Z<|.fA Z Fx.field240_4<|.nx<|.an 2 [4] (by kernel_rfl) ⟨?_,?_,Jt⟩
       ·
        refine .ao #[true,true,true,true,false,false,false,false,false] Z Z<|.yw (.call Fx.call128 Z (λW s=>word_any H x.nm W s.agr))<|.nx<|.an 4 [5] (by kernel_rfl) ⟨?_,?_,Jt⟩
        ·
         refine .ao #[true,true,true,true,true,false,false,false,false] Z Z<|.lD Z Fx.agg2 mem1 Z<|.nx<|.an 5 [] (by kernel_rfl) ⟨?_,Jt⟩
         refine .ao #[true,true,true,true,true,true,false,false,false] Z Z<|.fA Z Fx.field83_1<|.nx<|.an 6 [] (by kernel_rfl) ⟨?_,Jt⟩
         refine .ao #[true,true,true,true,true,true,true,false,false] Z Z<|.st .head Z Z Fx.size9 Z (nb Z) Z<|.nx<|.an 7 [] (by kernel_rfl) ⟨?_,Jt⟩
         refine .ao #[true,true,true,true,true,true,true,true,false] Z Z<|.fA Z Fx.field83_2<|.nx<|.an 8 [] (by kernel_rfl) ⟨?_,Jt⟩
         exact .ao #[true,true,true,true,true,true,true,true,true] Z Z<|.st .head Z Z Fx.size2 Z (nb Z) Z<|.nx<|.ae (by kernel_rfl)<|.tN<|.me (x.ct.toNat % 4,wordR x.nm,x.n) ⟨Z,Jt⟩ ⟨Z,Z,Z,Z,Jt⟩ (λ_ s=>s) ⟨by dsimp only;omega,by dsimp only;first | exact word_len _ | exact hnm⟩
        refine .ao #[true,true,true,true,false,true,false,false,false] Z Z<|.fA Z Fx.field83_1<|.nx<|.an 4 [6] (by kernel_rfl) ⟨?_,?_,Jt⟩
        ·
         refine .ao #[true,true,true,true,true,true,false,false,false] Z Z<|.lD Z Fx.agg2 mem1 Z<|.nx<|.an 6 [] (by kernel_rfl) ⟨?_,Jt⟩
         refine .ao #[true,true,true,true,true,true,true,false,false] Z Z<|.st .head Z Z Fx.size9 Z (nb Z) Z<|.nx<|.an 7 [] (by kernel_rfl) ⟨?_,Jt⟩
         refine .ao #[true,true,true,true,true,true,true,true,false] Z Z<|.fA Z Fx.field83_2<|.nx<|.an 8 [] (by kernel_rfl) ⟨?_,Jt⟩
         exact .ao #[true,true,true,true,true,true,true,true,true] Z Z<|.st .head Z Z Fx.size2 Z (nb Z) Z<|.nx<|.ae (by kernel_rfl)<|.tN<|.me (x.ct.toNat % 4,wordR x.nm,x.n) ⟨Z,Jt⟩ ⟨Z,Z,Z,Z,Jt⟩ (λ_ s=>s) ⟨by dsimp only;omega,by dsimp only;first | exact word_len _ | exact hnm⟩
        refine .ao #[true,true,true,true,false,true,true,false,false] Z Z<|.st .head Z Z Fx.size9 Z (nb Z) Z<|.nx<|.an 4 [] (by kernel_rfl) ⟨?_,Jt⟩
        refine .ao #[true,true,true,true,true,true,true,false,false] Z Z<|.lD Z Fx.agg2 mem1 Z<|.nx<|.an 7 [] (by kernel_rfl) ⟨?_,Jt⟩
        refine .ao #[true,true,true,true,true,true,true,true,false] Z Z<|.fA Z Fx.field83_2<|.nx<|.an 8 [] (by kernel_rfl) ⟨?_,Jt⟩
        exact .ao #[true,true,true,true,true,true,true,true,true] Z Z<|.st .head Z Z Fx.size2 Z (nb Z) Z<|.nx<|.ae (by kernel_rfl)<|.tN<|.me (x.ct.toNat % 4,wordR x.nm,x.n) ⟨Z,Jt⟩ ⟨Z,Z,Z,Z,Jt⟩ (λ_ s=>s) ⟨by dsimp only;omega,by dsimp only;first | exact word_len _ | exact hnm⟩
       refine .ao #[true,true,false,true,true,false,false,false,false] Z Z<|.lD Z Fx.agg2 mem1 Z<|.nx<|.an 2 [] (by kernel_rfl) ⟨?_,Jt⟩
       refine .ao #[true,true,true,true,true,false,false,false,false] Z Z<|.yw (.call Fx.call128 Z (λW s=>word_any H x.nm W s.agr))<|.nx<|.an 5 [] (by kernel_rfl) ⟨?_,Jt⟩
       refine .ao #[true,true,true,true,true,true,false,false,false] Z Z<|.fA Z Fx.field83_1<|.nx<|.an 6 [] (by kernel_rfl) ⟨?_,Jt⟩
       refine .ao #[true,true,true,true,true,true,true,false,false] Z Z<|.st .head Z Z Fx.size9 Z (nb Z) Z<|.nx<|.an 7 [] (by kernel_rfl) ⟨?_,Jt⟩
       refine .ao #[true,true,true,true,true,true,true,true,false] Z Z<|.fA Z Fx.field83_2<|.nx<|.an 8 [] (by kernel_rfl) ⟨?_,Jt⟩
       exact .ao #[true,true,true,true,true,true,true,true,true] Z Z<|.st .head Z Z Fx.size2 Z (nb Z) Z<|.nx<|.ae (by kernel_rfl)<|.tN<|.me (x.ct.toNat % 4,wordR x.nm,x.n) ⟨Z,Jt⟩ ⟨Z,Z,Z,Z,Jt⟩ (λ_ s=>s) ⟨by dsimp only;omega,by dsimp only;first | exact word_len _ | exact hnm⟩
      refine .ao #[true,false,false,true,false,false,false,false,false] Z Z<|.fA Z Fx.field240_4<|.nx<|.an 1 [4] (by kernel_rfl) ⟨?_,?_,Jt⟩
      ·
       refine .ao #[true,true,false,true,false,false,false,false,false] Z Z<|.lD Z Fx.agg5 mem1 Z<|.nx<|.an 2 [4] (by kernel_rfl) ⟨?_,?_,Jt⟩
       ·
        refine .ao #[true,true,true,true,false,false,false,false,false] Z Z<|.yw (.call Fx.call128 Z (λW s=>word_any H x.nm W s.agr))<|.nx<|.an 4 [5] (by kernel_rfl) ⟨?_,?_,Jt⟩
        ·
         refine .ao #[true,true,true,true,true,false,false,false,false] Z Z<|.lD Z Fx.agg2 mem1 Z<|.nx<|.an 5 [] (by kernel_rfl) ⟨?_,Jt⟩
         refine .ao #[true,true,true,true,true,true,false,false,false] Z Z<|.fA Z Fx.field83_1<|.nx<|.an 6 [] (by kernel_rfl) ⟨?_,Jt⟩
         refine .ao #[true,true,true,true,true,true,true,false,false] Z Z<|.st .head Z Z Fx.size9 Z (nb Z) Z<|.nx<|.an 7 [] (by kernel_rfl) ⟨?_,Jt⟩
         refine .ao #[true,true,true,true,true,true,true,true,false] Z Z<|.fA Z Fx.field83_2<|.nx<|.an 8 [] (by kernel_rfl) ⟨?_,Jt⟩
         exact .ao #[true,true,true,true,true,true,true,true,true] Z Z<|.st .head Z Z Fx.size2 Z (nb Z) Z<|.nx<|.ae (by kernel_rfl)<|.tN<|.me (x.ct.toNat % 4,wordR x.nm,x.n) ⟨Z,Jt⟩ ⟨Z,Z,Z,Z,Jt⟩ (λ_ s=>s) ⟨by dsimp only;omega,by dsimp only;first | exact word_len _ | exact hnm⟩
        refine .ao #[true,true,true,true,false,true,false,false,false] Z Z<|.fA Z Fx.field83_1<|.nx<|.an 4 [6] (by kernel_rfl) ⟨?_,?_,Jt⟩
        ·
         refine .ao #[true,true,true,true,true,true,false,false,false] Z Z<|.lD Z Fx.agg2 mem1 Z<|.nx<|.an 6 [] (by kernel_rfl) ⟨?_,Jt⟩
         refine .ao #[true,true,true,true,true,true,true,false,false] Z Z<|.st .head Z Z Fx.size9 Z (nb Z) Z<|.nx<|.an 7 [] (by kernel_rfl) ⟨?_,Jt⟩
         refine .ao #[true,true,true,true,true,true,true,true,false] Z Z<|.fA Z Fx.field83_2<|.nx<|.an 8 [] (by kernel_rfl) ⟨?_,Jt⟩
         exact .ao #[true,true,true,true,true,true,true,true,true] Z Z<|.st .head Z Z Fx.size2 Z (nb Z) Z<|.nx<|.ae (by kernel_rfl)<|.tN<|.me (x.ct.toNat % 4,wordR x.nm,x.n) ⟨Z,Jt⟩ ⟨Z,Z,Z,Z,Jt⟩ (λ_ s=>s) ⟨by dsimp only;omega,by dsimp only;first | exact word_len _ | exact hnm⟩
        refine .ao #[true,true,true,true,false,true,true,false,false] Z Z<|.st .head Z Z Fx.size9 Z (nb Z) Z<|.nx<|.an 4 [] (by kernel_rfl) ⟨?_,Jt⟩
        refine .ao #[true,true,true,true,true,true,true,false,false] Z Z<|.lD Z Fx.agg2 mem1 Z<|.nx<|.an 7 [] (by kernel_rfl) ⟨?_,Jt⟩
        refine .ao #[true,true,true,true,true,true,true,true,false] Z Z<|.fA Z Fx.field83_2<|.nx<|.an 8 [] (by kernel_rfl) ⟨?_,Jt⟩
        exact .ao #[true,true,true,true,true,true,true,true,true] Z Z<|.st .head Z Z Fx.size2 Z (nb Z) Z<|.nx<|.ae (by kernel_rfl)<|.tN<|.me (x.ct.toNat % 4,wordR x.nm,x.n) ⟨Z,Jt⟩ ⟨Z,Z,Z,Z,Jt⟩ (λ_ s=>s) ⟨by dsimp only;omega,by dsimp only;first | exact word_len _ | exact hnm⟩
       refine .ao #[true,true,false,true,true,false,false,false,false] Z Z<|.lD Z Fx.agg2 mem1 Z<|.nx<|.an 2 [] (by kernel_rfl) ⟨?_,Jt⟩
       refine .ao #[true,true,true,true,true,false,false,false,false] Z Z<|.yw (.call Fx.call128 Z (λW s=>word_any H x.nm W s.agr))<|.nx<|.an 5 [] (by kernel_rfl) ⟨?_,Jt⟩
       refine .ao #[true,true,true,true,true,true,false,false,false] Z Z<|.fA Z Fx.field83_1<|.nx<|.an 6 [] (by kernel_rfl) ⟨?_,Jt⟩
       refine .ao #[true,true,true,true,true,true,true,false,false] Z Z<|.st .head Z Z Fx.size9 Z (nb Z) Z<|.nx<|.an 7 [] (by kernel_rfl) ⟨?_,Jt⟩
       refine .ao #[true,true,true,true,true,true,true,true,false] Z Z<|.fA Z Fx.field83_2<|.nx<|.an 8 [] (by kernel_rfl) ⟨?_,Jt⟩
       exact .ao #[true,true,true,true,true,true,true,true,true] Z Z<|.st .head Z Z Fx.size2 Z (nb Z) Z<|.nx<|.ae (by kernel_rfl)<|.tN<|.me (x.ct.toNat % 4,wordR x.nm,x.n) ⟨Z,Jt⟩ ⟨Z,Z,Z,Z,Jt⟩ (λ_ s=>s) ⟨by dsimp only;omega,by dsimp only;first | exact word_len _ | exact hnm⟩
      refine .ao #[true,false,false,true,true,false,false,false,false] Z Z<|.lD Z Fx.agg2 mem1 Z<|.nx<|.an 1 [] (by kernel_rfl) ⟨?_,Jt⟩
      refine .ao #[true,true,false,true,true,false,false,false,false] Z Z<|.lD Z Fx.agg5 mem1 Z<|.nx<|.an 2 [] (by kernel_rfl) ⟨?_,Jt⟩
      refine .ao #[true,true,true,true,true,false,false,false,false] Z Z<|.yw (.call Fx.call128 Z (λW s=>word_any H x.nm W s.agr))<|.nx<|.an 5 [] (by kernel_rfl) ⟨?_,Jt⟩
      refine .ao #[true,true,true,true,true,true,false,false,false] Z Z<|.fA Z Fx.field83_1<|.nx<|.an 6 [] (by kernel_rfl) ⟨?_,Jt⟩
      refine .ao #[true,true,true,true,true,true,true,false,false] Z Z<|.st .head Z Z Fx.size9 Z (nb Z) Z<|.nx<|.an 7 [] (by kernel_rfl) ⟨?_,Jt⟩
      refine .ao #[true,true,true,true,true,true,true,true,false] Z Z<|.fA Z Fx.field83_2<|.nx<|.an 8 [] (by kernel_rfl) ⟨?_,Jt⟩
      exact .ao #[true,true,true,true,true,true,true,true,true] Z Z<|.st .head Z Z Fx.size2 Z (nb Z) Z<|.nx<|.ae (by kernel_rfl)<|.tN<|.me (x.ct.toNat % 4,wordR x.nm,x.n) ⟨Z,Jt⟩ ⟨Z,Z,Z,Z,Jt⟩ (λ_ s=>s) ⟨by dsimp only;omega,by dsimp only;first | exact word_len _ | exact hnm⟩
     refine .ao #[false,false,false,true,false,false,false,false,false] Z Z<|.fA Z Fx.field240_4<|.nx<|.an 0 [4] (by kernel_rfl) ⟨?_,?_,Jt⟩
     ·
      refine .ao #[true,false,false,true,false,false,false,false,false] Z Z<|.fA Z Fx.field240_1<|.nx<|.an 1 [4] (by kernel_rfl) ⟨?_,?_,Jt⟩
      ·
       refine .ao #[true,true,false,true,false,false,false,false,false] Z Z<|.lD Z Fx.agg5 mem1 Z<|.nx<|.an 2 [4] (by kernel_rfl) ⟨?_,?_,Jt⟩
       ·
        refine .ao #[true,true,true,true,false,false,false,false,false] Z Z<|.yw (.call Fx.call128 Z (λW s=>word_any H x.nm W s.agr))<|.nx<|.an 4 [5] (by kernel_rfl) ⟨?_,?_,Jt⟩
        ·
         refine .ao #[true,true,true,true,true,false,false,false,false] Z Z<|.lD Z Fx.agg2 mem1 Z<|.nx<|.an 5 [] (by kernel_rfl) ⟨?_,Jt⟩
         refine .ao #[true,true,true,true,true,true,false,false,false] Z Z<|.fA Z Fx.field83_1<|.nx<|.an 6 [] (by kernel_rfl) ⟨?_,Jt⟩
         refine .ao #[true,true,true,true,true,true,true,false,false] Z Z<|.st .head Z Z Fx.size9 Z (nb Z) Z<|.nx<|.an 7 [] (by kernel_rfl) ⟨?_,Jt⟩
         refine .ao #[true,true,true,true,true,true,true,true,false] Z Z<|.fA Z Fx.field83_2<|.nx<|.an 8 [] (by kernel_rfl) ⟨?_,Jt⟩
         exact .ao #[true,true,true,true,true,true,true,true,true] Z Z<|.st .head Z Z Fx.size2 Z (nb Z) Z<|.nx<|.ae (by kernel_rfl)<|.tN<|.me (x.ct.toNat % 4,wordR x.nm,x.n) ⟨Z,Jt⟩ ⟨Z,Z,Z,Z,Jt⟩ (λ_ s=>s) ⟨by dsimp only;omega,by dsimp only;first | exact word_len _ | exact hnm⟩
        refine .ao #[true,true,true,true,false,true,false,false,false] Z Z<|.fA Z Fx.field83_1<|.nx<|.an 4 [6] (by kernel_rfl) ⟨?_,?_,Jt⟩
        ·
         refine .ao #[true,true,true,true,true,true,false,false,false] Z Z<|.lD Z Fx.agg2 mem1 Z<|.nx<|.an 6 [] (by kernel_rfl) ⟨?_,Jt⟩
         refine .ao #[true,true,true,true,true,true,true,false,false] Z Z<|.st .head Z Z Fx.size9 Z (nb Z) Z<|.nx<|.an 7 [] (by kernel_rfl) ⟨?_,Jt⟩
         refine .ao #[true,true,true,true,true,true,true,true,false] Z Z<|.fA Z Fx.field83_2<|.nx<|.an 8 [] (by kernel_rfl) ⟨?_,Jt⟩
         exact .ao #[true,true,true,true,true,true,true,true,true] Z Z<|.st .head Z Z Fx.size2 Z (nb Z) Z<|.nx<|.ae (by kernel_rfl)<|.tN<|.me (x.ct.toNat % 4,wordR x.nm,x.n) ⟨Z,Jt⟩ ⟨Z,Z,Z,Z,Jt⟩ (λ_ s=>s) ⟨by dsimp only;omega,by dsimp only;first | exact word_len _ | exact hnm⟩
        refine .ao #[true,true,true,true,false,true,true,false,false] Z Z<|.st .head Z Z Fx.size9 Z (nb Z) Z<|.nx<|.an 4 [] (by kernel_rfl) ⟨?_,Jt⟩
        refine .ao #[true,true,true,true,true,true,true,false,false] Z Z<|.lD Z Fx.agg2 mem1 Z<|.nx<|.an 7 [] (by kernel_rfl) ⟨?_,Jt⟩
        refine .ao #[true,true,true,true,true,true,true,true,false] Z Z<|.fA Z Fx.field83_2<|.nx<|.an 8 [] (by kernel_rfl) ⟨?_,Jt⟩
        exact .ao #[true,true,true,true,true,true,true,true,true] Z Z<|.st .head Z Z Fx.size2 Z (nb Z) Z<|.nx<|.ae (by kernel_rfl)<|.tN<|.me (x.ct.toNat % 4,wordR x.nm,x.n) ⟨Z,Jt⟩ ⟨Z,Z,Z,Z,Jt⟩ (λ_ s=>s) ⟨by dsimp only;omega,by dsimp only;first | exact word_len _ | exact hnm⟩
       refine .ao #[true,true,false,true,true,false,false,false,false] Z Z<|.lD Z Fx.agg2 mem1 Z<|.nx<|.an 2 [] (by kernel_rfl) ⟨?_,Jt⟩
       refine .ao #[true,true,true,true,true,false,false,false,false] Z Z<|.yw (.call Fx.call128 Z (λW s=>word_any H x.nm W s.agr))<|.nx<|.an 5 [] (by kernel_rfl) ⟨?_,Jt⟩
       refine .ao #[true,true,true,true,true,true,false,false,false] Z Z<|.fA Z Fx.field83_1<|.nx<|.an 6 [] (by kernel_rfl) ⟨?_,Jt⟩
       refine .ao #[true,true,true,true,true,true,true,false,false] Z Z<|.st .head Z Z Fx.size9 Z (nb Z) Z<|.nx<|.an 7 [] (by kernel_rfl) ⟨?_,Jt⟩
       refine .ao #[true,true,true,true,true,true,true,true,false] Z Z<|.fA Z Fx.field83_2<|.nx<|.an 8 [] (by kernel_rfl) ⟨?_,Jt⟩
       exact .ao #[true,true,true,true,true,true,true,true,true] Z Z<|.st .head Z Z Fx.size2 Z (nb Z) Z<|.nx<|.ae (by kernel_rfl)<|.tN<|.me (x.ct.toNat % 4,wordR x.nm,x.n) ⟨Z,Jt⟩ ⟨Z,Z,Z,Z,Jt⟩ (λ_ s=>s) ⟨by dsimp only;omega,by dsimp only;first | exact word_len _ | exact hnm⟩
      refine .ao #[true,false,false,true,true,false,false,false,false] Z Z<|.lD Z Fx.agg2 mem1 Z<|.nx<|.an 1 [] (by kernel_rfl) ⟨?_,Jt⟩
      refine .ao #[true,true,false,true,true,false,false,false,false] Z Z<|.lD Z Fx.agg5 mem1 Z<|.nx<|.an 2 [] (by kernel_rfl) ⟨?_,Jt⟩
      refine .ao #[true,true,true,true,true,false,false,false,false] Z Z<|.yw (.call Fx.call128 Z (λW s=>word_any H x.nm W s.agr))<|.nx<|.an 5 [] (by kernel_rfl) ⟨?_,Jt⟩
      refine .ao #[true,true,true,true,true,true,false,false,false] Z Z<|.fA Z Fx.field83_1<|.nx<|.an 6 [] (by kernel_rfl) ⟨?_,Jt⟩
      refine .ao #[true,true,true,true,true,true,true,false,false] Z Z<|.st .head Z Z Fx.size9 Z (nb Z) Z<|.nx<|.an 7 [] (by kernel_rfl) ⟨?_,Jt⟩
      refine .ao #[true,true,true,true,true,true,true,true,false] Z Z<|.fA Z Fx.field83_2<|.nx<|.an 8 [] (by kernel_rfl) ⟨?_,Jt⟩
      exact .ao #[true,true,true,true,true,true,true,true,true] Z Z<|.st .head Z Z Fx.size2 Z (nb Z) Z<|.nx<|.ae (by kernel_rfl)<|.tN<|.me (x.ct.toNat % 4,wordR x.nm,x.n) ⟨Z,Jt⟩ ⟨Z,Z,Z,Z,Jt⟩ (λ_ s=>s) ⟨by dsimp only;omega,by dsimp only;first | exact word_len _ | exact hnm⟩
     refine .ao #[false,false,false,true,true,false,false,false,false] Z Z<|.lD Z Fx.agg2 mem1 Z<|.nx<|.an 0 [] (by kernel_rfl) ⟨?_,Jt⟩
     refine .ao #[true,false,false,true,true,false,false,false,false] Z Z<|.fA Z Fx.field240_1<|.nx<|.an 1 [] (by kernel_rfl) ⟨?_,Jt⟩
     refine .ao #[true,true,false,true,true,false,false,false,false] Z Z<|.lD Z Fx.agg5 mem1 Z<|.nx<|.an 2 [] (by kernel_rfl) ⟨?_,Jt⟩
     refine .ao #[true,true,true,true,true,false,false,false,false] Z Z<|.yw (.call Fx.call128 Z (λW s=>word_any H x.nm W s.agr))<|.nx<|.an 5 [] (by kernel_rfl) ⟨?_,Jt⟩
     refine .ao #[true,true,true,true,true,true,false,false,false] Z Z<|.fA Z Fx.field83_1<|.nx<|.an 6 [] (by kernel_rfl) ⟨?_,Jt⟩
     refine .ao #[true,true,true,true,true,true,true,false,false] Z Z<|.st .head Z Z Fx.size9 Z (nb Z) Z<|.nx<|.an 7 [] (by kernel_rfl) ⟨?_,Jt⟩
     refine .ao #[true,true,true,true,true,true,true,true,false] Z Z<|.fA Z Fx.field83_2<|.nx<|.an 8 [] (by kernel_rfl) ⟨?_,Jt⟩
     exact .ao #[true,true,true,true,true,true,true,true,true] Z Z<|.st .head Z Z Fx.size2 Z (nb Z) Z<|.nx<|.ae (by kernel_rfl)<|.tN<|.me (x.ct.toNat % 4,wordR x.nm,x.n) ⟨Z,Jt⟩ ⟨Z,Z,Z,Z,Jt⟩ (λ_ s=>s) ⟨by dsimp only;omega,by dsimp only;first | exact word_len _ | exact hnm⟩
    exact .sk<|.tN<|.me (x.ct.toNat % 4,nm,nn) ⟨Z,Jt⟩ ⟨Z,Z,Z,Z,Jt⟩ (λ_ s=>s) ⟨by dsimp only;omega,by dsimp only;first | exact word_len _ | exact hnm⟩
   exact .sk<|.tN<|.me (m0,nm,nn) ⟨Z,Jt⟩ ⟨Z,Z,Z,Z,Jt⟩ (λ_ s=>s) ⟨by dsimp only;omega,by dsimp only;first | exact word_len _ | exact hnm⟩
  obtain ⟨m,nm,nn⟩:=z;dsimp only at hC|-;obtain ⟨hm3,hnm⟩:=hC;refine Sx.row0 83 4 ?_;refine .sq<|.sr<|.aq Z<|.bk<|.lp (X:=Nat × Hp × Value × List Value × Value) [(1,_),(4,_),(7,_),(8,_)] ⟨Z,Z,Z,Z,Jt⟩ [_,_] (λz=>[(9,iN z.1),(0,z.2.2.2.2)]) (λz=>z.2.1) (λz=>[.row 83 4 z.2.2.1 z.1 z.2.2.2.1,.box b7 [.int .i64 op.toNat,strV nm,.int .i64 (nn).toInt,z.2.2.1] 83]) (λz=>z.1<=m/\HUp w H z.2.1/\∃ (es:List Ex) (rest:List Nd),es.length=z.1/\RepZ z.2.1 4 (es.map (dEx .i64)) z.2.2.2.1/\goodEs d es/\Ex.alls n13 es=true/\Ex.counts es+3 * rest.length+3<=3 * l.length+es.length/\Rep z.2.1 (.seq 5 (rest.map dNd)) [z.2.2.2.2]) (λz=>m - z.1) (0,H,.slice none 0 0,[],_) (λ_ s=>s) ⟨Z,Z,Jt⟩ ⟨by simp,.refl,[],l.drop 1,Z,RepZ.nil,goodEs_nil d,Z,(by rw [Ex.counts,Al_List_length_drop,Al_List_length_nil];omega),(by have h5:=rep_drop h (lo:=1) (by omega);rw [<-Al_List_map_drop] at h5;exact h5)⟩ λz hC=>?_
  obtain ⟨k,H1,r,xs,rv⟩:=z;dsimp only at hC|-;obtain ⟨hk0,u1,es,rest,hlen,hz,hgs,h13,hcn,hrs⟩:=hC;refine .sq<|.sm Z<|.mv Z<|.yw (.lss Z Z)<|.nt<|.ce Z (λh72=>?_) (λh72=>?_)
  ·have hk:k<m:=by omega
   refine .sk<|.tN<|.sq<|.bk<|.sm Z<|.mv Z<|.yw (.add Z Z w7)<|.ct (X:=List Value × Value) Fx.call169 Z (λW s=>ih (f - 1) (by omega) (d+1) (by omega) H1 _ _ W hrs s.agr) Z λy2 H2 hc2 u2=>?_
   obtain ⟨x2,y2⟩:=y2;obtain ⟨x2e,rest2,hc2,hg2,h132,hcn2,hrs2⟩:=hc2;dsimp only at hc2 hrs2|-;obtain ⟨op2,nm2,n2,args2⟩:=x2e;obtain ⟨p2,c2,rfl,hs2,hnm2⟩:=ex_open hc2;refine .mv Z<|.yw (.extract Z Z)<|.yw (.extract Z Z)<|.al Fx.zero83 Z λb10=>.sW .head Z Z Fx.size83 (by simp [Value.oneCell',strV,cNd]) Z<|.aq Z<|.rg<|.fA Z Fx.field83_3<|.lD Z Fx.agg24 mem2 Z<|.yw (.loadW Z Fx.agg83 Hm Z)<|.bl Z (Fx.bsl24_1 _ _ _ _) Z λb85=>.ap (news:=[.int .i64 op2.toNat,strV nm2,.int .i64 n2.toInt,.slice p2 args2.length c2]) Fx.row24 Z (λ_=>upd2) Z (.box Hm z0) Z (by simp [Value.oneCell',strV]) (by simp [maxLen];omega) (by omega) Z λr86 _=>?_
   refine At.ra (by first | exact .tail _ (.tail _ Hm) | exact .tail _ (.tail _ (.tail _ Hm))) λp86 c86 e86=>?_;exact .mv Z<|.fA Z Fx.field83_3<|.st upd3 Z Z Fx.size24 (by rw [e86];rfl) (nb Z) Z<|.a Z Z<|.nl<|.bN<|.tN<|.rg<|.mv Z<|.yw (.add Z Z w7)<|.aq Z<|.ag (x:=(k,H1,r,xs,rv)) (k+1,H2,r86,xs++[.int .i64 op2.toNat,strV nm2,.int .i64 n2.toInt,.slice p2 args2.length c2],y2) ⟨Z,Z,Jt⟩ ⟨Z,Z,Z,Z,Jt⟩ (λ_ s=>(s.pick [2,3,4,5] _ Z Z)) ⟨by dsimp only;omega,u1.trans u2,es++[.mk op2 nm2 n2 args2],rest2,by simp;omega,by rw [Al_List_map_append];exact (hz.up u2.up).snoc hc2 Z,goodEs_snoc hgs hg2,(by rw [alls_app,h13,Ex.alls,h132];rfl),(by rw [ex_counts_app,Ex.counts,Ex.counts,Al_List_length_append];simp only [Al_List_length_cons,Al_List_length_nil];omega),hrs2⟩ (by dsimp only;omega)
  obtain rfl:k=m:=by omega
  refine At.ra Hm λp86 c86 e86=>?_;subst e86;refine .ex<|.eb<|.sr<|.yw (.loadW Z Fx.agg83 mem1 Z)<|.mv Z<|.sW upd3 Z Z Fx.size83 (by simp [Value.oneCell',strV,cNd]) Z<|.az Z<|?_
  refine At.pm [0,3] [_,_] rfl rfl ?_;refine freezeSeq (ds:=es.map (dEx .i64)) (by simp;omega) hz λH3 p3 c3 u3 hr3 hs3=>?_;refine y7 Z (.cons (.cell Z Fx.agg83 Hm rfl) (.cons (.tmp Z) .nil)) rfl λW s=>⟨(_,_),H3,⟨_,rest,ex_shut (by omega) hs3,?_,?_,?_,hrs.up u3.up⟩,Z,(u1.trans u3).grow s⟩
  ·rw [goodE_mk];exact ⟨by omega,hgs⟩
  ·rw [all_mk,h13,Al_Bool_and_true];exact Al_decide_eq_true hnm
  ·rw [ex_count];omega
def BuiltX (x:List Value) (H':Hp):Prop:=∃ e:Ex,Rep H' (dEx .i64 e) x/\goodE 1 e/\Ex.all n13 e=true/\e.count<=181
variable {H:Hp}
theorem ex_len7 {k:IntKind} {e:Ex} {cs:List Value} (h:Rep H (dEx k e) cs):cs.length=4:=by
 obtain ⟨op,nm,n,args⟩:=e;obtain ⟨_,_,rfl,_,_⟩:=ex_open h
 rfl
theorem buildX_any (H:Hp) (l:List Nd) (v:Value) (h0:Rep H (.seq 5 (l.map dNd)) [v]) (w:World) (hA:Agr H w) :
 Calls prg 130 #[v] w λr w'=>∃ (x:List Value) (H':Hp),BuiltX x H'/\r=.returned (.agg x.toArray)/\Grow H w H' w':=by
 obtain ⟨p,c,e,_⟩:=h0.sl;simp only [Al_List_cons_injEq,Al_and_true,Al_List_length_map] at e;subst e;have h:=h0;have hcap:=h.cap;refine Sx.enter (H:=H) func130 rfl ntmps130 rfl hA ?_;refine .sr<|.al Fx.zero83 Z λb2=>.ns<|.mv Z<|.mv Z<|.yw (.lenSl Fx.sl149 Z)<|.yw (.min2 Z Z (c:=((min l.length 60:Nat):Int)) (by omega))<|.yw (.cutHi2 Fx.sl149 Z Z (h:=min l.length 60) Z (by have:=h.len.2.1;omega))<|.ct (X:=List Value × Value) Fx.call169 Z (λW s=>buildC_any 30 1 Z H (l.take (min l.length 60)) _ W (by rw [Al_List_map_take];exact rep_take2 h (by omega)) s.agr) Z λy H1 hc u1=>?_
 obtain ⟨x,y⟩:=y;obtain ⟨e,rest,hx,hg,h13,hcn,_⟩:=hc;dsimp only at hx;rw [Al_List_length_take] at hcn;refine .mv Z<|.yw (.extract Z Z)<|.yw (.extract Z Z)<|.al Fx.zero83 Z λb3=>.sV .head Z Z Fx.size83 (ex_len7 hx) hx.one Z<|.a Z Z<|.ns<|.yw (.loadW Z Fx.agg83 Hm (ex_len7 hx))<|.sV upd1 Z Z Fx.size83 (ex_len7 hx) hx.one Z<|.nt<|.rt<|?_
 exact y8 Z (.cell Z Fx.agg83 mem1 (ex_len7 hx)) λW t=>⟨x,H1,⟨e,hx,hg,h13,by omega⟩,Z,u1.grow t⟩
structure Nf where
 op:UInt8
 nm:UInt8
 fd:UInt8
 ct:UInt8
 odd:Bool
 a:Int64
 b:Int64
 ts:List Nd
def dNf (x:Nf):D:=.str [.val (.int .u8 x.op.toNat),.val (.int .u8 x.nm.toNat),.val (.int .u8 x.fd.toNat),.val (.int .u8 x.ct.toNat),.val (.bool x.odd),.val (.int .i64 x.a.toInt),.val (.int .i64 x.b.toInt),.seq 5 (x.ts.map dNd)]
def cNf (x:Nf) (s:Value):List Value:=[.int .u8 x.op.toNat,.int .u8 x.nm.toNat,.int .u8 x.fd.toNat,.int .u8 x.ct.toNat,.bool x.odd,.int .i64 x.a.toInt,.int .i64 x.b.toInt,s]
theorem nf_open {x:Nf} {cs:List Value} (h:Rep H (dNf x) cs):∃ p c,cs=cNf x (.slice p x.ts.length c)/\Rep H (.seq 5 (x.ts.map dNd)) [.slice p x.ts.length c]:=by
 rw [dNf,repS] at h;obtain ⟨_,rfl,_,_,h⟩:=repL_val.1 h;obtain ⟨_,rfl,_,_,h⟩:=repL_val.1 h;obtain ⟨_,rfl,_,_,h⟩:=repL_val.1 h;obtain ⟨_,rfl,_,_,h⟩:=repL_val.1 h;obtain ⟨_,rfl,_,_,h⟩:=repL_val.1 h;obtain ⟨_,rfl,_,_,h⟩:=repL_val.1 h;obtain ⟨_,rfl,_,_,h⟩:=repL_val.1 h;obtain ⟨p,c,_,rfl,hs,h⟩:=repL_seq.1 h;rw [repL_nil] at h;subst h;rw [Al_List_length_map] at hs;exact ⟨p,c,by rw [Al_List_length_map];rfl,hs⟩
def pr1 (op:UInt8):UInt8:=if op=7\/op=10 then 9 else op
def pr2 (op:UInt8):UInt8:=if op=2\/op=3 then 4 else op
def pr3 (op:UInt8):UInt8:=if 16<=op.toNat then UInt8.ofNat (11+op.toNat % 5) else op
def prO (op:UInt8):UInt8:=pr3 (pr2 (pr1 op))
def prM (op:UInt8) (nm:Str):Str:=if op=7\/op=10 then [] else nm
def prN (op:UInt8) (nm:Str):Str:=if op=6\/op=8\/(op=5/\nm.length % 2=0) then [99,46]++nm else nm
mutual
def prE:Ex->Ex
 | .mk op nm n args=>.mk (prO op) (prN (prO op) (prM op nm)) n (prEs args)
def prEs:List Ex->List Ex
 | []=>[]
 | e::r=>prE e::prEs r
end
theorem prEs_map:∀ l,prEs l=l.map prE
 | []=>rfl
 | e::r=>by rw [prEs,prEs_map r];rfl
theorem prE_mk (op:UInt8) (nm:Str) (n:Int64) (args:List Ex):prE (.mk op nm n args)=.mk (prO op) (prN (prO op) (prM op nm)) n (args.map prE):=by rw [prE,prEs_map]
theorem prM_len (op:UInt8) (nm:Str):(prM op nm).length<=nm.length:=by
 unfold prM
 split
 ·exact Al_Nat_zero_le _
 ·exact Al_Nat_le_refl _
theorem prN_len (op:UInt8) (nm:Str):(prN op nm).length<=nm.length+2:=by
 unfold prN
 split
 ·rw [Al_List_length_append];show 2+_<=_;omega
 ·omega
theorem prE_count (e:Ex):(prE e).count=e.count:=by
 induction e using Ex.ind with | _ op nm n args ih
 rw [prE_mk,ex_count,ex_count]
 congr 1
 induction args with
 | nil=>rfl
 | cons a r ih2=>rw [Al_List_map_cons,Ex.counts,Ex.counts,ih a (Al_List_mem_cons_self ..),ih2 λx hx=>ih x (Al_List_mem_cons_of_mem _ hx)]
theorem prE_depth (e:Ex):(prE e).depth=e.depth:=by
 induction e using Ex.ind with | _ op nm n args ih
 rw [prE_mk,depth_mk,depth_mk]
 congr 1
 induction args with
 | nil=>rfl
 | cons a r ih2=>rw [Al_List_map_cons,Ex.deeps,Ex.deeps,ih a (Al_List_mem_cons_self ..),ih2 λx hx=>ih x (Al_List_mem_cons_of_mem _ hx)]
theorem prE_narrow (e:Ex):Ex.all narrow (prE e)=Ex.all narrow e:=by
 induction e using Ex.ind with | _ op nm n args ih
 rw [prE_mk,all_mk,all_mk,narrow_mk,narrow_mk,Al_List_length_map,alls_allE,alls_allE]
 congr 1
 rw [Al_Bool_eq_iff_iff,Al_List_all_eq_true,Al_List_all_eq_true]
 constructor
 ·intro h x hx;rw [<-ih x hx];exact h _ (Al_List_mem_map.2 ⟨x,hx,Z⟩)
 ·intro h x hx;obtain ⟨y,hy,rfl⟩:=Al_List_mem_map.1 hx;rw [ih y hy];exact h y hy
def gdE (e:Ex):Bool:=decide (e.depth<=34) && Ex.all narrow e
def gdN (f:Fm):Bool:=decide (f.op.toNat<=18) && decide (f.ex.length<=4) && decide (f.args.length<=3) && f.ex.all gdE
def gdF (f:Fm):Bool:=Fm.all gdN f
theorem gdF_mk {op:UInt8} {nm fd:Str} {a b:Int64} {ex:List Ex} {args:List Fm} :gdF (.mk op nm fd a b ex args)=true↔(op.toNat<=18/\ex.length<=4/\args.length<=3/\∀ e∈ex,gdE e=true)/\∀ g∈args,gdF g=true:=by
 unfold gdF;rw [fm_allL,Al_Bool_and_eq_true,Al_List_all_eq_true];unfold gdN;rw [Al_Bool_and_eq_true,Al_Bool_and_eq_true,Al_Bool_and_eq_true,Al_decide_eq_true_eq,Al_decide_eq_true_eq,Al_decide_eq_true_eq,Al_List_all_eq_true];exact ⟨λh=>⟨⟨h.1.1.1.1,h.1.1.1.2,h.1.1.2,h.1.2⟩,h.2⟩,λh=>⟨⟨⟨⟨h.1.1,h.1.2.1⟩,h.1.2.2.1⟩,h.1.2.2.2⟩,h.2⟩⟩
theorem ex_is (e:Ex):∃ o m n a,e=.mk o m n a:=by
 obtain ⟨o,m,n,a⟩:=e;exact ⟨o,m,n,a,Z⟩
variable {m:Str}
theorem pr1a {o:UInt8} (h:((o.toNat:Nat):Int)=7):((9:UInt8),([]:Str))=(pr1 o,prM o m):=by unfold pr1 prM;rw [Al_if_pos (.inl (Al_UInt8_toNat_inj.1 (by show o.toNat=7;omega):o=7)),Al_if_pos (.inl (Al_UInt8_toNat_inj.1 (by show o.toNat=7;omega):o=7))]
theorem pr1b {o:UInt8} (h:((o.toNat:Nat):Int)=10):((9:UInt8),([]:Str))=(pr1 o,prM o m):=by unfold pr1 prM;rw [Al_if_pos (.inr (Al_UInt8_toNat_inj.1 (by show o.toNat=10;omega):o=10)),Al_if_pos (.inr (Al_UInt8_toNat_inj.1 (by show o.toNat=10;omega):o=10))]
theorem pr1f {o:UInt8} (h:¬ ((o.toNat:Nat):Int)=7) (k:¬ ((o.toNat:Nat):Int)=10):(o,m)=(pr1 o,prM o m):=by unfold pr1 prM;rw [Al_if_neg (Al_not_or.2 ⟨(λe:o=7=>h (by rw [e];rfl)),(λe:o=10=>k (by rw [e];rfl))⟩),Al_if_neg (Al_not_or.2 ⟨(λe:o=7=>h (by rw [e];rfl)),(λe:o=10=>k (by rw [e];rfl))⟩)]
theorem pr2a {o:UInt8} (h:((o.toNat:Nat):Int)=2):((4:UInt8),m)=(pr2 o,m):=by unfold pr2;rw [Al_if_pos (.inl (Al_UInt8_toNat_inj.1 (by show o.toNat=2;omega):o=2))]
theorem pr2b {o:UInt8} (h:((o.toNat:Nat):Int)=3):((4:UInt8),m)=(pr2 o,m):=by unfold pr2;rw [Al_if_pos (.inr (Al_UInt8_toNat_inj.1 (by show o.toNat=3;omega):o=3))]
theorem pr2f {o:UInt8} (h:¬ ((o.toNat:Nat):Int)=2) (k:¬ ((o.toNat:Nat):Int)=3):(o,m)=(pr2 o,m):=by unfold pr2;rw [Al_if_neg (Al_not_or.2 ⟨(λe:o=2=>h (by rw [e];rfl)),(λe:o=3=>k (by rw [e];rfl))⟩)]
theorem pr3t {op:UInt8} (h:(16:Int)<=(((pr2 (pr1 op)).toNat:Nat):Int)):(UInt8.ofNat (11+(pr2 (pr1 op)).toNat % 5),m)=(prO op,m):=by unfold prO pr3;rw [Al_if_pos (by omega)]
theorem pr3f {op:UInt8} (h:¬ (16:Int)<=(((pr2 (pr1 op)).toNat:Nat):Int)):(pr2 (pr1 op),m)=(prO op,m):=by unfold prO pr3;rw [Al_if_neg (by omega)]
theorem pr4a {o:UInt8} (h:((o.toNat:Nat):Int)=6):(o,([99,46]:Str)++m)=(o,prN o m):=by unfold prN;rw [Al_if_pos (.inl (Al_UInt8_toNat_inj.1 (by show o.toNat=6;omega):o=6))]
theorem pr4b {o:UInt8} (h:((o.toNat:Nat):Int)=8):(o,([99,46]:Str)++m)=(o,prN o m):=by unfold prN;rw [Al_if_pos (.inr (.inl (Al_UInt8_toNat_inj.1 (by show o.toNat=8;omega):o=8)))]
theorem pr4c {o:UInt8} (h:((o.toNat:Nat):Int)=5) (k:((m.length % 2:Nat):Int)=0):(o,([99,46]:Str)++m)=(o,prN o m):=by unfold prN;rw [Al_if_pos (.inr (.inr ⟨(Al_UInt8_toNat_inj.1 (by show o.toNat=5;omega):o=5),by omega⟩))]
theorem pr4f {o:UInt8} (h:¬ ((o.toNat:Nat):Int)=6) (h8:¬ ((o.toNat:Nat):Int)=8) (k:¬ ((m.length % 2:Nat):Int)=0):(o,m)=(o,prN o m):=by unfold prN;rw [Al_if_neg (by rintro (e | e | e);exact h (by rw [e];rfl);exact h8 (by rw [e];rfl);omega)]
theorem pr4g {o:UInt8} (h:¬ ((o.toNat:Nat):Int)=6) (h8:¬ ((o.toNat:Nat):Int)=8) (k:¬ ((o.toNat:Nat):Int)=5):(o,m)=(o,prN o m):=by unfold prN;rw [Al_if_neg (by rintro (e | e | e);exact h (by rw [e];rfl);exact h8 (by rw [e];rfl);exact k (by rw [e.1];rfl))]
theorem pr_add (n:Nat):IntKind.i64.wrap (11+((n % 5:Nat):Int))=(((UInt8.ofNat (11+n % 5)).toNat:Nat):Int):=by
 rw [Al_UInt8_toNat_ofNat_of_lt' (by show 11+n % 5<256;omega)];exact (w6 (by omega)).trans (by omega)
def PairsOf (e:Ex):Prop:=Ex.all n13 e=true->Ex.all narrow e=true->∀ (H:Hp) (cs:List Value) (w:World),Rep H (dEx .i64 e) cs->Agr H w ->
 Calls prg 129 #[.agg cs.toArray] w λr w'=>∃ x H',Rep H' (dEx .i64 (prE e)) x/\r=.returned (.agg x.toArray)/\Grow H w H' w'
theorem pairs_any (e:Ex):PairsOf e:=by
 induction e using Ex.ind with | _ op nm nn args ih
 intro hn hw H cs w h hA;rw [all_mk,Al_Bool_and_eq_true] at hn hw;have hn3:args.length<=3:=Al_of_decide_eq_true hw.1;have hn13:nm.length<=13:=Al_of_decide_eq_true hn.1;have hpm:=prM_len op nm;have hpn:=prN_len (prO op) (prM op nm);obtain ⟨p,c,rfl,hs,hnm⟩:=ex_open h;have hcap:=hs.cap;refine Sx.enter (H:=H) func129 rfl ntmps129 rfl hA ?_;refine .sr<|.bx Z Z Z λb1=>.al Fx.zero83 Z λb2=>.nt<|.cu (X:=UInt8 × Str) [(1,_),(2,_)] ⟨Z,Z,Jt⟩ (λz=>[]) (λz=>H) (λz=>[.box b1 [.int .i64 (z.1).toNat,strV (z.2),.int .i64 nn.toInt,.slice p args.length c] 83,.box b2 [.int .i64 0,.string ⟨#[]⟩,.int .i64 0,.slice none 0 0] 83]) (λz=>z=(pr1 op,prM op nm)) ?_ λz hC=>?_
 ·
  refine .sr<|.fA Z Fx.field83_0<|.lD Z Fx.agg3 mem1 Z<|.yw (.eql Z Z)<|.mv Z<|.e2 (λh9=>?_) (λh9=>?_)
  ·exact .gG<|.gG<|.gG<|.yw (.pickT Z Z)<|.nt<|.cT Z<|.sr<|.fA Z Fx.field83_0<|.st upd1 Z Z Fx.size3 Z (nb Z) Z<|.nt<|.rg<|.fA Z Fx.field83_1<|.st upd1 Z Z Fx.size9 Z (nb Z) Z<|.nt<|.me (9,([]:Str)) trivial ⟨Z,Z,Jt⟩ (λ_ s=>s.pick [1,0] [_,_] Z Z) (pr1a h9)
  refine .gy (.fieldAddr Z Fx.field83_0)<|.gy (.load Z Fx.agg3 mem1 Z)<|.gy (.eql Z Z)<|.yw (.pickF Z Z)<|.nt<|.ce Z (λh13=>?_) (λh13=>?_)
  ·exact .sr<|.fA Z Fx.field83_0<|.st upd1 Z Z Fx.size3 Z (nb Z) Z<|.nt<|.rg<|.fA Z Fx.field83_1<|.st upd1 Z Z Fx.size9 Z (nb Z) Z<|.nt<|.me (9,([]:Str)) trivial ⟨Z,Z,Jt⟩ (λ_ s=>s.pick [1,0] [_,_] Z Z) (pr1b h13)
  exact .sk<|.tN<|.me (op,nm) trivial ⟨Z,Z,Jt⟩ (λ_ s=>s.pick [1,0] [_,_] Z Z) (pr1f h9 h13)
 subst hC;dsimp only;refine .cu (X:=UInt8 × Str) [(1,_),(2,_)] ⟨Z,Z,Jt⟩ (λz=>[]) (λz=>H) (λz=>[.box b1 [.int .i64 (z.1).toNat,strV (z.2),.int .i64 nn.toInt,.slice p args.length c] 83,.box b2 [.int .i64 0,.string ⟨#[]⟩,.int .i64 0,.slice none 0 0] 83]) (λz=>z=(pr2 (pr1 op),prM op nm)) ?_ λz hC=>?_
 ·
  refine .sr<|.fA Z Fx.field83_0<|.lD Z Fx.agg3 Hm Z<|.yw (.eql Z Z)<|.mv Z<|.e2 (λh19=>?_) (λh19=>?_)
  ·exact .gG<|.gG<|.gG<|.yw (.pickT Z Z)<|.nt<|.cT Z<|.rg<|.fA Z Fx.field83_0<|.st .head Z Z Fx.size3 Z (nb Z) Z<|.nt<|.me (4,prM op nm) trivial ⟨Z,Z,Jt⟩ (λ_ s=>s) (pr2a h19)
  refine .gy (.fieldAddr Z Fx.field83_0)<|.gy (.load Z Fx.agg3 Hm Z)<|.gy (.eql Z Z)<|.yw (.pickF Z Z)<|.nt<|.ce Z (λh23=>?_) (λh23=>?_)
  ·exact .rg<|.fA Z Fx.field83_0<|.st .head Z Z Fx.size3 Z (nb Z) Z<|.nt<|.me (4,prM op nm) trivial ⟨Z,Z,Jt⟩ (λ_ s=>s) (pr2b h23)
  exact .sk<|.tN<|.me (pr1 op,prM op nm) trivial ⟨Z,Z,Jt⟩ (λ_ s=>s) (pr2f h19 h23)
 subst hC;dsimp only;refine .cu (X:=UInt8 × Str) [(1,_),(2,_)] ⟨Z,Z,Jt⟩ (λz=>[]) (λz=>H) (λz=>[.box b1 [.int .i64 (z.1).toNat,strV (z.2),.int .i64 nn.toInt,.slice p args.length c] 83,.box b2 [.int .i64 0,.string ⟨#[]⟩,.int .i64 0,.slice none 0 0] 83]) (λz=>z=(prO op,prM op nm)) ?_ λz hC=>?_
 ·
  refine .sr<|.fA Z Fx.field83_0<|.lD Z Fx.agg3 Hm Z<|.yw (.geq Z Z)<|.nt<|.ce Z (λh27=>?_) (λh27=>?_)
  ·exact .rg<|.fA Z Fx.field83_0<|.lD Z Fx.agg3 Hm Z<|.yw (.rem Z Z (by decide) (c:=(((pr2 (pr1 op)).toNat % 5:Nat):Int)) (by rw [Al_Int_tmod_eq_emod_of_nonneg (by omega)];omega))<|.yw (.add Z Z (c:=(((UInt8.ofNat (11+(pr2 (pr1 op)).toNat % 5)).toNat:Nat):Int)) (pr_add _))<|.fA Z Fx.field83_0<|.st .head Z Z Fx.size3 Z (nb Z) Z<|.nt<|.me (UInt8.ofNat (11+(pr2 (pr1 op)).toNat % 5),prM op nm) trivial ⟨Z,Z,Jt⟩ (λ_ s=>s) (pr3t h27)
  exact .sk<|.tN<|.me (pr2 (pr1 op),prM op nm) trivial ⟨Z,Z,Jt⟩ (λ_ s=>s) (pr3f h27)
 subst hC;dsimp only;refine .cu (X:=UInt8 × Str) [(1,_),(2,_)] ⟨Z,Z,Jt⟩ (λz=>[]) (λz=>H) (λz=>[.box b1 [.int .i64 (z.1).toNat,strV (z.2),.int .i64 nn.toInt,.slice p args.length c] 83,.box b2 [.int .i64 0,.string ⟨#[]⟩,.int .i64 0,.slice none 0 0] 83]) (λz=>z=(prO op,prN (prO op) (prM op nm))) ?_ λz hC=>?_
 ·
  refine .sr<|.fA Z Fx.field83_0<|.lD Z Fx.agg3 Hm Z<|.yw (.eql Z Z)<|.mv Z<|.e2 (λh36=>?_) (λh36=>?_)
  ·exact .gG<|.gG<|.gG<|.yw (.pickT Z Z)<|.mv Z<|.gG<|.gG<|.gG<|.gG<|.gV<|.gV<|.gV<|.gV<|.gV<|.gG<|.yw (.pickT Z Z)<|.nt<|.cT Z<|.rg<|.fA Z Fx.field83_1<|.lD Z Fx.agg9 Hm Z<|.yw (.app Z Z (by simp only [Al_List_length_cons,Al_List_length_nil];omega))<|.fA Z Fx.field83_1<|.st .head Z Z Fx.size9 Z (nb Z) Z<|.nt<|.me (prO op,([99,46]:Str)++prM op nm) trivial ⟨Z,Z,Jt⟩ (λ_ s=>s) (pr4a h36)
  refine .gy (.fieldAddr Z Fx.field83_0)<|.gy (.load Z Fx.agg3 Hm Z)<|.gy (.eql Z Z)<|.yw (.pickF Z Z)<|.mv Z<|.e2 (λh41=>?_) (λh41=>?_)
  ·exact .gG<|.gG<|.gG<|.gG<|.gV<|.gV<|.gV<|.gV<|.gV<|.gG<|.yw (.pickT Z Z)<|.nt<|.cT Z<|.rg<|.fA Z Fx.field83_1<|.lD Z Fx.agg9 Hm Z<|.yw (.app Z Z (by simp only [Al_List_length_cons,Al_List_length_nil];omega))<|.fA Z Fx.field83_1<|.st .head Z Z Fx.size9 Z (nb Z) Z<|.nt<|.me (prO op,([99,46]:Str)++prM op nm) trivial ⟨Z,Z,Jt⟩ (λ_ s=>s) (pr4b h41)
  refine .gy (.fieldAddr Z Fx.field83_0)<|.gy (.load Z Fx.agg3 Hm Z)<|.gy (.eql Z Z)<|.gy (.move Z)<|.e2 (λh45=>?_) (λh45=>?_)
  ·refine .gy (.fieldAddr Z Fx.field83_1)<|.gy (.load Z Fx.agg9 Hm Z)<|.gy (.lenS Fx.str9 Z)<|.gy (.rem Z Z (by decide) (c:=(((prM op nm).length % 2:Nat):Int)) (by rw [Al_Int_tmod_eq_emod_of_nonneg (by omega)];omega))<|.gy (.eql Z Z)<|.gy (.pickT Z Z)<|.yw (.pickF Z Z)<|.nt<|.ce Z (λh52=>?_) (λh52=>?_)
   ·exact .rg<|.fA Z Fx.field83_1<|.lD Z Fx.agg9 Hm Z<|.yw (.app Z Z (by simp only [Al_List_length_cons,Al_List_length_nil];omega))<|.fA Z Fx.field83_1<|.st .head Z Z Fx.size9 Z (nb Z) Z<|.nt<|.me (prO op,([99,46]:Str)++prM op nm) trivial ⟨Z,Z,Jt⟩ (λ_ s=>s) (pr4c h45 h52)
   exact .sk<|.tN<|.me (prO op,prM op nm) trivial ⟨Z,Z,Jt⟩ (λ_ s=>s) (pr4f h36 h41 h52)
  exact .gG<|.gG<|.gG<|.gG<|.gG<|.gy (.pickF Z Z)<|.yw (.pickF Z Z)<|.nt<|.cF Z<|.sk<|.tN<|.me (prO op,prM op nm) trivial ⟨Z,Z,Jt⟩ (λ_ s=>s) (pr4g h36 h41 h45)
 subst hC;dsimp only;refine .sr<|.aq Z<|.sq<|.sq<|?_
 refine Sx.row0 83 4 ?_;refine .rg<|.fA Z Fx.field83_3<|.lD Z Fx.agg24 mem1 Z<|.yw (.lenSl Fx.sl24 Z)<|.mv Z<|.nt<|.bk<|.lp (X:=Nat × Hp × Value × List Value) [(1,_),(2,_),(58,_),(59,_)] ⟨Z,Z,Z,Z,Jt⟩ [_,_] (λz=>[(3,z.2.2.1),(60,iN z.1)]) (λz=>z.2.1) (λz=>[.row 83 4 z.2.2.1 z.1 z.2.2.2]) (λz=>z.1<=args.length/\HUp w H z.2.1/\RepZ z.2.1 4 (((args.take z.1).map prE).map (dEx .i64)) z.2.2.2) (λz=>args.length - z.1) (0,H,.slice none 0 0,[]) (λ_ s=>s) ⟨Z,Z,Jt⟩ ⟨by simp,.refl,RepZ.nil⟩ λz hC=>?_
 obtain ⟨k,H1,r,xs⟩:=z;dsimp only at hC|-;obtain ⟨hk0,u1,hz⟩:=hC;refine .sr<|.yw (.lss Z Z)<|.nt<|.sq<|.ce Z (λh61=>?_) (λh61=>?_)
 ·have hk:k<args.length:=by omega
  obtain ⟨bE,oE,cE,hpE,rE,lE,mE⟩:=(hs.up u1.up).elem (map_at (f:=dEx .i64) hk);cases hpE;have hn1:=lalls_at hk hn.2;have hw1:=lalls_at hk hw.2;refine .sk<|.tN<|.sq<|.bk<|.sr<|.yw (.indexSl Fx.sl24 Z Z Z (by omega) (q:=oE+k * 4) Z)<|.yw (.loadMW Z Fx.agg83 mE lE)<|.al Fx.zero83 Z λb5=>.sV .head Z Z Fx.size83 lE rE.one Z<|.nt<|.rg<|.mv Z<|.yw (.loadW Z Fx.agg83 Hm lE)<|.ct (X:=List Value) Fx.call129 Z (λW s=>ih _ (Al_List_getElem_mem hk) hn1 hw1 H1 cE W rE s.agr) Z λx2 H2 hc2 u2=>?_
  obtain ⟨op2,nm2,n2,args2,hx⟩:∃ o m n a,prE args[k]=.mk o m n a:=ex_is _;rw [hx] at hc2;obtain ⟨p2,c2,rfl,hs2,hnm2⟩:=ex_open hc2;exact .bl Z (Fx.bsl24_1 _ _ _ _) Z λb67=>.ap (news:=[.int .i64 op2.toNat,strV nm2,.int .i64 n2.toInt,.slice p2 args2.length c2]) Fx.row24 Z (λ_=>upd2) Z (.box Hm z0) Z (by simp [Value.oneCell',strV]) (by simp [maxLen];omega) (by omega) Z λr68 _=>.a Z Z<|.nl<|.bN<|.tN<|.rg<|.yw (.add Z Z w7)<|.mv Z<|.nt<|.ag (x:=(k,H1,r,xs)) (k+1,H2,r68,xs++[.int .i64 op2.toNat,strV nm2,.int .i64 n2.toInt,.slice p2 args2.length c2]) ⟨Z,Z,Jt⟩ ⟨Z,Z,Z,Z,Jt⟩ (λ_ s=>(s.pick [2,3,4] _ Z Z)) ⟨by dsimp only;omega,u1.trans u2,by dsimp only;rw [take_snoc hk,Al_List_map_append,Al_List_map_append,Al_List_map_cons,Al_List_map_cons,hx];exact (hz.up u2.up).snoc hc2 Z⟩ (by dsimp only;omega)
 obtain rfl:k=args.length:=by omega
 rw [Al_List_take_length] at hz;refine At.ra Hm λp26 c26 e26=>?_;subst e26;refine .ex<|.eb<|.sm Z<|.fA Z Fx.field83_3<|.st upd1 Z Z Fx.size24 Z (nb Z) Z<|.ns<|.yw (.loadW Z Fx.agg83 mem1 Z)<|.sX upd2 Z Z Fx.size83 Z<|.nt<|.rt<|?_
 refine At.pm [0,2] [_,_] rfl rfl ?_;refine freezeSeq (ds:=(args.map prE).map (dEx .i64)) (by simp) hz λH3 p3 c3 u3 hr3 hs3=>?_;refine y8 Z (.cell Z Fx.agg83 Hm rfl) λW s=>⟨_,H3,by rw [prE_mk];exact ex_shut (by omega) hs3,Z,(u1.trans u3).grow s⟩
def rfN (k:Nat):Bool:=(decide (4<=k) && decide (k<=7)) || (decide (16<=k) && decide (k<=18))
def rfF (k:Nat):Bool:=decide (k=4) || decide (k=5) || decide (k=7)
theorem tup2 {a b c d:Bool} (h1:a=c) (h2:b=d):Ending.returned (.tuple #[.bool a,.bool b])=.returned (.tuple #[.bool c,.bool d]):=by rw [h1,h2]
theorem fields_any (H:Hp) (k:Nat) (w:World) (hA:Agr H w):Calls prg 82 #[iN k] w λr w'=>r=.returned (.tuple #[.bool (rfN k),.bool (rfF k)])/\Ext w w':=by
 refine Sx.enter (H:=H) func82 rfl ntmps82 rfl hA ?_;refine .sr<|.a Z Z<|.a Z Z<|.ns<|.mv Z<|.yw (.geq Z Z)<|.mv Z<|.e2 (λh6=>?_) (λh6=>?_)
 ·refine .gy (.move Z)<|.gy (.leq Z Z)<|.yw (.pickT Z Z)<|.mv Z<|.e2 (λh10=>?_) (λh10=>?_)
  ·refine .gG<|.gG<|.gG<|.gV<|.gV<|.gG<|.yw (.pickT Z Z)<|.mv Z<|.yw (.eql Z Z)<|.mv Z<|.b2 (λh20=>?_) (λh20=>?_)
   ·try simp only [dt] at h20
    refine .gG<|.gG<|.yw (.pickT Z Z)<|.mv Z<|.gG<|.gG<|.yw (.pickT Z Z)<|.a Z Z<|.az Z<|?_
    refine y7 Z (.cons (.tmp Z) (.cons (.tmp Z) .nil)) rfl λW s=>⟨tup2 (by unfold rfN;rw [Al_Bool_eq_iff_iff];(try simp only [Al_Bool_or_eq_true,Al_Bool_and_eq_true,Al_decide_eq_true_eq,reduceCtorEq,Al_true_iff,Al_false_iff,Al_iff_true,Al_iff_false,Al_Bool_true_eq_false,Al_Bool_false_eq_true]);omega) (by unfold rfF;rw [Al_Bool_eq_iff_iff];(try simp only [Al_Bool_or_eq_true,Al_Bool_and_eq_true,Al_decide_eq_true_eq,reduceCtorEq,Al_true_iff,Al_false_iff,Al_iff_true,Al_iff_false,Al_Bool_true_eq_false,Al_Bool_false_eq_true]);omega),s.ext⟩
   try simp only [df] at h20
   refine .gy (.move Z)<|.gy (.eql Z Z)<|.yw (.pickF Z Z)<|.mv Z<|.b2 (λh24=>?_) (λh24=>?_)
   ·try simp only [dt] at h24
    refine .gG<|.gG<|.yw (.pickT Z Z)<|.a Z Z<|.az Z<|?_
    refine y7 Z (.cons (.tmp Z) (.cons (.tmp Z) .nil)) rfl λW s=>⟨tup2 (by unfold rfN;rw [Al_Bool_eq_iff_iff];(try simp only [Al_Bool_or_eq_true,Al_Bool_and_eq_true,Al_decide_eq_true_eq,reduceCtorEq,Al_true_iff,Al_false_iff,Al_iff_true,Al_iff_false,Al_Bool_true_eq_false,Al_Bool_false_eq_true]);omega) (by unfold rfF;rw [Al_Bool_eq_iff_iff];(try simp only [Al_Bool_or_eq_true,Al_Bool_and_eq_true,Al_decide_eq_true_eq,reduceCtorEq,Al_true_iff,Al_false_iff,Al_iff_true,Al_iff_false,Al_Bool_true_eq_false,Al_Bool_false_eq_true]);omega),s.ext⟩
   try simp only [df] at h24
   refine .gy (.move Z)<|.gy (.eql Z Z)<|.yw (.pickF Z Z)<|.a Z Z<|.az Z<|?_
   refine y7 Z (.cons (.tmp Z) (.cons (.tmp Z) .nil)) rfl λW s=>⟨tup2 (by unfold rfN;rw [Al_Bool_eq_iff_iff];(try simp only [Al_Bool_or_eq_true,Al_Bool_and_eq_true,Al_decide_eq_true_eq,reduceCtorEq,Al_true_iff,Al_false_iff,Al_iff_true,Al_iff_false,Al_Bool_true_eq_false,Al_Bool_false_eq_true]);omega) (by unfold rfF;rw [Al_Bool_eq_iff_iff];(try simp only [Al_Bool_or_eq_true,Al_Bool_and_eq_true,Al_decide_eq_true_eq,reduceCtorEq,Al_true_iff,Al_false_iff,Al_iff_true,Al_iff_false,Al_Bool_true_eq_false,Al_Bool_false_eq_true]);omega),s.ext⟩
  refine .gy (.move Z)<|.gy (.geq Z Z)<|.gy (.move Z)<|.b2 (λh13=>?_) (λh13=>?_)
  ·try simp only [dt] at h13
   refine .gy (.move Z)<|.gy (.leq Z Z)<|.gy (.pickT Z Z)<|.yw (.pickF Z Z)<|.mv Z<|.yw (.eql Z Z)<|.mv Z<|.b2 (λh20=>?_) (λh20=>?_)
   ·try simp only [dt] at h20
    refine .gG<|.gG<|.yw (.pickT Z Z)<|.mv Z<|.gG<|.gG<|.yw (.pickT Z Z)<|.a Z Z<|.az Z<|?_
    refine y7 Z (.cons (.tmp Z) (.cons (.tmp Z) .nil)) rfl λW s=>⟨tup2 (by unfold rfN;rw [Al_Bool_eq_iff_iff];(try simp only [Al_Bool_or_eq_true,Al_Bool_and_eq_true,Al_decide_eq_true_eq,reduceCtorEq,Al_true_iff,Al_false_iff,Al_iff_true,Al_iff_false,Al_Bool_true_eq_false,Al_Bool_false_eq_true]);omega) (by unfold rfF;rw [Al_Bool_eq_iff_iff];(try simp only [Al_Bool_or_eq_true,Al_Bool_and_eq_true,Al_decide_eq_true_eq,reduceCtorEq,Al_true_iff,Al_false_iff,Al_iff_true,Al_iff_false,Al_Bool_true_eq_false,Al_Bool_false_eq_true]);omega),s.ext⟩
   try simp only [df] at h20
   refine .gy (.move Z)<|.gy (.eql Z Z)<|.yw (.pickF Z Z)<|.mv Z<|.b2 (λh24=>?_) (λh24=>?_)
   ·try simp only [dt] at h24
    refine .gG<|.gG<|.yw (.pickT Z Z)<|.a Z Z<|.az Z<|?_
    refine y7 Z (.cons (.tmp Z) (.cons (.tmp Z) .nil)) rfl λW s=>⟨tup2 (by unfold rfN;rw [Al_Bool_eq_iff_iff];(try simp only [Al_Bool_or_eq_true,Al_Bool_and_eq_true,Al_decide_eq_true_eq,reduceCtorEq,Al_true_iff,Al_false_iff,Al_iff_true,Al_iff_false,Al_Bool_true_eq_false,Al_Bool_false_eq_true]);omega) (by unfold rfF;rw [Al_Bool_eq_iff_iff];(try simp only [Al_Bool_or_eq_true,Al_Bool_and_eq_true,Al_decide_eq_true_eq,reduceCtorEq,Al_true_iff,Al_false_iff,Al_iff_true,Al_iff_false,Al_Bool_true_eq_false,Al_Bool_false_eq_true]);omega),s.ext⟩
   try simp only [df] at h24
   refine .gy (.move Z)<|.gy (.eql Z Z)<|.yw (.pickF Z Z)<|.a Z Z<|.az Z<|?_
   refine y7 Z (.cons (.tmp Z) (.cons (.tmp Z) .nil)) rfl λW s=>⟨tup2 (by unfold rfN;rw [Al_Bool_eq_iff_iff];(try simp only [Al_Bool_or_eq_true,Al_Bool_and_eq_true,Al_decide_eq_true_eq,reduceCtorEq,Al_true_iff,Al_false_iff,Al_iff_true,Al_iff_false,Al_Bool_true_eq_false,Al_Bool_false_eq_true]);omega) (by unfold rfF;rw [Al_Bool_eq_iff_iff];(try simp only [Al_Bool_or_eq_true,Al_Bool_and_eq_true,Al_decide_eq_true_eq,reduceCtorEq,Al_true_iff,Al_false_iff,Al_iff_true,Al_iff_false,Al_Bool_true_eq_false,Al_Bool_false_eq_true]);omega),s.ext⟩
  try simp only [df] at h13
  refine .gG<|.gG<|.gy (.pickF Z Z)<|.yw (.pickF Z Z)<|.mv Z<|.yw (.eql Z Z)<|.mv Z<|.b2 (λh20=>?_) (λh20=>?_)
  ·try simp only [dt] at h20
   refine .gG<|.gG<|.yw (.pickT Z Z)<|.mv Z<|.gG<|.gG<|.yw (.pickT Z Z)<|.a Z Z<|.az Z<|?_
   refine y7 Z (.cons (.tmp Z) (.cons (.tmp Z) .nil)) rfl λW s=>⟨tup2 (by unfold rfN;rw [Al_Bool_eq_iff_iff];(try simp only [Al_Bool_or_eq_true,Al_Bool_and_eq_true,Al_decide_eq_true_eq,reduceCtorEq,Al_true_iff,Al_false_iff,Al_iff_true,Al_iff_false,Al_Bool_true_eq_false,Al_Bool_false_eq_true]);omega) (by unfold rfF;rw [Al_Bool_eq_iff_iff];(try simp only [Al_Bool_or_eq_true,Al_Bool_and_eq_true,Al_decide_eq_true_eq,reduceCtorEq,Al_true_iff,Al_false_iff,Al_iff_true,Al_iff_false,Al_Bool_true_eq_false,Al_Bool_false_eq_true]);omega),s.ext⟩
  try simp only [df] at h20
  refine .gy (.move Z)<|.gy (.eql Z Z)<|.yw (.pickF Z Z)<|.mv Z<|.b2 (λh24=>?_) (λh24=>?_)
  ·try simp only [dt] at h24
   refine .gG<|.gG<|.yw (.pickT Z Z)<|.a Z Z<|.az Z<|?_
   refine y7 Z (.cons (.tmp Z) (.cons (.tmp Z) .nil)) rfl λW s=>⟨tup2 (by unfold rfN;rw [Al_Bool_eq_iff_iff];(try simp only [Al_Bool_or_eq_true,Al_Bool_and_eq_true,Al_decide_eq_true_eq,reduceCtorEq,Al_true_iff,Al_false_iff,Al_iff_true,Al_iff_false,Al_Bool_true_eq_false,Al_Bool_false_eq_true]);omega) (by unfold rfF;rw [Al_Bool_eq_iff_iff];(try simp only [Al_Bool_or_eq_true,Al_Bool_and_eq_true,Al_decide_eq_true_eq,reduceCtorEq,Al_true_iff,Al_false_iff,Al_iff_true,Al_iff_false,Al_Bool_true_eq_false,Al_Bool_false_eq_true]);omega),s.ext⟩
  try simp only [df] at h24
  refine .gy (.move Z)<|.gy (.eql Z Z)<|.yw (.pickF Z Z)<|.a Z Z<|.az Z<|?_
  refine y7 Z (.cons (.tmp Z) (.cons (.tmp Z) .nil)) rfl λW s=>⟨tup2 (by unfold rfN;rw [Al_Bool_eq_iff_iff];(try simp only [Al_Bool_or_eq_true,Al_Bool_and_eq_true,Al_decide_eq_true_eq,reduceCtorEq,Al_true_iff,Al_false_iff,Al_iff_true,Al_iff_false,Al_Bool_true_eq_false,Al_Bool_false_eq_true]);omega) (by unfold rfF;rw [Al_Bool_eq_iff_iff];(try simp only [Al_Bool_or_eq_true,Al_Bool_and_eq_true,Al_decide_eq_true_eq,reduceCtorEq,Al_true_iff,Al_false_iff,Al_iff_true,Al_iff_false,Al_Bool_true_eq_false,Al_Bool_false_eq_true]);omega),s.ext⟩
 refine .gG<|.gG<|.yw (.pickF Z Z)<|.mv Z<|.gy (.move Z)<|.gy (.geq Z Z)<|.gy (.move Z)<|.b2 (λh13=>?_) (λh13=>?_)
 ·try simp only [dt] at h13
  refine .gy (.move Z)<|.gy (.leq Z Z)<|.gy (.pickT Z Z)<|.yw (.pickF Z Z)<|.mv Z<|.yw (.eql Z Z)<|.mv Z<|.b2 (λh20=>?_) (λh20=>?_)
  ·try simp only [dt] at h20
   refine .gG<|.gG<|.yw (.pickT Z Z)<|.mv Z<|.gG<|.gG<|.yw (.pickT Z Z)<|.a Z Z<|.az Z<|?_
   refine y7 Z (.cons (.tmp Z) (.cons (.tmp Z) .nil)) rfl λW s=>⟨tup2 (by unfold rfN;rw [Al_Bool_eq_iff_iff];(try simp only [Al_Bool_or_eq_true,Al_Bool_and_eq_true,Al_decide_eq_true_eq,reduceCtorEq,Al_true_iff,Al_false_iff,Al_iff_true,Al_iff_false,Al_Bool_true_eq_false,Al_Bool_false_eq_true]);omega) (by unfold rfF;rw [Al_Bool_eq_iff_iff];(try simp only [Al_Bool_or_eq_true,Al_Bool_and_eq_true,Al_decide_eq_true_eq,reduceCtorEq,Al_true_iff,Al_false_iff,Al_iff_true,Al_iff_false,Al_Bool_true_eq_false,Al_Bool_false_eq_true]);omega),s.ext⟩
  try simp only [df] at h20
  refine .gy (.move Z)<|.gy (.eql Z Z)<|.yw (.pickF Z Z)<|.mv Z<|.b2 (λh24=>?_) (λh24=>?_)
  ·try simp only [dt] at h24
   refine .gG<|.gG<|.yw (.pickT Z Z)<|.a Z Z<|.az Z<|?_
   refine y7 Z (.cons (.tmp Z) (.cons (.tmp Z) .nil)) rfl λW s=>⟨tup2 (by unfold rfN;rw [Al_Bool_eq_iff_iff];(try simp only [Al_Bool_or_eq_true,Al_Bool_and_eq_true,Al_decide_eq_true_eq,reduceCtorEq,Al_true_iff,Al_false_iff,Al_iff_true,Al_iff_false,Al_Bool_true_eq_false,Al_Bool_false_eq_true]);omega) (by unfold rfF;rw [Al_Bool_eq_iff_iff];(try simp only [Al_Bool_or_eq_true,Al_Bool_and_eq_true,Al_decide_eq_true_eq,reduceCtorEq,Al_true_iff,Al_false_iff,Al_iff_true,Al_iff_false,Al_Bool_true_eq_false,Al_Bool_false_eq_true]);omega),s.ext⟩
  try simp only [df] at h24
  refine .gy (.move Z)<|.gy (.eql Z Z)<|.yw (.pickF Z Z)<|.a Z Z<|.az Z<|?_
  refine y7 Z (.cons (.tmp Z) (.cons (.tmp Z) .nil)) rfl λW s=>⟨tup2 (by unfold rfN;rw [Al_Bool_eq_iff_iff];(try simp only [Al_Bool_or_eq_true,Al_Bool_and_eq_true,Al_decide_eq_true_eq,reduceCtorEq,Al_true_iff,Al_false_iff,Al_iff_true,Al_iff_false,Al_Bool_true_eq_false,Al_Bool_false_eq_true]);omega) (by unfold rfF;rw [Al_Bool_eq_iff_iff];(try simp only [Al_Bool_or_eq_true,Al_Bool_and_eq_true,Al_decide_eq_true_eq,reduceCtorEq,Al_true_iff,Al_false_iff,Al_iff_true,Al_iff_false,Al_Bool_true_eq_false,Al_Bool_false_eq_true]);omega),s.ext⟩
 try simp only [df] at h13
 refine .gG<|.gG<|.gy (.pickF Z Z)<|.yw (.pickF Z Z)<|.mv Z<|.yw (.eql Z Z)<|.mv Z<|.b2 (λh20=>?_) (λh20=>?_)
 ·try simp only [dt] at h20
  refine .gG<|.gG<|.yw (.pickT Z Z)<|.mv Z<|.gG<|.gG<|.yw (.pickT Z Z)<|.a Z Z<|.az Z<|?_
  refine y7 Z (.cons (.tmp Z) (.cons (.tmp Z) .nil)) rfl λW s=>⟨tup2 (by unfold rfN;rw [Al_Bool_eq_iff_iff];(try simp only [Al_Bool_or_eq_true,Al_Bool_and_eq_true,Al_decide_eq_true_eq,reduceCtorEq,Al_true_iff,Al_false_iff,Al_iff_true,Al_iff_false,Al_Bool_true_eq_false,Al_Bool_false_eq_true]);omega) (by unfold rfF;rw [Al_Bool_eq_iff_iff];(try simp only [Al_Bool_or_eq_true,Al_Bool_and_eq_true,Al_decide_eq_true_eq,reduceCtorEq,Al_true_iff,Al_false_iff,Al_iff_true,Al_iff_false,Al_Bool_true_eq_false,Al_Bool_false_eq_true]);omega),s.ext⟩
 try simp only [df] at h20
 refine .gy (.move Z)<|.gy (.eql Z Z)<|.yw (.pickF Z Z)<|.mv Z<|.b2 (λh24=>?_) (λh24=>?_)
 ·try simp only [dt] at h24
  refine .gG<|.gG<|.yw (.pickT Z Z)<|.a Z Z<|.az Z<|?_
  refine y7 Z (.cons (.tmp Z) (.cons (.tmp Z) .nil)) rfl λW s=>⟨tup2 (by unfold rfN;rw [Al_Bool_eq_iff_iff];(try simp only [Al_Bool_or_eq_true,Al_Bool_and_eq_true,Al_decide_eq_true_eq,reduceCtorEq,Al_true_iff,Al_false_iff,Al_iff_true,Al_iff_false,Al_Bool_true_eq_false,Al_Bool_false_eq_true]);omega) (by unfold rfF;rw [Al_Bool_eq_iff_iff];(try simp only [Al_Bool_or_eq_true,Al_Bool_and_eq_true,Al_decide_eq_true_eq,reduceCtorEq,Al_true_iff,Al_false_iff,Al_iff_true,Al_iff_false,Al_Bool_true_eq_false,Al_Bool_false_eq_true]);omega),s.ext⟩
 try simp only [df] at h24
 refine .gy (.move Z)<|.gy (.eql Z Z)<|.yw (.pickF Z Z)<|.a Z Z<|.az Z<|?_
 refine y7 Z (.cons (.tmp Z) (.cons (.tmp Z) .nil)) rfl λW s=>⟨tup2 (by unfold rfN;rw [Al_Bool_eq_iff_iff];(try simp only [Al_Bool_or_eq_true,Al_Bool_and_eq_true,Al_decide_eq_true_eq,reduceCtorEq,Al_true_iff,Al_false_iff,Al_iff_true,Al_iff_false,Al_Bool_true_eq_false,Al_Bool_false_eq_true]);omega) (by unfold rfF;rw [Al_Bool_eq_iff_iff];(try simp only [Al_Bool_or_eq_true,Al_Bool_and_eq_true,Al_decide_eq_true_eq,reduceCtorEq,Al_true_iff,Al_false_iff,Al_iff_true,Al_iff_false,Al_Bool_true_eq_false,Al_Bool_false_eq_true]);omega),s.ext⟩
def opI (k:Nat):Int:=if k<1\/18<k then -1 else if k<=7 then 0 else if (9<=k/\k<=11)\/k=15 then 2 else 1
theorem ret_i {a b:Int} (h:a=b):Ending.returned (.int .i64 a)=.returned (.int .i64 b):=by rw [h]
theorem opers_any (H:Hp) (k:Nat) (w:World) (hA:Agr H w):Calls prg 70 #[iN k] w λr w'=>r=.returned (.int .i64 (opI k))/\Ext w w':=by
 refine Sx.enter (H:=H) func70 rfl ntmps70 rfl hA ?_;refine .sr<|.aq Z<|.sq<|.bk<|.sm Z<|.yw (.lss Z Z)<|.mv Z<|.e2 (λh6=>?_) (λh6=>?_)
 ·refine .gG<|.gG<|.yw (.pickT Z Z)<|.aq Z<|.cT Z<|.sr<|.az Z<|.bR<|.tR<|?_
  refine y9 Z Z λW s=>⟨ret_i ?_,s.ext⟩;unfold opI
  repeat' split
  all_goals omega
 refine .gy (.move Z)<|.gy (.gtr Z Z)<|.yw (.pickF Z Z)<|.aq Z<|.ce Z (λh3=>?_) (λh3=>?_)
 ·refine .sr<|.az Z<|.bR<|.tR<|?_
  refine y9 Z Z λW s=>⟨ret_i ?_,s.ext⟩;unfold opI
  repeat' split
  all_goals omega
 refine .sm Z<|.yw (.leq Z Z)<|.aq Z<|.ce Z (λh10=>?_) (λh10=>?_)
 ·refine .sr<|.az Z<|.bR<|.tR<|?_
  refine y9 Z Z λW s=>⟨ret_i ?_,s.ext⟩;unfold opI
  repeat' split
  all_goals omega
 refine .sm Z<|.yw (.geq Z Z)<|.mv Z<|.e2 (λh16=>?_) (λh16=>?_)
 ·refine .gy (.move Z)<|.gy (.leq Z Z)<|.yw (.pickT Z Z)<|.mv Z<|.e2 (λh20=>?_) (λh20=>?_)
  ·refine .gG<|.gG<|.yw (.pickT Z Z)<|.aq Z<|.cT Z<|.sr<|.az Z<|.bR<|.tR<|?_
   refine y9 Z Z λW s=>⟨ret_i ?_,s.ext⟩;unfold opI
   repeat' split
   all_goals omega
  refine .gy (.move Z)<|.gy (.eql Z Z)<|.yw (.pickF Z Z)<|.aq Z<|.cd Z (λh13=>?_) (λh13=>?_)
  ·try simp only [dt] at h13
   refine .sr<|.az Z<|.bR<|.tR<|?_
   refine y9 Z Z λW s=>⟨ret_i ?_,s.ext⟩;unfold opI
   repeat' split
   all_goals omega
  try simp only [df] at h13
  refine .sk<|.bN<|.tN<|.sr<|.az Z<|?_
  refine y9 Z Z λW s=>⟨ret_i ?_,s.ext⟩;unfold opI
  repeat' split
  all_goals omega
 refine .gG<|.gG<|.yw (.pickF Z Z)<|.mv Z<|.gy (.move Z)<|.gy (.eql Z Z)<|.yw (.pickF Z Z)<|.aq Z<|.cd Z (λh13=>?_) (λh13=>?_)
 ·try simp only [dt] at h13
  refine .sr<|.az Z<|.bR<|.tR<|?_
  refine y9 Z Z λW s=>⟨ret_i ?_,s.ext⟩;unfold opI
  repeat' split
  all_goals omega
 try simp only [df] at h13
 refine .sk<|.bN<|.tN<|.sr<|.az Z<|?_
 refine y9 Z Z λW s=>⟨ret_i ?_,s.ext⟩;unfold opI
 repeat' split
 all_goals omega
end Go.Proofs.YtidclioghdbphaaGreatDoor
