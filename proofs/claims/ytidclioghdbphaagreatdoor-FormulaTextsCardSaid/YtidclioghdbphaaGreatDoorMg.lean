/- Texts of the proof, one behind the other. -/
import Derived.Test.YtidclioghdbphaaGreatDoorMf
set_option linter.all false
set_option maxRecDepth 100000
namespace Go.Proofs.YtidclioghdbphaaGreatDoor
open Go.RowKit Go.Par Go.Sx Tryz
def Gq (H:Hp):Prop:=∀ W,Agr H W->Lib.TabIs prg W "internal/strconv.uint64pow10" .u64 Lib.pow10Tab
variable {H H':Hp}
theorem Gq.up (g:Gq H) (u:Up H H'):Gq H':=λW a=>g W ⟨λb o e=>a b o (u b o e),u.lo ▸ a.lo⟩
theorem WD {w:World} (os:Array Obj):Ext w (Sort.grow w os) :=
 Ext.of_below ⟨Z,Z,Z,by simp [Sort.grow],λk hk=>by simp [Sort.grow,Array.getElem?_append,hk]⟩
theorem NU (H:Hp) (g:Gq H) (n:Int64) (w:World) (hA:Agr H w):Calls prg 138 #[.int .i64 n.toInt,.int .i64 10] w λr w'=>r=.returned (cH (Lib.itoa n.toInt))/\Ext w w' :=
 (Tryz.strconv_FormatInt_10 n.toInt (by have:=n.le_toInt;omega) (by have:=n.toInt_lt;omega) w (g w hA)).mono λ_ _ ⟨he,k,os,hw⟩=>⟨he,hw ▸ ((Ext.refl w).drewN k).trans (WD os)⟩
theorem GG (H:Hp) (g:Gq H) (n:Int64) (w:World) (hA:Agr H w):Calls prg 144 #[.int .i64 n.toInt] w λr w'=>r=.returned (cH (Lib.itoa n.toInt))/\Ext w w' :=
 (Tryz.strconv_Itoa n.toInt (by have:=n.le_toInt;omega) (by have:=n.toInt_lt;omega) w (g w hA)).mono λ_ _ ⟨he,k,os,hw⟩=>⟨he,hw ▸ ((Ext.refl w).drewN k).trans (WD os)⟩
theorem aA2 (H:Hp) (op:UInt8) (w:World) (hA:Agr H w):Calls prg 140 #[.int .u8 op.toNat] w λr w'=>r=.returned (iN (tlv op))/\Ext w w':=by
 refine Sx.enter (H:=H) func140 rfl ntmps140 rfl hA ?_;refine .sr<|.aq Z<|.sq<|.sm Z<|.nt<|.bk<|.sq<|.sr<|.yw (.eql Z Z)<|.aq Z<|.cr Z (λh4=>?_) (λh4=>?_)
 ·have qa:op=14:=aS.1 (by have:=aJ h4;show op.toNat=14;omega);refine .sk<|.tN<|.cT Z<|.sr<|.az Z<|.bR<|.tR<|?_
  refine y9 Z Z λW s=>⟨?_,s.ext⟩
  first
   | (rw [FI (.inl qa)];rfl)
   | (rw [FI (.inr qa)];rfl)
   | (rw [yD (.inl qb)];rfl)
   | (rw [yD (.inr (.inl qb))];rfl)
   | (rw [yD (.inr (.inr qb))];rfl)
   | (rw [XI q9];rfl)
   | (rw [XH qa14 qa15 qb11 qb12 qb13 q9];rfl)
 have qa14:¬ op=14:=λe=>aP h4 (by rw [e];rfl);refine .rg<|.yw (.eql Z Z)<|.aq Z<|.cr Z (λh4=>?_) (λh4=>?_)
 ·have qa:op=15:=aS.1 (by have:=aJ h4;show op.toNat=15;omega);refine .sr<|.az Z<|.bR<|.tR<|?_
  refine y9 Z Z λW s=>⟨?_,s.ext⟩
  first
   | (rw [FI (.inl qa)];rfl)
   | (rw [FI (.inr qa)];rfl)
   | (rw [yD (.inl qb)];rfl)
   | (rw [yD (.inr (.inl qb))];rfl)
   | (rw [yD (.inr (.inr qb))];rfl)
   | (rw [XI q9];rfl)
   | (rw [XH qa14 qa15 qb11 qb12 qb13 q9];rfl)
 have qa15:¬ op=15:=λe=>aP h4 (by rw [e];rfl);refine .sq<|.sr<|.yw (.eql Z Z)<|.aq Z<|.cr Z (λh7=>?_) (λh7=>?_)
 ·have qb:op=11:=aS.1 (by have:=aJ h7;show op.toNat=11;omega);refine .sk<|.tN<|.cT Z<|.sr<|.az Z<|.bR<|.tR<|?_
  refine y9 Z Z λW s=>⟨?_,s.ext⟩
  first
   | (rw [FI (.inl qa)];rfl)
   | (rw [FI (.inr qa)];rfl)
   | (rw [yD (.inl qb)];rfl)
   | (rw [yD (.inr (.inl qb))];rfl)
   | (rw [yD (.inr (.inr qb))];rfl)
   | (rw [XI q9];rfl)
   | (rw [XH qa14 qa15 qb11 qb12 qb13 q9];rfl)
 have qb11:¬ op=11:=λe=>aP h7 (by rw [e];rfl);refine .sr<|.yw (.eql Z Z)<|.aq Z<|.cr Z (λh7=>?_) (λh7=>?_)
 ·have qb:op=12:=aS.1 (by have:=aJ h7;show op.toNat=12;omega);refine .sk<|.tN<|.cT Z<|.sr<|.az Z<|.bR<|.tR<|?_
  refine y9 Z Z λW s=>⟨?_,s.ext⟩
  first
   | (rw [FI (.inl qa)];rfl)
   | (rw [FI (.inr qa)];rfl)
   | (rw [yD (.inl qb)];rfl)
   | (rw [yD (.inr (.inl qb))];rfl)
   | (rw [yD (.inr (.inr qb))];rfl)
   | (rw [XI q9];rfl)
   | (rw [XH qa14 qa15 qb11 qb12 qb13 q9];rfl)
 have qb12:¬ op=12:=λe=>aP h7 (by rw [e];rfl);refine .rg<|.yw (.eql Z Z)<|.aq Z<|.cr Z (λh7=>?_) (λh7=>?_)
 ·have qb:op=13:=aS.1 (by have:=aJ h7;show op.toNat=13;omega);refine .sr<|.az Z<|.bR<|.tR<|?_
  refine y9 Z Z λW s=>⟨?_,s.ext⟩
  first
   | (rw [FI (.inl qa)];rfl)
   | (rw [FI (.inr qa)];rfl)
   | (rw [yD (.inl qb)];rfl)
   | (rw [yD (.inr (.inl qb))];rfl)
   | (rw [yD (.inr (.inr qb))];rfl)
   | (rw [XI q9];rfl)
   | (rw [XH qa14 qa15 qb11 qb12 qb13 q9];rfl)
 have qb13:¬ op=13:=λe=>aP h7 (by rw [e];rfl);refine .sr<|.yw (.eql Z Z)<|.aq Z<|.cd Z (λh11=>?_) (λh11=>?_)
 ·have q9:op=9:=aS.1 (by have:=aJ h11;show op.toNat=9;omega);refine .sr<|.az Z<|.bR<|.tR<|?_
  refine y9 Z Z λW s=>⟨?_,s.ext⟩
  first
   | (rw [FI (.inl qa)];rfl)
   | (rw [FI (.inr qa)];rfl)
   | (rw [yD (.inl qb)];rfl)
   | (rw [yD (.inr (.inl qb))];rfl)
   | (rw [yD (.inr (.inr qb))];rfl)
   | (rw [XI q9];rfl)
   | (rw [XH qa14 qa15 qb11 qb12 qb13 q9];rfl)
 have q9:¬ op=9:=λe=>aP h11 (by rw [e];rfl);refine .sk<|.bN<|.tN<|.sr<|.az Z<|?_
 refine y9 Z Z λW s=>⟨?_,s.ext⟩
 first
  | (rw [FI (.inl qa)];rfl)
  | (rw [FI (.inr qa)];rfl)
  | (rw [yD (.inl qb)];rfl)
  | (rw [yD (.inr (.inl qb))];rfl)
  | (rw [yD (.inr (.inr qb))];rfl)
  | (rw [XI q9];rfl)
  | (rw [XH qa14 qa15 qb11 qb12 qb13 q9];rfl)
theorem vQ (H:Hp) (e:Ex) (k:Nat) (ht:(∀ (cs:List Value) (W:World),Rep H (dEx .u8 e) cs->dS e=true\/Ex.op e=0->(tmT e).length<=1000000000->Agr H W->Calls prg 89 #[.agg cs.toArray] W λr W'=>r=.returned (cH (tmT e))/\Ext W W')) (cs:List Value) (w:World) (h:Rep H (dEx .u8 e) cs) (hok:dS e=true\/e.op=0) (hl:(tmT e).length<=1000000000) (hA:Agr H w) :
 Calls prg 139 #[.agg cs.toArray,iN k] w λr w'=>r=.returned (cH (yF (decide (tlv e.op<k)) (tmT e)))/\Ext w w':=by
 obtain ⟨op,nm,nn,args⟩:=e;obtain ⟨pp,c,rfl,hs,hnm⟩:=fX h;refine Sx.enter (H:=H) func139 rfl ntmps139 rfl hA ?_;refine .sr<|.bx Z Z Z λb2=>.aq Z<|.sq<|.sr<|.fA Z iI<|.lD Z kW Hm Z<|.yw (.call MX Z (λW s=>aA2 H op W s.agr))<|.mv Z<|.yw (.lss Z Z)<|.nt<|.cd Z (λh9=>?_) (λh9=>?_)
 ·have h9:tlv op<k:=by have:=aJ h9;omega
  refine .sr<|.yw (.loadW Z eC Hm Z)<|.yw (.call sZ Z (λW s=>ht _ W h hok hl s.agr))<|.yw (.app Z Z (by (try simp only [aH,aI,aL]);omega))<|.yw (.app Z Z (by (try simp only [aH,aI,aL]);omega))<|.az Z<|.tR<|?_
  refine y9 Z Z λW s=>⟨?_,s.ext⟩
  first
   | (rw [show decide (tlv (Ex.op (.mk op nm nn args))<k)=true from aK h9];rfl)
   | (rw [show decide (tlv (Ex.op (.mk op nm nn args))<k)=false from aM h9];rfl)
 have h9:¬ tlv op<k:=λe=>aP h9 (by omega);refine .sk<|.tN<|.sr<|.yw (.loadW Z eC Hm Z)<|.yw (.call sZ Z (λW s=>ht _ W h hok hl s.agr))<|.az Z<|?_
 refine y9 Z Z λW s=>⟨?_,s.ext⟩
 first
  | (rw [show decide (tlv (Ex.op (.mk op nm nn args))<k)=true from aK h9];rfl)
  | (rw [show decide (tlv (Ex.op (.mk op nm nn args))<k)=false from aM h9];rfl)
theorem tH (H:Hp) (G:Gf H) (gq:Gq H) (e:Ex):(∀ (cs:List Value) (W:World),Rep H (dEx .u8 e) cs->dS e=true\/Ex.op e=0->(tmT e).length<=1000000000->Agr H W->Calls prg 89 #[.agg cs.toArray] W λr W'=>r=.returned (cH (tmT e))/\Ext W W'):=by
 induction e using Ex.ind with | _ op nm nn args ih
 intro cs w h hok hl hA;obtain ⟨pp,c,rfl,hs,hnm⟩:=fX h;have hcap:=hs.cap;refine Sx.enter (H:=H) func89 rfl ntmps89 rfl hA ?_;refine .sr<|.bx Z Z Z λb1=>.aq Z<|.sq<|.sr<|.fA Z iI<|.lD Z kW Hm Z<|.nt<|.bk<|.sr<|.yw (.eql Z Z)<|.aq Z<|.cd Z (λh6=>?_) (λh6=>?_)
 ·have q1:op=1:=aS.1 (by have:=aJ h6;show op.toNat=1;omega);refine .sr<|.fA Z gZ<|.lD Z eS Hm Z<|.yw (.call ZK Z (λW s=>NU H gq nn W s.agr))<|.az Z<|.bR<|.tR<|?_
  refine y9 Z Z λW s=>⟨?_,s.ext⟩
  first
   | (rw [tm1 q1])
   | (rw [tm4 q4];rfl)
   | (rw [tm5 q5])
   | (rw [tm6 q6 h0];rfl)
   | (rw [tm8 q8];rfl)
   | (rw [tm9 q9 h0];rfl)
   | (rw [tmb qB h0 h1];rfl)
   | (rw [tmn q1 q4 q5 q6 q8 q9 qB];rfl)
 have q1:¬ op=1:=λe=>aP h6 (by rw [e];rfl);refine .sr<|.yw (.eql Z Z)<|.aq Z<|.cd Z (λh11=>?_) (λh11=>?_)
 ·have q4:op=4:=aS.1 (by have:=aJ h11;show op.toNat=4;omega);refine .sr<|.az Z<|.bR<|.tR<|?_
  refine y9 Z Z λW s=>⟨?_,s.ext⟩
  first
   | (rw [tm1 q1])
   | (rw [tm4 q4];rfl)
   | (rw [tm5 q5])
   | (rw [tm6 q6 h0];rfl)
   | (rw [tm8 q8];rfl)
   | (rw [tm9 q9 h0];rfl)
   | (rw [tmb qB h0 h1];rfl)
   | (rw [tmn q1 q4 q5 q6 q8 q9 qB];rfl)
 have q4:¬ op=4:=λe=>aP h11 (by rw [e];rfl);refine .sr<|.yw (.eql Z Z)<|.aq Z<|.cd Z (λh13=>?_) (λh13=>?_)
 ·have q5:op=5:=aS.1 (by have:=aJ h13;show op.toNat=5;omega);refine .sr<|.fA Z gM<|.lD Z cP Hm Z<|.az Z<|.bR<|.tR<|?_
  refine y9 Z Z λW s=>⟨?_,s.ext⟩
  first
   | (rw [tm1 q1])
   | (rw [tm4 q4];rfl)
   | (rw [tm5 q5])
   | (rw [tm6 q6 h0];rfl)
   | (rw [tm8 q8];rfl)
   | (rw [tm9 q9 h0];rfl)
   | (rw [tmb qB h0 h1];rfl)
   | (rw [tmn q1 q4 q5 q6 q8 q9 qB];rfl)
 have q5:¬ op=5:=λe=>aP h13 (by rw [e];rfl);refine .sr<|.yw (.eql Z Z)<|.aq Z<|.cd Z (λh17=>?_) (λh17=>?_)
 ·have q6:op=6:=aS.1 (by have:=aJ h17;show op.toNat=6;omega);obtain ⟨hla,hta⟩:=KV (.inl q6) (hok.resolve_right (by rw [q6];exact (by decide:¬ (6:UInt8)=0)));have h0:0<args.length:=by omega
  obtain ⟨b0,o0,c0,hp0,r0,l0,m0⟩:=hs.elem (fW h0);cases hp0;rw [tm6 q6 h0] at hl;simp only [aH,aI,aL] at hl

  refine .sq<|.fL 10 [(0,0),(1,0),(2,0),(3,0),(4,0),(5,0),(6,0),(7,0),(8,0),(9,0)]<|.fA Z gM<|.lD Z cP Hm Z<|.yw (.app Z Z (by (try simp only [aH,aI,aL]);omega))<|.fA Z eJ<|.lD Z dQ Hm Z<|.yw (.indexSl dW Z Z (i:=0) Z (by omega) (q:=o0+0 * 4) Z)<|.yw (.loadMW Z eC m0 l0)<|.yw (.call sZ Z (λW s=>ih _ (bI h0) _ W r0 (.inl (hta _ (bI h0))) (by omega) s.agr))<|.yw (.app Z Z (by (try simp only [aH,aI,aL]);omega))<|.yw (.app Z Z (by (try simp only [aH,aI,aL]);omega))<|.fn (tl:=[_]) Z<|.az Z<|.bR<|.tR<|?_
  refine y9 Z Z λW s=>⟨?_,s.ext⟩
  first
   | (rw [tm1 q1])
   | (rw [tm4 q4];rfl)
   | (rw [tm5 q5])
   | (rw [tm6 q6 h0];rfl)
   | (rw [tm8 q8];rfl)
   | (rw [tm9 q9 h0];rfl)
   | (rw [tmb qB h0 h1];rfl)
   | (rw [tmn q1 q4 q5 q6 q8 q9 qB];rfl)
 have q6:¬ op=6:=λe=>aP h17 (by rw [e];rfl);refine .sr<|.yw (.eql Z Z)<|.aq Z<|.cd Z (λh29=>?_) (λh29=>?_)
 ·have q8:op=8:=aS.1 (by have:=aJ h29;show op.toNat=8;omega);refine .sr<|.fA Z gM<|.lD Z cP Hm Z<|.yw (.app Z Z (by (try simp only [aH,aI,aL]);omega))<|.az Z<|.bR<|.tR<|?_
  refine y9 Z Z λW s=>⟨?_,s.ext⟩
  first
   | (rw [tm1 q1])
   | (rw [tm4 q4];rfl)
   | (rw [tm5 q5])
   | (rw [tm6 q6 h0];rfl)
   | (rw [tm8 q8];rfl)
   | (rw [tm9 q9 h0];rfl)
   | (rw [tmb qB h0 h1];rfl)
   | (rw [tmn q1 q4 q5 q6 q8 q9 qB];rfl)
 have q8:¬ op=8:=λe=>aP h29 (by rw [e];rfl);refine .sr<|.yw (.eql Z Z)<|.aq Z<|.cd Z (λh34=>?_) (λh34=>?_)
 ·have q9:op=9:=aS.1 (by have:=aJ h34;show op.toNat=9;omega);obtain ⟨hla,hta⟩:=KV (.inr q9) (hok.resolve_right (by rw [q9];exact (by decide:¬ (9:UInt8)=0)));have h0:0<args.length:=by omega
  obtain ⟨b0,o0,c0,hp0,r0,l0,m0⟩:=hs.elem (fW h0);cases hp0;rw [tm9 q9 h0] at hl;simp only [aH,aI,aL] at hl;have pl:=lP (decide (tlv args[0].op<6)) (tmT args[0])

  refine .sr<|.fA Z eJ<|.lD Z dQ Hm Z<|.yw (.indexSl dW Z Z (i:=0) Z (by omega) (q:=o0+0 * 4) Z)<|.yw (.loadMW Z eC m0 l0)<|.yw (.call EV Z (λW s=>vQ H _ 6 (ih _ (bI h0)) _ W r0 (.inl (hta _ (bI h0))) (by omega) s.agr))<|.yw (.app Z Z (by (try simp only [aH,aI,aL]);omega))<|.az Z<|.bR<|.tR<|?_
  refine y9 Z Z λW s=>⟨?_,s.ext⟩
  first
   | (rw [tm1 q1])
   | (rw [tm4 q4];rfl)
   | (rw [tm5 q5])
   | (rw [tm6 q6 h0];rfl)
   | (rw [tm8 q8];rfl)
   | (rw [tm9 q9 h0];rfl)
   | (rw [tmb qB h0 h1];rfl)
   | (rw [tmn q1 q4 q5 q6 q8 q9 qB];rfl)
 have q9:¬ op=9:=λe=>aP h34 (by rw [e];rfl);refine .cu (X:=Bool) [(1,_)] ⟨Z,Jt⟩ (λz=>[(42,.bool z)]) (λz=>H) (λz=>[.box b1 [.int .u8 op.toNat,cH nm,.int .i64 nn.toInt,.slice pp args.length c] 76]) (λz=>z=decide (op=11\/op=12\/op=13\/op=14\/op=15)) ?_ λz hC=>?_
 ·
  refine .sr<|.yw (.eql Z Z)<|.aq Z<|.cr Z (λh42=>?_) (λh42=>?_)
  ·have qb:op=11:=aS.1 (by have:=aJ h42;show op.toNat=11;omega);exact .sk<|.tN<|.me _ ⟨Z,Jt⟩ ⟨Z,Jt⟩ (λ_ s=>s) (by first | (rw [qb];rfl) | (simp only [qb11,qb12,qb13,qb14,false_or];exact k8 (m:=15) (by decide)))
  have qb11:¬ op=11:=λe=>aP h42 (by rw [e];rfl);refine .sr<|.yw (.eql Z Z)<|.aq Z<|.cr Z (λh42=>?_) (λh42=>?_)
  ·have qb:op=12:=aS.1 (by have:=aJ h42;show op.toNat=12;omega);exact .sk<|.tN<|.me _ ⟨Z,Jt⟩ ⟨Z,Jt⟩ (λ_ s=>s) (by first | (rw [qb];rfl) | (simp only [qb11,qb12,qb13,qb14,false_or];exact k8 (m:=15) (by decide)))
  have qb12:¬ op=12:=λe=>aP h42 (by rw [e];rfl);refine .sr<|.yw (.eql Z Z)<|.aq Z<|.cr Z (λh42=>?_) (λh42=>?_)
  ·have qb:op=13:=aS.1 (by have:=aJ h42;show op.toNat=13;omega);exact .sk<|.tN<|.me _ ⟨Z,Jt⟩ ⟨Z,Jt⟩ (λ_ s=>s) (by first | (rw [qb];rfl) | (simp only [qb11,qb12,qb13,qb14,false_or];exact k8 (m:=15) (by decide)))
  have qb13:¬ op=13:=λe=>aP h42 (by rw [e];rfl);refine .sr<|.yw (.eql Z Z)<|.aq Z<|.cr Z (λh42=>?_) (λh42=>?_)
  ·have qb:op=14:=aS.1 (by have:=aJ h42;show op.toNat=14;omega);exact .sk<|.tN<|.me _ ⟨Z,Jt⟩ ⟨Z,Jt⟩ (λ_ s=>s) (by first | (rw [qb];rfl) | (simp only [qb11,qb12,qb13,qb14,false_or];exact k8 (m:=15) (by decide)))
  have qb14:¬ op=14:=λe=>aP h42 (by rw [e];rfl);exact .rg<|.yw (.eql Z Z)<|.aq Z<|.me _ ⟨Z,Jt⟩ ⟨Z,Jt⟩ (λ_ s=>s) (by first | (rw [qb];rfl) | (simp only [qb11,qb12,qb13,qb14,false_or];exact k8 (m:=15) (by decide)))
 have eqB:=hC;refine .cr Z (λh42=>?_) (λh42=>?_)
 ·have qB:(op=11\/op=12\/op=13\/op=14\/op=15):=by rw [h42] at eqB;exact aJ eqB.symm
  obtain ⟨hla,hta⟩:=XK qB (hok.resolve_right (by rintro (h:op=0);rw [h] at qB;revert qB;decide));have h0:0<args.length:=by omega
  have h1:1<args.length:=by omega
  obtain ⟨b0,o0,c0,hp0,r0,l0,m0⟩:=hs.elem (fW h0);cases hp0;obtain ⟨b1,o1,c1,hp1,r1,l1,m1⟩:=hs.elem (fW h1);cases hp1;rw [tmb qB h0 h1] at hl;simp only [aH,aI,aL] at hl;have pl:=lP (decide (tlv args[0].op<tlv op)) (tmT args[0]);have pl1:=lP (decide (tlv args[1].op<tlv op+1)) (tmT args[1]);have psy:=wS op;have htl:=bP8 op;have hop:op.toNat<=15:=by rcases qB with rfl | rfl | rfl | rfl | rfl <;> decide
  refine .sr<|.fA Z iI<|.lD Z kW Hm Z<|.yw (.call MX Z (λW s=>aA2 H op W s.agr))<|.aq Z<|.sq<|.fL 21 [(0,0),(1,0),(2,0),(3,0),(4,0),(5,0),(6,0),(7,0),(8,0),(9,0),(10,0),(11,0),(12,0),(13,0),(14,0),(15,0),(16,0),(17,0),(18,0),(19,0),(20,0)]<|.fA Z eJ<|.lD Z dQ Hm Z<|.yw (.indexSl dW Z Z (i:=0) Z (by omega) (q:=o0+0 * 4) Z)<|.yw (.loadMW Z eC m0 l0)<|.mv Z<|.yw (.call EV Z (λW s=>vQ H _ (tlv op) (ih _ (bI h0)) _ W r0 (.inl (hta _ (bI h0))) (by omega) s.agr))<|.yw (.app Z Z (by (try simp only [aH,aI,aL]);omega))<|.fA Z iI<|.lD Z kW Hm Z<|.yw (.indexArr IK Z Z Z (by omega) (q:=op.toNat) (by omega))<|.yw (.loadM (k:=op.toNat) (v:=cH (JI op)) Z cP G.syms (by omega) (by show _=some (cH (xB.getD op.toNat []));exact uV (by show op.toNat<22;omega) []))<|.yw (.app Z Z (by (try simp only [aH,aI,aL]);omega))<|.yw (.app Z Z (by (try simp only [aH,aI,aL]);omega))<|.fA Z eJ<|.lD Z dQ Hm Z<|.yw (.indexSl dW Z Z (i:=1) Z (by omega) (q:=o0+1 * 4) Z)<|.yw (.loadMW Z eC m1 l1)<|.mv Z<|.yw (.add Z Z w7)<|.yw (.call EV Z (λW s=>vQ H _ (tlv op+1) (ih _ (bI h1)) _ W r1 (.inl (hta _ (bI h1))) (by omega) s.agr))<|.yw (.app Z Z (by (try simp only [aH,aI,aL]);omega))<|.fn (tl:=[_]) Z<|.az Z<|.bR<|.tR<|?_
  refine y9 Z Z λW s=>⟨?_,s.ext⟩
  first
   | (rw [tm1 q1])
   | (rw [tm4 q4];rfl)
   | (rw [tm5 q5])
   | (rw [tm6 q6 h0];rfl)
   | (rw [tm8 q8];rfl)
   | (rw [tm9 q9 h0];rfl)
   | (rw [tmb qB h0 h1];rfl)
   | (rw [tmn q1 q4 q5 q6 q8 q9 qB];rfl)
 have qB:¬ (op=11\/op=12\/op=13\/op=14\/op=15):=by rw [h42] at eqB;exact aP eqB.symm
 refine .sk<|.bN<|.tN<|.sr<|.az Z<|?_
 refine y9 Z Z λW s=>⟨?_,s.ext⟩
 first
  | (rw [tm1 q1])
  | (rw [tm4 q4];rfl)
  | (rw [tm5 q5])
  | (rw [tm6 q6 h0];rfl)
  | (rw [tm8 q8];rfl)
  | (rw [tm9 q9 h0];rfl)
  | (rw [tmb qB h0 h1];rfl)
  | (rw [tmn q1 q4 q5 q6 q8 q9 qB];rfl)
theorem LT (sep:Str):∀ l:List Str,Lib.join l sep=tF sep l
 | []=>rfl
 | [x]=>Lib.join_one x sep
 | x::y::r=>by
  show _=x++sep++tF sep (y::r);rw [<-LT sep (y::r),Lib.join_cons,Lib.join_cons];simp [Lib.joinTail,aX]
theorem KB (sep:Str):∀ l:List Str,(tF sep l).length<=(l.map List.length).sum+l.length * sep.length
 | []=>aR _
 | [x]=>by show x.length<=x.length+0+1 * sep.length;omega
 | x::y::r=>by
  have h:=KB sep (y::r);show (x++sep++tF sep (y::r)).length<=_;rw [aH,aH,dE,List.sum_cons,aI (a:=x),uC];omega
theorem aX9 (sep:Str):∀ (l:List Str),∀ x∈l,x.length<=(tF sep l).length
 | [y],x,h=>by rw [cI.1 h];exact bK _
 | y::z::r,x,h=>by
  show _<=(y++sep++tF sep (z::r)).length;rw [aH,aH];rcases bV.1 h with rfl | h
  ·omega
  ·have:=aX9 sep (z::r) x h;omega
section
variable {op:UInt8} {nm fd:Str} {a b:Int64} {ex:List Ex} {args:List Fm} {e0:Ex}
theorem GI (h:Fm.all jQ (.mk op nm fd a b ex args)=true):jQ (.mk op nm fd a b ex args)=true/\∀ g∈args,Fm.all jQ g=true:=by
 rw [fJ,aF,bC] at h;exact h
theorem lL (h:jQ (.mk op nm fd a b ex args)=true):¬ (cS op).lv=0/\args.length=(cS op).ar/\uN (.mk op nm fd a b ex args)=true/\CB (.mk op nm fd a b ex args)=true:=by
 unfold jQ at h;rw [aF,aF,aF,aF,aF,aD,aD] at h;exact ⟨h.1.1.1.1.1,h.1.1.2,h.2,h.1.2⟩
theorem SN (h:jQ (.mk op nm fd a b ex args)=true):op.toNat<=18:=by
 have h1:=(lL h).1;exact Classical.byContradiction λe=>h1 (by unfold cS;rw [List.getD_eq_getElem?_getD,List.getElem?_eq_none (by show 19<=op.toNat;omega)];rfl)
theorem aZ2 (h:jQ (.mk op nm fd a b ex args)=true) (q:op=7):ex.length<=4/\∀ e∈ex,dS e=true\/e.op=0:=by
 have h1:=(lL h).2.2.1;subst q;unfold uN at h1;rw [aO (show (Fm.mk 7 nm fd a b ex args).op=7 from rfl),aF,aD,bC] at h1;refine ⟨h1.1,λe he=>?_⟩;have h2:=h1.2 e he;rw [aT] at h2;rcases h2 with h2 | h2
 ·obtain ⟨o,n,m,al⟩:=e;unfold BG at h2;simp only [aF,aD] at h2;exact .inr h2.1.1.1
 ·exact .inl h2
theorem VU (h:jQ (.mk op nm fd a b ex args)=true) (q:¬ op=7):ex.length=(cS op).ex/\(if op=3 then HV (ex.headD (.mk 0 [] 0 [])) else if op=5 then dS (ex.headD (.mk 0 [] 0 [])) else if op=18 then decide ((ex.headD (.mk 0 [] 0 [])).op=1) && dS (ex.headD (.mk 0 [] 0 [])) && decide ((ex.headD (.mk 0 [] 0 [])).n.toInt<=32) else true)=true:=by
 have h1:=(lL h).2.2.1;unfold uN at h1;rw [aG (show ¬ (Fm.mk op nm fd a b ex args).op=7 from q),aF,aD] at h1;exact h1
theorem VV (h:jQ (.mk op nm fd a b ex args)=true) (q:op=5\/op=18):∃ e0,ex=[e0]/\dS e0=true:=by
 have h1:=VU h (by rcases q with rfl | rfl <;> decide);have hl:ex.length=1:=h1.1.trans (by rcases q with rfl | rfl <;> rfl);obtain ⟨e0,rfl⟩:=List.length_eq_one_iff.1 hl;refine ⟨e0,Z,?_⟩;have h2:=h1.2;rcases q with rfl | rfl
 ·exact h2
 ·rw [aG (by decide),aG (by decide),aO rfl,aF,aF] at h2;exact h2.1.2
theorem aZ3 (h:jQ (.mk op nm fd a b ex args)=true) (q:op=3):∃ op0 nm0 m0 args0,ex=[.mk op0 nm0 m0 args0]/\(16<=op0.toNat/\op0.toNat<=21)/\args0.length=2/\∀ a∈args0,dS a=true:=by
 have h1:=VU h (by subst q;decide);have hl:ex.length=1:=h1.1.trans (by subst q;rfl);obtain ⟨⟨op0,nm0,m0,args0⟩,rfl⟩:=List.length_eq_one_iff.1 hl;refine ⟨op0,nm0,m0,args0,Z,?_⟩;have h2:=h1.2;rw [aO q] at h2;change HV (.mk op0 nm0 m0 args0)=true at h2;unfold HV at h2;simp only [aF,aD] at h2;rw [sI,bC] at h2;exact ⟨⟨h2.1.1.1.1,h2.1.1.1.2⟩,h2.2.2,h2.2.1⟩
theorem fx3 {op0:UInt8} {nm0:Str} {m0:Int64} {args0:List Ex} (h:op=3) (he:ex=[.mk op0 nm0 m0 args0]) (h0:0<args0.length) (h1:1<args0.length):fmT (.mk op nm fd a b ex args)=(tmT args0[0]++([32]:Str)++JI op0++([32]:Str)++tmT args0[1]:Str):=by
 match args0,h1 with
 | x::y::r,_=>rw [tU];subst h he;rfl
theorem fx4 (h:op=4):fmT (.mk op nm fd a b ex args)=(nm++([46]:Str)++fd:Str):=by rw [tU];subst h;rfl
theorem fx5 (h:op=5) (he:ex=[e0]):fmT (.mk op nm fd a b ex args)=(uF op++([32]:Str)++nm++([46]:Str)++fd++([91]:Str)++tmT e0++([93]:Str):Str):=by rw [tU];subst h he;rfl
theorem fx6 (h:op=6):fmT (.mk op nm fd a b ex args)=(uF op++([32]:Str)++nm:Str):=by rw [tU];subst h;rfl
theorem fx7 (h:op=7):fmT (.mk op nm fd a b ex args)=(uF op++([32]:Str)++nm++([46]:Str)++fd++([40]:Str)++tF ([44,32]:Str) (ex.map tmT)++([41]:Str):Str):=by rw [tU];subst h;rfl
def pfW (k:Nat) (f:Fm):Str:=yF (decide ((cS f.op).lv<k)) (fmT f)
theorem fxu (h:op=8\/op=12\/op=13\/op=14) (h0:0<args.length):fmT (.mk op nm fd a b ex args)=(uF op++BH (.mk op nm fd a b ex args)++([32]:Str)++pfW 5 args[0]:Str):=by
 rw [tU];unfold MG pfW;rw [hd0 h0];rcases h with rfl | rfl | rfl | rfl <;> rfl
theorem fxq (h:op=16\/op=17) (h0:0<args.length):fmT (.mk op nm fd a b ex args)=(uF op++MP (.mk op nm fd a b ex args)++([32]:Str)++pfW 5 args[0]:Str):=by
 rw [tU];unfold MG pfW;rw [hd0 h0];rcases h with rfl | rfl <;> rfl
theorem JL (h:op=18) (he:ex=[e0]) (h0:0<args.length):fmT (.mk op nm fd a b ex args)=(uF op++MP (.mk op nm fd a b ex args)++([32,40]:Str)++fmT args[0]++([41,32,62,61,32]:Str)++tmT e0:Str):=by
 rw [tU];unfold MG;rw [hd0 h0];subst h he;rfl
theorem fxb (h:op=15\/op=9\/op=10\/op=11) (h0:0<args.length) (h1:1<args.length):fmT (.mk op nm fd a b ex args)=(pfW (cS op).lv args[0]++([32]:Str)++uF op++BH (.mk op nm fd a b ex args)++([32]:Str)++pfW ((cS op).lv+1) args[1]:Str):=by
 rw [tU];unfold MG pfW;rw [hd0 h0,hd1 h1];rcases h with rfl | rfl | rfl | rfl <;> rfl
theorem fxn (h3:¬ op=3) (h4:¬ op=4) (h5:¬ op=5) (h6:¬ op=6) (h7:¬ op=7) (hu:¬ (op=8\/op=12\/op=13\/op=14)) (hq:¬ (op=16\/op=17)) (h18:¬ op=18) (hb:¬ (op=15\/op=9\/op=10\/op=11)):fmT (.mk op nm fd a b ex args)=uF op:=by
 rw [tU];unfold MG;rw [aG (show ¬ (Fm.mk op nm fd a b ex args).op=3 from h3),aG (show ¬ (Fm.mk op nm fd a b ex args).op=4 from h4),aG (show ¬ (Fm.mk op nm fd a b ex args).op=5 from h5),aG (show ¬ (Fm.mk op nm fd a b ex args).op=6 from h6),aG (show ¬ (Fm.mk op nm fd a b ex args).op=7 from h7),aG (show ¬ ((Fm.mk op nm fd a b ex args).op=8\/(Fm.mk op nm fd a b ex args).op=12\/(Fm.mk op nm fd a b ex args).op=13\/(Fm.mk op nm fd a b ex args).op=14) from hu),aG (show ¬ ((Fm.mk op nm fd a b ex args).op=16\/(Fm.mk op nm fd a b ex args).op=17) from hq),aG (show ¬ (Fm.mk op nm fd a b ex args).op=18 from h18),aG (show ¬ ((Fm.mk op nm fd a b ex args).op=15\/(Fm.mk op nm fd a b ex args).op=9\/(Fm.mk op nm fd a b ex args).op=10\/(Fm.mk op nm fd a b ex args).op=11) from hb)]
 rfl
theorem ar1 (h:op=8\/op=12\/op=13\/op=14\/op=16\/op=17\/op=18):(cS op).ar=1:=by rcases h with rfl | rfl | rfl | rfl | rfl | rfl | rfl <;> rfl
theorem ar2 (h:op=15\/op=9\/op=10\/op=11):(cS op).ar=2:=by rcases h with rfl | rfl | rfl | rfl <;> rfl
theorem QY:(BH (.mk op nm fd a b ex args)).length<=46:=by
 unfold BH
 split
 ·exact aR _
 ·have h1:=kR (Fm.mk op nm fd a b ex args).a;have h2:=kR (Fm.mk op nm fd a b ex args).b;simp only [aH,aI,aL];omega
theorem KM:(MP (.mk op nm fd a b ex args)).length<=nm.length+49:=by
 have h1:=kR (Fm.mk op nm fd a b ex args).a;have h2:=kR (Fm.mk op nm fd a b ex args).b;show (([32]:Str)++nm++_++_++_++_).length<=_;simp only [aH,aI,aL];omega
theorem zU (k:Nat) (f:Fm):(fmT f).length<=(pfW k f).length/\(pfW k f).length<=(fmT f).length+2:=lP _ _
end
def nlF (f:Fm):Bool:=Fm.all (λf=>decide (f.nm.length<=1000000) && decide (f.fd.length<=1000000) && f.ex.all nlE) f
theorem TY:∀ l:List Ex,(∀ e∈l,nlE e=true)->((l.map tmT).map List.length).sum<=1000100 * Ex.counts l
 | [],_=>aR _
 | e::r,h=>by
  rw [dE,dE,List.sum_cons,Ex.counts];have h1:=FH e (h e (bD ..));have h2:=TY r λx hx=>h x (bZ _ hx);omega
theorem aS2 (e:Ex) (h:nlE e=true):(tmT (ex0 e)).length+(tmT (ex1 e)).length<=1000100 * e.count:=by
 obtain ⟨op,nm,n,args⟩:=e;unfold nlE at h;rw [lS,lC,aF,bC] at h;rw [kC];have hz:tmT zE=[95]:=vZ
 match args,h.2 with
 | [],_=>show (tmT zE).length+(tmT zE).length<=_;rw [hz,Ex.counts];decide
 | [x],h =>
  have:=FH x (h x (bD ..));show (tmT x).length+(tmT zE).length<=_;rw [hz,Ex.counts,Ex.counts];show _+1<=_;omega
 | x::y::r,h =>
  have h1:=FH x (h x (bD ..));have h2:=FH y (h y (bZ _ (bD ..)));show (tmT x).length+(tmT y).length<=_;rw [Ex.counts,Ex.counts];omega
theorem aZ6 (F:Fm) (l:List (UInt8 × Str)) (C D:Nat) (h1:F.nm.length<=1000000) (h2:F.fd.length<=1000000) (he:(tmT (exH F)).length+(tmT (ex0 (exH F))).length+(tmT (ex1 (exH F))).length<=2000200 * D+3)
 (hj:(tF ([44,32]:Str) (F.ex.map tmT)).length<=1000102 * D) (hx:(l.headD (0,[])).2.length+((l.drop 1).headD (0,[])).2.length<=3000200 * C) (w1:(BH F).length<=46) (w2:(MP F).length<=F.nm.length+49):(MG F l).length<=3000200 * (D+C+1):=by
 have w3:=GY F.op;have w4:=wS (exH F).op;have p1:=(lP (decide ((cS (l.headD (0,[])).1).lv<5)) (l.headD (0,[])).2).2;have p2:=(lP (decide ((cS (l.headD (0,[])).1).lv<(cS F.op).lv)) (l.headD (0,[])).2).2;have p3:=(lP (decide ((cS ((l.drop 1).headD (0,[])).1).lv<(cS F.op).lv+1)) ((l.drop 1).headD (0,[])).2).2;unfold MG
 repeat' split
 all_goals (try simp only [aH,aI,aL]);omega
theorem bJ7 (f:Fm) (hn:nlF f=true):(fmT f).length<=3000200 * f.count:=by
 induction f using Fm.ind with | _ op nm fd a b ex args ih
 unfold nlF at hn;rw [fJ,aF,aF,aF,aD,aD,bC,bC] at hn;obtain ⟨⟨⟨hn,hf⟩,he⟩,ha⟩:=hn;have hn':nm.length<=1000000:=hn;have hf':fd.length<=1000000:=hf;have he':∀ e∈ex,nlE e=true:=he
 have hx:∀ (l:List (UInt8 × Str)),l=args.map (λf=>(f.op,fmT f))->(l.headD (0,[])).2.length+((l.drop 1).headD (0,[])).2.length<=3000200 * Fm.counts args:=by
  rintro l rfl
  match args,ih,ha with
  | [],_,_=>exact aR _
  | [a],ih,ha =>
   have:=ih a (bD ..) (ha a (bD ..));rw [Fm.counts,Fm.counts];show (fmT a).length+0<=_;omega
  | a::b::r,ih,ha =>
   have h1:=ih a (bD ..) (ha a (bD ..));have h2:=ih b (bZ _ (bD ..)) (ha b (bZ _ (bD ..)));rw [Fm.counts,Fm.counts];show (fmT a).length+(fmT b).length<=_;omega
 have hx:=hx _ rfl
 have he0:(tmT (exH (.mk op nm fd a b ex args))).length+(tmT (ex0 (exH (.mk op nm fd a b ex args)))).length+(tmT (ex1 (exH (.mk op nm fd a b ex args)))).length<=2000200 * Ex.counts ex+3:=by
  have hz:tmT zE=[95]:=vZ
  match ex,he' with
  | [],_ =>
   show (tmT zE).length+(tmT zE).length+(tmT zE).length<=_;rw [hz];show 3<=_;omega
  | e::r,h =>
   have h1:=FH e (h e (bD ..));have h2:=aS2 e (h e (bD ..));show (tmT e).length+(tmT (ex0 e)).length+(tmT (ex1 e)).length<=_;rw [Ex.counts];omega
 have hj:=KB ([44,32]:Str) (ex.map tmT);have hs:=TY ex he';have hl2:=YO ex;rw [bJ] at hj;rw [pJ,tU];have e2:([44,32]:Str).length=2:=rfl;rw [e2] at hj;exact aZ6 _ _ _ _ hn' hf' he0 (bH hj (by omega)) hx QY KM
theorem aZ7 (s:Fs):∀ W,(Instr.field 157 (.agg (fsC s).toArray) 0).run prg W=.ok (.int .u8 (s.lv:Nat)) W:=λ_=>by kernel_rfl
theorem bU4 (s:Fs):∀ W,(Instr.field 157 (.agg (fsC s).toArray) 3).run prg W=.ok (.bool s.wn) W:=λ_=>by kernel_rfl
section
variable {op:UInt8} {nm fd:Str} {a b:Int64} {ex:List Ex} {args:List Fm}
theorem aR2 (h:(!(cS op).wn)=true):BH (.mk op nm fd a b ex args)=[]:=by
 unfold BH;exact aO (show (!(cS op).wn || decide (b.toInt<0))=true by rw [h];rfl)
theorem aR1 (h:(!(cS op).wn)=false) (h2:decide (b.toInt<0)=true):BH (.mk op nm fd a b ex args)=[]:=by
 unfold BH;exact aO (show (!(cS op).wn || decide (b.toInt<0))=true by rw [h,h2];rfl)
theorem aR0 (h:(!(cS op).wn)=false) (h2:decide (b.toInt<0)=false):BH (.mk op nm fd a b ex args)=([91]:Str)++Lib.itoa a.toInt++([44,32]:Str)++Lib.itoa b.toInt++([93]:Str):=by
 unfold BH;exact aG (show ¬ (!(cS op).wn || decide (b.toInt<0))=true by rw [h,h2];decide)
end
theorem KP (H:Hp) (G:Gf H) (gq:Gq H) (f:Fm) (cs:List Value) (w:World) (h:Rep H (dFm .u8 f) cs) (hA:Agr H w):Calls prg 91 #[.agg cs.toArray] w λr w'=>r=.returned (cH (BH f))/\Ext w w':=by
 obtain ⟨op,nm,fd,a,b,ex,args⟩:=f;obtain ⟨p1,c1,p2,c2,rfl,hs1,hs2,hnm,hfd⟩:=gR h;have hi1:=kR a;have hi2:=kR b;refine Sx.enter (H:=H) func91 rfl ntmps91 rfl hA ?_;refine .sr<|.bx Z Z Z λb1=>.aq Z<|.sq<|.sr<|.fA Z gC<|.lD Z kX Hm Z<|.yw (.call (v:=.agg (fsC (cS op)).toArray) rI Z (λW s=>oY H G op W s.agr))<|.yw (.fld Z (bU4 _))<|.yw (.not Z)<|.mv Z<|.b2 (λh8=>?_) (λh8=>?_)
 ·try simp only [dt] at h8
  refine .gG<|.gG<|.gG<|.yw (.pickT Z Z)<|.nt<|.cT Z<|.sr<|.az Z<|.tR<|?_
  refine y9 Z Z λW s=>⟨?_,s.ext⟩
  first
   | (rw [aR1 h8 h12];rfl)
   | (rw [aR0 h8 h12];rfl)
   | (rw [aR2 h8];rfl)
 try simp only [df] at h8
 refine .gy (.fieldAddr Z hP)<|.gy (.load Z cC Hm Z)<|.gy (.lss Z Z)<|.yw (.pickF Z Z)<|.nt<|.cd Z (λh12=>?_) (λh12=>?_)
 ·refine .sr<|.az Z<|.tR<|?_
  refine y9 Z Z λW s=>⟨?_,s.ext⟩
  first
   | (rw [aR1 h8 h12];rfl)
   | (rw [aR0 h8 h12];rfl)
   | (rw [aR2 h8];rfl)
 refine .sk<|.tN<|.sq<|.fL 10 [(0,0),(1,0),(2,0),(3,0),(4,0),(5,0),(6,0),(7,0),(8,0),(9,0)]<|.fA Z jB<|.lD Z cC Hm Z<|.yw (.call AL Z (λW s=>GG H gq a W s.agr))<|.yw (.app Z Z (by (try simp only [aH,aI,aL]);omega))<|.yw (.app Z Z (by (try simp only [aH,aI,aL]);omega))<|.fA Z hP<|.lD Z cC Hm Z<|.yw (.call AL Z (λW s=>GG H gq b W s.agr))<|.yw (.app Z Z (by (try simp only [aH,aI,aL]);omega))<|.yw (.app Z Z (by (try simp only [aH,aI,aL]);omega))<|.fn (tl:=[_]) Z<|.az Z<|?_
 refine y9 Z Z λW s=>⟨?_,s.ext⟩
 first
  | (rw [aR1 h8 h12];rfl)
  | (rw [aR0 h8 h12];rfl)
  | (rw [aR2 h8];rfl)
theorem PX (H:Hp) (gq:Gq H) (f:Fm) (cs:List Value) (w:World) (h:Rep H (dFm .u8 f) cs) (hA:Agr H w):Calls prg 93 #[.agg cs.toArray] w λr w'=>r=.returned (cH (MP f))/\Ext w w':=by
 obtain ⟨op,nm,fd,a,b,ex,args⟩:=f;obtain ⟨p1,c1,p2,c2,rfl,hs1,hs2,hnm,hfd⟩:=gR h;have hi1:=kR a;have hi2:=kR b;refine Sx.enter (H:=H) func93 rfl ntmps93 rfl hA ?_;refine .sr<|.bx Z Z Z λb1=>.aq Z<|.sq<|.fL 13 [(0,0),(1,0),(2,0),(3,0),(4,0),(5,0),(6,0),(7,0),(8,0),(9,0),(10,0),(11,0),(12,0)]<|.fA Z kJ<|.lD Z cP Hm Z<|.yw (.app Z Z (by (try simp only [aH,aI,aL]);omega))<|.yw (.app Z Z (by (try simp only [aH,aI,aL]);omega))<|.fA Z jB<|.lD Z cC Hm Z<|.yw (.call AL Z (λW s=>GG H gq a W s.agr))<|.yw (.app Z Z (by (try simp only [aH,aI,aL]);omega))<|.yw (.app Z Z (by (try simp only [aH,aI,aL]);omega))<|.fA Z hP<|.lD Z cC Hm Z<|.yw (.call AL Z (λW s=>GG H gq b W s.agr))<|.yw (.app Z Z (by (try simp only [aH,aI,aL]);omega))<|.fn (tl:=[_]) Z<|.az Z<|?_
 refine y9 Z Z λW s=>⟨?_,s.ext⟩
 first
  | (rfl)
variable {a:Int64}
theorem wF (H:Hp) (G:Gf H) {op:UInt8} {nm fd:Str} {b:Int64} {ex:List Ex} {args:List Fm} (i k:Nat) (hk:i<args.length) (ht:(∀ (cs:List Value) (W:World),Rep H (dFm .u8 args[i]) cs->Fm.all jQ args[i]=true->(fmT args[i]).length<=1000000000->Agr H W->Calls prg 48 #[.agg cs.toArray] W λr W'=>r=.returned (cH (fmT args[i]))/\Ext W W')) (cs:List Value) (w:World) (h:Rep H (dFm .u8 (.mk op nm fd a b ex args)) cs) (hok:Fm.all jQ args[i]=true) (hl:(fmT args[i]).length<=1000000000) (hA:Agr H w) :
 Calls prg 92 #[.agg cs.toArray,iN i,.int .u8 (k:Nat)] w λr w'=>r=.returned (cH (pfW k args[i]))/\Ext w w':=by
 obtain ⟨p1,c1,p2,c2,rfl,hs1,hs2,hnm,hfd⟩:=gR h;have hcap:=hs2.cap;obtain ⟨bE,oE,cE,hpE,rE,lE,mE⟩:=hs2.elem (fW (f:=dFm .u8) hk);cases hpE;generalize ef:args[i]=g at rE ht hok hl|-;obtain ⟨op0,nm0,fd0,a0,b0,ex0,args0⟩:=g;obtain ⟨q1,d1,q2,d2,rfl,g1,g2,gn,gf⟩:=gR rE;clear ef;have ef:=@id True trivial;refine Sx.enter (H:=H) func92 rfl ntmps92 rfl hA ?_;refine .sr<|.bx Z Z Z λb3=>.a Z Z<|.ns<|.fA Z hI<|.lD Z qS Hm Z<|.mv Z<|.yw (.indexSl qD Z Z (i:=i) Z hk (q:=oE+i * 7) Z)<|.yw (.loadMW Z cQ mE lE)<|.al fV Z λb7=>.sX .head Z Z dM Z<|.nt<|.sq<|.sr<|.fA Z gC<|.lD Z kX Hm Z<|.yw (.call (v:=.agg (fsC (cS _)).toArray) rI Z (λW s=>oY H G _ W s.agr))<|.yw (.fld Z (aZ7 _))<|.mv Z<|.yw (.lss Z Z)<|.nt<|.cd Z (λh18=>?_) (λh18=>?_)
 ·have h18:(cS op0).lv<k:=by have:=aJ h18;omega
  refine .sr<|.yw (.loadW Z cQ Hm Z)<|.yw (.call DA Z (λW s=>ht _ W rE hok hl s.agr))<|.yw (.app Z Z (by (try simp only [aH,aI,aL]);omega))<|.yw (.app Z Z (by (try simp only [aH,aI,aL]);omega))<|.az Z<|.tR<|?_
  refine y9 Z Z λW s=>⟨?_,s.ext⟩
  first
   | (unfold pfW;rw [show decide ((cS (Fm.op (.mk op0 nm0 fd0 a0 b0 ex0 args0))).lv<k)=true from aK h18];rfl)
   | (unfold pfW;rw [show decide ((cS (Fm.op (.mk op0 nm0 fd0 a0 b0 ex0 args0))).lv<k)=false from aM h18];rfl)
 have h18:¬ (cS op0).lv<k:=λe=>aP h18 (by omega);refine .sk<|.tN<|.sr<|.yw (.loadW Z cQ Hm Z)<|.yw (.call DA Z (λW s=>ht _ W rE hok hl s.agr))<|.az Z<|?_
 refine y9 Z Z λW s=>⟨?_,s.ext⟩
 first
  | (unfold pfW;rw [show decide ((cS (Fm.op (.mk op0 nm0 fd0 a0 b0 ex0 args0))).lv<k)=true from aK h18];rfl)
  | (unfold pfW;rw [show decide ((cS (Fm.op (.mk op0 nm0 fd0 a0 b0 ex0 args0))).lv<k)=false from aM h18];rfl)
variable {n:Nat}
theorem wu8 (h:n<255):IntKind.u8.wrap ((n:Int)+1)=((n+1:Nat):Int):=by
 have key:∀ i∈List.range 256,IntKind.u8.wrap (i:Int)=(i:Int):=by decide +kernel
 exact key (n+1) (cD.2 (by omega))
variable {k:Nat}
theorem XL {l:List Ex} (h:k<l.length):l.take (k+1)=l.take k++[l[k]]:=by rw [List.take_succ,List.getElem?_eq_getElem h];rfl
theorem bS7 (W:World) (b o c:Nat) (xs:List Str) (h:∀ (j:Nat) x,xs[j]? = some x->W.cell? ⟨b,o+j,none⟩=some (cH x)) (hb:b<W.heap.size) (hN:xs.length<=140737488355328) (hc:xs.length<=c) (hl:(tF ([44,32]:Str) xs).length<=140737488355328) :
 Calls prg 90 #[.slice (some ⟨b,o,none⟩) xs.length c,cH [44,32]] W λe w'=>e=.returned (cH (tF ([44,32]:Str) xs))/\Ext W w':=by
 have e1:((xs.map λl=>(⟨l.toArray⟩:ByteArray)).map (·.data.toList))=xs:=by simp [Function.comp_def]
 have h2:=Tryz.strings_Join b o c (xs.map λl=>(⟨l.toArray⟩:ByteArray)) ⟨#[44,32]⟩ W (λj x e=>by
  rw [List.getElem?_map] at e;cases e2:xs[j]? with
  | none=>rw [e2] at e;cases e
  | some y=>rw [e2] at e;cases e;exact h j y e2) hb (by simpa using hN) (by simpa using hc) (by rw [e1,LT];exact hl)
 rw [e1,bJ,LT] at h2;exact h2.mono λe w' ⟨a,k⟩=>⟨a,Ext.of_below k⟩
variable {w0 W:World} {bs:List Res} {T:TypeId}
theorem aX7 {r:Value} (xs:List Str) (hn:xs.length=n) (s:St H w0 bs W) (hm:Res.row T 1 r n (xs.map cH)∈bs) (hN:xs.length<=1000) (hl:(tF ([44,32]:Str) xs).length<=140737488355328) :
 Calls prg 90 #[r,cH [44,32]] W λe w'=>e=.returned (cH (tF ([44,32]:Str) xs))/\Ext W w':=by
 have ho:W.ownsRow w0.heap.size T 1 r n (xs.map cH):=(s.own _ hm).1;subst hn;rcases ho.2 with ⟨hr,h0⟩ | ⟨g,cap,cur,hr,_,hg,hc,_⟩
 ·obtain rfl:=bQ h0;subst hr;exact (Tryz.strings_Join_none none 0 ⟨#[44,32]⟩ W).mono λe w' ⟨h1,h2⟩=>⟨h1,h2 ▸ Ext.refl W⟩
 ·subst hr;refine bS7 W g 0 cap xs (λj x e=>?_) ?_ (by omega) hc hl
  ·have:=World.ownsRow.cells ho (g:=g) rfl j (cH x) (by rw [List.getElem?_map,e];rfl);rw [Addr.add_lit,dV] at this;rw [dV];exact this
  ·exact (Array.getElem?_eq_some_iff.1 hg).1
set_option maxHeartbeats 4000000 in
theorem aK3 (H:Hp) (G:Gf H) (gq:Gq H) (f:Fm):(∀ (cs:List Value) (W:World),Rep H (dFm .u8 f) cs->Fm.all jQ f=true->(fmT f).length<=1000000000->Agr H W->Calls prg 48 #[.agg cs.toArray] W λr W'=>r=.returned (cH (fmT f))/\Ext W W'):=by
 induction f using Fm.ind with | _ op nm fd a b ex args ih
 intro cs w h hok hl hA;obtain ⟨p1,c1,p2,c2,rfl,hs1,hs2,hnm,hfd⟩:=gR h;have hcap1:=hs1.cap;have hcap2:=hs2.cap;obtain ⟨hF,hG⟩:=GI hok;have hop:=SN hF;have hwl:=GY op;have hwn:=QY (op:=op) (nm:=nm) (fd:=fd) (a:=a) (b:=b) (ex:=ex) (args:=args);have ham:=KM (op:=op) (nm:=nm) (fd:=fd) (a:=a) (b:=b) (ex:=ex) (args:=args);refine Sx.enter (H:=H) func48 rfl ntmps48 rfl hA ?_;refine .sr<|.bx Z Z Z λb1=>.a Z Z<|.ns<|.fA Z gC<|.lD Z kX Hm Z<|.yw (.indexArr aP7 Z Z Z (by omega) (q:=op.toNat) (by omega))<|.yw (.loadM (k:=op.toNat) (v:=cH (uF op)) Z cP G.words (by omega) (by show _=some (cH (SK.getD op.toNat []));exact uV (by show op.toNat<19;omega) []))<|.aq Z<|.sq<|.sr<|.fA Z gC<|.lD Z kX Hm Z<|.nt<|.bk<|.sr<|.yw (.eql Z Z)<|.aq Z<|.cd Z (λh15=>?_) (λh15=>?_)
 ·have q3:op=3:=aS.1 (by have:=aJ h15;show op.toNat=3;omega);obtain ⟨op0,nm0,m0,args0,he,ho0,hla,hta⟩:=aZ3 hF q3;have h0:0<args0.length:=by omega
  have h1:1<args0.length:=by omega
  rw [fx3 q3 he h0 h1] at hl;simp only [aH,aI,aL] at hl;subst he;obtain ⟨bX,oX,cX,hpX,rX,lX,mX⟩:=hs1.elem (i:=0) (d:=dEx .u8 (.mk op0 nm0 m0 args0)) rfl;cases hpX;obtain ⟨p0,c0,rfl,hs0,hn0⟩:=fX rX;have hcap0:=hs0.cap;obtain ⟨bA,oA,cA,hpA,rA,lA,mA⟩:=hs0.elem (fW (f:=dEx .u8) h0);cases hpA;obtain ⟨bB,oB,cB,hpB,rB,lB,mB⟩:=hs0.elem (fW (f:=dEx .u8) h1);cases hpB;have psy:=wS op0;refine .sr<|.fA Z cY<|.lD Z dQ Hm Z<|.yw (.indexSl dW Z Z (i:=0) Z (by first | omega | exact Nat.succ_pos _) (q:=oX+0 * 4) Z)<|.yw (.loadMW Z eC mX Z)<|.al lI Z λb4=>.sX .head Z Z gQ Z<|.nt<|.sq<|.fL 18 [(0,0),(1,0),(2,0),(3,0),(4,0),(5,0),(6,0),(7,0),(8,0),(9,0),(10,0),(11,0),(12,0),(13,0),(14,0),(15,0),(16,0),(17,0)]<|.fA Z eJ<|.lD Z dQ Hm Z<|.yw (.indexSl dW Z Z (i:=0) Z (by first | omega | exact Nat.succ_pos _) (q:=oA+0 * 4) Z)<|.yw (.loadMW Z eC mA lA)<|.yw (.call sZ Z (λW s=>tH H G gq _ _ W rA (.inl (hta _ (bI h0))) (by omega) s.agr))<|.yw (.app Z Z (by (try simp only [aH,aI,aL]);omega))<|.fA Z iI<|.lD Z kW Hm Z<|.yw (.indexArr IK Z Z Z (by omega) (q:=op0.toNat) (by omega))<|.yw (.loadM (k:=op0.toNat) (v:=cH (JI op0)) Z cP G.syms (by omega) (by show _=some (cH (xB.getD op0.toNat []));exact uV (by show op0.toNat<22;omega) []))<|.yw (.app Z Z (by (try simp only [aH,aI,aL]);omega))<|.yw (.app Z Z (by (try simp only [aH,aI,aL]);omega))<|.fA Z eJ<|.lD Z dQ Hm Z<|.yw (.indexSl dW Z Z (i:=1) Z (by first | omega | exact Nat.succ_pos _) (q:=oA+1 * 4) Z)<|.yw (.loadMW Z eC mB lB)<|.yw (.call sZ Z (λW s=>tH H G gq _ _ W rB (.inl (hta _ (bI h1))) (by omega) s.agr))<|.yw (.app Z Z (by (try simp only [aH,aI,aL]);omega))<|.fn (tl:=[_]) Z<|.az Z<|.bR<|.tR<|?_
  refine y9 Z Z λW s=>⟨?_,s.ext⟩
  first
   | (rw [fx3 q3 rfl h0 h1];rfl)
   | (rw [fx4 q4];rfl)
   | (rw [fx5 q5 rfl];rfl)
   | (rw [fx6 q6];rfl)
   | (rw [fx7 q7];rfl)
   | (rw [fxu qU h0];rfl)
   | (rw [fxq qQ h0];rfl)
   | (rw [JL q18 rfl h0];rfl)
   | (rw [fxb qB h0 h1];rfl)
   | (rw [fxn q3 q4 q5 q6 q7 qU qQ q18 qB])
 have q3:¬ op=3:=λe=>aP h15 (by rw [e];rfl);refine .sr<|.yw (.eql Z Z)<|.aq Z<|.cd Z (λh39=>?_) (λh39=>?_)
 ·have q4:op=4:=aS.1 (by have:=aJ h39;show op.toNat=4;omega);refine .sr<|.fA Z kJ<|.lD Z cP Hm Z<|.yw (.app Z Z (by (try simp only [aH,aI,aL]);omega))<|.fA Z kI<|.lD Z cP Hm Z<|.yw (.app Z Z (by (try simp only [aH,aI,aL]);omega))<|.az Z<|.bR<|.tR<|?_
  refine y9 Z Z λW s=>⟨?_,s.ext⟩
  first
   | (rw [fx3 q3 rfl h0 h1];rfl)
   | (rw [fx4 q4];rfl)
   | (rw [fx5 q5 rfl];rfl)
   | (rw [fx6 q6];rfl)
   | (rw [fx7 q7];rfl)
   | (rw [fxu qU h0];rfl)
   | (rw [fxq qQ h0];rfl)
   | (rw [JL q18 rfl h0];rfl)
   | (rw [fxb qB h0 h1];rfl)
   | (rw [fxn q3 q4 q5 q6 q7 qU qQ q18 qB])
 have q4:¬ op=4:=λe=>aP h39 (by rw [e];rfl);refine .sr<|.yw (.eql Z Z)<|.aq Z<|.cd Z (λh47=>?_) (λh47=>?_)
 ·have q5:op=5:=aS.1 (by have:=aJ h47;show op.toNat=5;omega);obtain ⟨e0,he,hte⟩:=VV hF (.inl q5);rw [fx5 q5 he] at hl;simp only [aH,aI,aL] at hl;subst he;obtain ⟨bX,oX,cX,hpX,rX,lX,mX⟩:=hs1.elem (i:=0) (d:=dEx .u8 e0) rfl;cases hpX

  refine .sq<|.fL 17 [(0,0),(1,0),(2,0),(3,0),(4,0),(5,0),(6,0),(7,0),(8,0),(9,0),(10,0),(11,0),(12,0),(13,0),(14,0),(15,0),(16,0)]<|.mv Z<|.yw (.app Z Z (by (try simp only [aH,aI,aL]);omega))<|.fA Z kJ<|.lD Z cP Hm Z<|.yw (.app Z Z (by (try simp only [aH,aI,aL]);omega))<|.yw (.app Z Z (by (try simp only [aH,aI,aL]);omega))<|.fA Z kI<|.lD Z cP Hm Z<|.yw (.app Z Z (by (try simp only [aH,aI,aL]);omega))<|.yw (.app Z Z (by (try simp only [aH,aI,aL]);omega))<|.fA Z cY<|.lD Z dQ Hm Z<|.yw (.indexSl dW Z Z (i:=0) Z (by first | omega | exact Nat.succ_pos _) (q:=oX+0 * 4) Z)<|.yw (.loadMW Z eC mX lX)<|.yw (.call sZ Z (λW s=>tH H G gq _ _ W rX (.inl hte) (by omega) s.agr))<|.yw (.app Z Z (by (try simp only [aH,aI,aL]);omega))<|.yw (.app Z Z (by (try simp only [aH,aI,aL]);omega))<|.fn (tl:=[_]) Z<|.az Z<|.bR<|.tR<|?_
  refine y9 Z Z λW s=>⟨?_,s.ext⟩
  first
   | (rw [fx3 q3 rfl h0 h1];rfl)
   | (rw [fx4 q4];rfl)
   | (rw [fx5 q5 rfl];rfl)
   | (rw [fx6 q6];rfl)
   | (rw [fx7 q7];rfl)
   | (rw [fxu qU h0];rfl)
   | (rw [fxq qQ h0];rfl)
   | (rw [JL q18 rfl h0];rfl)
   | (rw [fxb qB h0 h1];rfl)
   | (rw [fxn q3 q4 q5 q6 q7 qU qQ q18 qB])
 have q5:¬ op=5:=λe=>aP h47 (by rw [e];rfl);refine .sr<|.yw (.eql Z Z)<|.aq Z<|.cd Z (λh66=>?_) (λh66=>?_)
 ·have q6:op=6:=aS.1 (by have:=aJ h66;show op.toNat=6;omega);refine .sm Z<|.yw (.app Z Z (by (try simp only [aH,aI,aL]);omega))<|.fA Z kJ<|.lD Z cP Hm Z<|.yw (.app Z Z (by (try simp only [aH,aI,aL]);omega))<|.az Z<|.bR<|.tR<|?_
  refine y9 Z Z λW s=>⟨?_,s.ext⟩
  first
   | (rw [fx3 q3 rfl h0 h1];rfl)
   | (rw [fx4 q4];rfl)
   | (rw [fx5 q5 rfl];rfl)
   | (rw [fx6 q6];rfl)
   | (rw [fx7 q7];rfl)
   | (rw [fxu qU h0];rfl)
   | (rw [fxq qQ h0];rfl)
   | (rw [JL q18 rfl h0];rfl)
   | (rw [fxb qB h0 h1];rfl)
   | (rw [fxn q3 q4 q5 q6 q7 qU qQ q18 qB])
 have q6:¬ op=6:=λe=>aP h66 (by rw [e];rfl);refine .sr<|.yw (.eql Z Z)<|.aq Z<|.cd Z (λh73=>?_) (λh73=>?_)
 ·have q7:op=7:=aS.1 (by have:=aJ h73;show op.toNat=7;omega);obtain ⟨hle,hte⟩:=aZ2 hF q7;rw [fx7 q7] at hl;simp only [aH,aI,aL] at hl

  refine .sq<|?_
  refine Sx.row0 9 1 ?_;refine .rg<|.aq Z<|.sq<|.sr<|.fA Z cY<|.lD Z dQ dC Z<|.yw (.lenSl dW Z)<|.mv Z<|.nt<|.bk<|.lp (X:=Nat × Value × List Value) [(1,_),(3,_),(76,_),(77,_)] ⟨Z,Z,Z,Z,Jt⟩ [_] (λz=>[(5,z.2.1),(78,iN z.1)]) (λz=>H) (λz=>[.row 9 1 z.2.1 z.1 z.2.2]) (λz=>z.1<=ex.length/\z.2.2=((ex.take z.1).map tmT).map cH) (λz=>ex.length - z.1) (0,.slice none 0 0,[]) (λ_ s=>s) ⟨Z,Z,Jt⟩ ⟨aR _,Z⟩ λz hC=>?_
  obtain ⟨k,rv,xs⟩:=z;obtain ⟨hk0,hxs⟩:=hC;dsimp only at hk0 hxs|-;subst hxs;refine .sr<|.yw (.lss Z Z)<|.nt<|.sq<|.ce Z (λh79=>?_) (λh79=>?_)
  ·have hk:k<ex.length:=by omega
   obtain ⟨bX,oX,cX,hpX,rX,lX,mX⟩:=hs1.elem (fW (f:=dEx .u8) hk);cases hpX;have hj:=aX9 ([44,32]:Str) (ex.map tmT) (tmT ex[k]) (lM.2 ⟨_,bI hk,Z⟩);exact .sk<|.tN<|.sq<|.bk<|.sr<|.yw (.indexSl dW Z Z (i:=k) Z hk (q:=oX+k * 4) Z)<|.yw (.loadMW Z eC mX lX)<|.al lI Z λb7=>.sV .head Z Z gQ lX rX.one Z<|.nt<|.rg<|.mv Z<|.yw (.loadW Z eC Hm lX)<|.yw (.call sZ Z (λW s=>tH H G gq _ _ W rX (hte _ (bI hk)) (by omega) s.agr))<|.bl Z (ZR _) Z λb85=>.ap (news:=[cH (tmT ex[k])]) bE3 Z (λ_=>oV) Z (.box Hm z0) Z (by simp [Value.oneCell',cH]) (by simp [maxLen];omega) (by omega) Z λr86 _=>.a Z Z<|.nl<|.bN<|.tN<|.rg<|.yw (.add Z Z w7)<|.mv Z<|.nt<|.ag (x:=(k,rv,((ex.take k).map tmT).map cH)) (k+1,r86,(((ex.take k).map tmT).map cH)++[cH (tmT ex[k])]) ⟨Z,Z,Jt⟩ ⟨Z,Z,Z,Z,Jt⟩ (λ_ s=>s.pick [2,3] [_,_] Z Z) ⟨hk,by rw [XL hk,cL,cL];rfl⟩ (by omega)
  obtain rfl:k=ex.length:=by omega
  rw [aZ];refine .ex<|.eb<|.sq<|.fL 14 [(0,0),(1,0),(2,0),(3,0),(4,0),(5,0),(6,0),(7,0),(8,0),(9,0),(10,0),(11,0),(12,0),(13,0)]<|.mv Z<|.yw (.app Z Z (by (try simp only [aH,aI,aL]);omega))<|.fA Z kJ<|.lD Z cP dC Z<|.yw (.app Z Z (by (try simp only [aH,aI,aL]);omega))<|.yw (.app Z Z (by (try simp only [aH,aI,aL]);omega))<|.fA Z kI<|.lD Z cP dC Z<|.yw (.app Z Z (by (try simp only [aH,aI,aL]);omega))<|.yw (.app Z Z (by (try simp only [aH,aI,aL]);omega))<|.mv Z<|.yw (.call aN3 Z (λW s=>aX7 (ex.map tmT) (bJ ..) s Hm (by rw [bJ];omega) (by omega)))<|.yw (.app Z Z (by (try simp only [aH,aI,aL]);omega))<|.yw (.app Z Z (by (try simp only [aH,aI,aL]);omega))<|.fn (tl:=[_]) Z<|.az Z<|.bR<|.tR<|?_
  refine y9 Z Z λW s=>⟨?_,s.ext⟩
  first
   | (rw [fx3 q3 rfl h0 h1];rfl)
   | (rw [fx4 q4];rfl)
   | (rw [fx5 q5 rfl];rfl)
   | (rw [fx6 q6];rfl)
   | (rw [fx7 q7];rfl)
   | (rw [fxu qU h0];rfl)
   | (rw [fxq qQ h0];rfl)
   | (rw [JL q18 rfl h0];rfl)
   | (rw [fxb qB h0 h1];rfl)
   | (rw [fxn q3 q4 q5 q6 q7 qU qQ q18 qB])
 have q7:¬ op=7:=λe=>aP h73 (by rw [e];rfl);refine .cu (X:=Bool) [(1,_),(3,_),(14,_)] ⟨Z,Z,Z,Jt⟩ (λz=>[(102,.bool z)]) (λz=>H) (λz=>[.box b1 [.int .u8 op.toNat,cH nm,cH fd,.int .i64 a.toInt,.int .i64 b.toInt,.slice p1 ex.length c1,.slice p2 args.length c2] 35]) (λz=>z=decide (op=8\/op=12\/op=13\/op=14)) ?_ λz hC=>?_
 ·
  refine .sr<|.yw (.eql Z Z)<|.aq Z<|.cr Z (λh102=>?_) (λh102=>?_)
  ·have qu:op=8:=aS.1 (by have:=aJ h102;show op.toNat=8;omega);exact .sk<|.tN<|.me _ ⟨Z,Jt⟩ ⟨Z,Z,Z,Jt⟩ (λ_ s=>s) (by first | (rw [qu];rfl) | (simp only [qu8,qu12,qu13,false_or];exact k8 (m:=14) (by decide)))
  have qu8:¬ op=8:=λe=>aP h102 (by rw [e];rfl);refine .sr<|.yw (.eql Z Z)<|.aq Z<|.cr Z (λh102=>?_) (λh102=>?_)
  ·have qu:op=12:=aS.1 (by have:=aJ h102;show op.toNat=12;omega);exact .sk<|.tN<|.me _ ⟨Z,Jt⟩ ⟨Z,Z,Z,Jt⟩ (λ_ s=>s) (by first | (rw [qu];rfl) | (simp only [qu8,qu12,qu13,false_or];exact k8 (m:=14) (by decide)))
  have qu12:¬ op=12:=λe=>aP h102 (by rw [e];rfl);refine .sr<|.yw (.eql Z Z)<|.aq Z<|.cr Z (λh102=>?_) (λh102=>?_)
  ·have qu:op=13:=aS.1 (by have:=aJ h102;show op.toNat=13;omega);exact .sk<|.tN<|.me _ ⟨Z,Jt⟩ ⟨Z,Z,Z,Jt⟩ (λ_ s=>s) (by first | (rw [qu];rfl) | (simp only [qu8,qu12,qu13,false_or];exact k8 (m:=14) (by decide)))
  have qu13:¬ op=13:=λe=>aP h102 (by rw [e];rfl);exact .rg<|.yw (.eql Z Z)<|.aq Z<|.me _ ⟨Z,Jt⟩ ⟨Z,Z,Z,Jt⟩ (λ_ s=>s) (by first | (rw [qu];rfl) | (simp only [qu8,qu12,qu13,false_or];exact k8 (m:=14) (by decide)))
 have eqU:=hC;refine .cr Z (λh102=>?_) (λh102=>?_)
 ·have qU:(op=8\/op=12\/op=13\/op=14):=by rw [h102] at eqU;exact aJ eqU.symm
  have har:=(lL hF).2.1;rw [ar1 ((by rcases qU with h | h | h | h <;> simp [h]))] at har;have h0:0<args.length:=by omega
  have hok0:=hG _ (bI h0);rw [fxu qU h0] at hl;simp only [aH,aI,aL] at hl;have pl:=zU 5 args[0]

  refine .sq<|.fL 8 [(0,0),(1,0),(2,0),(3,0),(4,0),(5,0),(6,0),(7,0)]<|.mv Z<|.yw (.loadW Z cQ Hm Z)<|.yw (.call QF Z (λW s=>KP H G gq _ _ W h s.agr))<|.yw (.app Z Z (by (try simp only [aH,aI,aL]);omega))<|.yw (.app Z Z (by (try simp only [aH,aI,aL]);omega))<|.yw (.loadW Z cQ Hm Z)<|.yw (.call CW Z (λW s=>wF H G 0 5 h0 (ih _ (bI h0)) _ W h hok0 (by omega) s.agr))<|.yw (.app Z Z (by (try simp only [aH,aI,aL]);omega))<|.fn (tl:=[_]) Z<|.az Z<|.bR<|.tR<|?_
  refine y9 Z Z λW s=>⟨?_,s.ext⟩
  first
   | (rw [fx3 q3 rfl h0 h1];rfl)
   | (rw [fx4 q4];rfl)
   | (rw [fx5 q5 rfl];rfl)
   | (rw [fx6 q6];rfl)
   | (rw [fx7 q7];rfl)
   | (rw [fxu qU h0];rfl)
   | (rw [fxq qQ h0];rfl)
   | (rw [JL q18 rfl h0];rfl)
   | (rw [fxb qB h0 h1];rfl)
   | (rw [fxn q3 q4 q5 q6 q7 qU qQ q18 qB])
 have qU:¬ (op=8\/op=12\/op=13\/op=14):=by rw [h102] at eqU;exact aP eqU.symm
 refine .cu (X:=Bool) [(1,_),(3,_),(14,_)] ⟨Z,Z,Z,Jt⟩ (λz=>[(115,.bool z)]) (λz=>H) (λz=>[.box b1 [.int .u8 op.toNat,cH nm,cH fd,.int .i64 a.toInt,.int .i64 b.toInt,.slice p1 ex.length c1,.slice p2 args.length c2] 35]) (λz=>z=decide (op=16\/op=17)) ?_ λz hC=>?_
 ·
  refine .sr<|.yw (.eql Z Z)<|.aq Z<|.cr Z (λh115=>?_) (λh115=>?_)
  ·have qq:op=16:=aS.1 (by have:=aJ h115;show op.toNat=16;omega);exact .sk<|.tN<|.me _ ⟨Z,Jt⟩ ⟨Z,Z,Z,Jt⟩ (λ_ s=>s) (by first | (rw [qq];rfl) | (simp only [qq16,false_or];exact k8 (m:=17) (by decide)))
  have qq16:¬ op=16:=λe=>aP h115 (by rw [e];rfl);exact .rg<|.yw (.eql Z Z)<|.aq Z<|.me _ ⟨Z,Jt⟩ ⟨Z,Z,Z,Jt⟩ (λ_ s=>s) (by first | (rw [qq];rfl) | (simp only [qq16,false_or];exact k8 (m:=17) (by decide)))
 have eqQ:=hC;refine .cr Z (λh115=>?_) (λh115=>?_)
 ·have qQ:(op=16\/op=17):=by rw [h115] at eqQ;exact aJ eqQ.symm
  have har:=(lL hF).2.1;rw [ar1 ((by rcases qQ with h | h <;> simp [h]))] at har;have h0:0<args.length:=by omega
  have hok0:=hG _ (bI h0);rw [fxq qQ h0] at hl;simp only [aH,aI,aL] at hl;have pl:=zU 5 args[0]

  refine .sq<|.fL 8 [(0,0),(1,0),(2,0),(3,0),(4,0),(5,0),(6,0),(7,0)]<|.mv Z<|.yw (.loadW Z cQ Hm Z)<|.yw (.call QE Z (λW s=>PX H gq _ _ W h s.agr))<|.yw (.app Z Z (by (try simp only [aH,aI,aL]);omega))<|.yw (.app Z Z (by (try simp only [aH,aI,aL]);omega))<|.yw (.loadW Z cQ Hm Z)<|.yw (.call CW Z (λW s=>wF H G 0 5 h0 (ih _ (bI h0)) _ W h hok0 (by omega) s.agr))<|.yw (.app Z Z (by (try simp only [aH,aI,aL]);omega))<|.fn (tl:=[_]) Z<|.az Z<|.bR<|.tR<|?_
  refine y9 Z Z λW s=>⟨?_,s.ext⟩
  first
   | (rw [fx3 q3 rfl h0 h1];rfl)
   | (rw [fx4 q4];rfl)
   | (rw [fx5 q5 rfl];rfl)
   | (rw [fx6 q6];rfl)
   | (rw [fx7 q7];rfl)
   | (rw [fxu qU h0];rfl)
   | (rw [fxq qQ h0];rfl)
   | (rw [JL q18 rfl h0];rfl)
   | (rw [fxb qB h0 h1];rfl)
   | (rw [fxn q3 q4 q5 q6 q7 qU qQ q18 qB])
 have qQ:¬ (op=16\/op=17):=by rw [h115] at eqQ;exact aP eqQ.symm
 refine .sr<|.yw (.eql Z Z)<|.aq Z<|.cd Z (λh126=>?_) (λh126=>?_)
 ·have q18:op=18:=aS.1 (by have:=aJ h126;show op.toNat=18;omega);obtain ⟨e0,he,hte⟩:=VV hF (.inr q18);have har:=(lL hF).2.1;rw [ar1 ((by simp [q18]))] at har;have h0:0<args.length:=by omega
  have hok0:=hG _ (bI h0);rw [JL q18 he h0] at hl;simp only [aH,aI,aL] at hl;obtain ⟨bE,oE,cE,hpE,rE,lE,mE⟩:=hs2.elem (fW (f:=dFm .u8) h0);cases hpE;subst he;obtain ⟨bX,oX,cX,hpX,rX,lX,mX⟩:=hs1.elem (i:=0) (d:=dEx .u8 e0) rfl;cases hpX

  refine .sq<|.fL 18 [(0,0),(1,0),(2,0),(3,0),(4,0),(5,0),(6,0),(7,0),(8,0),(9,0),(10,0),(11,0),(12,0),(13,0),(14,0),(15,0),(16,0),(17,0)]<|.mv Z<|.yw (.loadW Z cQ Hm Z)<|.yw (.call QE Z (λW s=>PX H gq _ _ W h s.agr))<|.yw (.app Z Z (by (try simp only [aH,aI,aL]);omega))<|.yw (.app Z Z (by (try simp only [aH,aI,aL]);omega))<|.fA Z hI<|.lD Z qS Hm Z<|.yw (.indexSl qD Z Z (i:=0) Z (by omega) (q:=oE+0 * 7) Z)<|.yw (.loadMW Z cQ mE lE)<|.yw (.call DA Z (λW s=>ih _ (bI h0) _ W rE hok0 (by omega) s.agr))<|.yw (.app Z Z (by (try simp only [aH,aI,aL]);omega))<|.yw (.app Z Z (by (try simp only [aH,aI,aL]);omega))<|.fA Z cY<|.lD Z dQ Hm Z<|.yw (.indexSl dW Z Z (i:=0) Z (by first | omega | exact Nat.succ_pos _) (q:=oX+0 * 4) Z)<|.yw (.loadMW Z eC mX lX)<|.yw (.call sZ Z (λW s=>tH H G gq _ _ W rX (.inl hte) (by omega) s.agr))<|.yw (.app Z Z (by (try simp only [aH,aI,aL]);omega))<|.fn (tl:=[_]) Z<|.az Z<|.bR<|.tR<|?_
  refine y9 Z Z λW s=>⟨?_,s.ext⟩
  first
   | (rw [fx3 q3 rfl h0 h1];rfl)
   | (rw [fx4 q4];rfl)
   | (rw [fx5 q5 rfl];rfl)
   | (rw [fx6 q6];rfl)
   | (rw [fx7 q7];rfl)
   | (rw [fxu qU h0];rfl)
   | (rw [fxq qQ h0];rfl)
   | (rw [JL q18 rfl h0];rfl)
   | (rw [fxb qB h0 h1];rfl)
   | (rw [fxn q3 q4 q5 q6 q7 qU qQ q18 qB])
 have q18:¬ op=18:=λe=>aP h126 (by rw [e];rfl);refine .cu (X:=Bool) [(1,_),(3,_)] ⟨Z,Z,Jt⟩ (λz=>[(146,.bool z)]) (λz=>H) (λz=>[.box b1 [.int .u8 op.toNat,cH nm,cH fd,.int .i64 a.toInt,.int .i64 b.toInt,.slice p1 ex.length c1,.slice p2 args.length c2] 35]) (λz=>z=decide (op=15\/op=9\/op=10\/op=11)) ?_ λz hC=>?_
 ·
  refine .sr<|.yw (.eql Z Z)<|.aq Z<|.cr Z (λh146=>?_) (λh146=>?_)
  ·have qb:op=15:=aS.1 (by have:=aJ h146;show op.toNat=15;omega);exact .sk<|.tN<|.me _ ⟨Z,Jt⟩ ⟨Z,Z,Jt⟩ (λ_ s=>s) (by first | (rw [qb];rfl) | (simp only [qb15,qb9,qb10,false_or];exact k8 (m:=11) (by decide)))
  have qb15:¬ op=15:=λe=>aP h146 (by rw [e];rfl);refine .sr<|.yw (.eql Z Z)<|.aq Z<|.cr Z (λh146=>?_) (λh146=>?_)
  ·have qb:op=9:=aS.1 (by have:=aJ h146;show op.toNat=9;omega);exact .sk<|.tN<|.me _ ⟨Z,Jt⟩ ⟨Z,Z,Jt⟩ (λ_ s=>s) (by first | (rw [qb];rfl) | (simp only [qb15,qb9,qb10,false_or];exact k8 (m:=11) (by decide)))
  have qb9:¬ op=9:=λe=>aP h146 (by rw [e];rfl);refine .sr<|.yw (.eql Z Z)<|.aq Z<|.cr Z (λh146=>?_) (λh146=>?_)
  ·have qb:op=10:=aS.1 (by have:=aJ h146;show op.toNat=10;omega);exact .sk<|.tN<|.me _ ⟨Z,Jt⟩ ⟨Z,Z,Jt⟩ (λ_ s=>s) (by first | (rw [qb];rfl) | (simp only [qb15,qb9,qb10,false_or];exact k8 (m:=11) (by decide)))
  have qb10:¬ op=10:=λe=>aP h146 (by rw [e];rfl);exact .rg<|.yw (.eql Z Z)<|.aq Z<|.me _ ⟨Z,Jt⟩ ⟨Z,Z,Jt⟩ (λ_ s=>s) (by first | (rw [qb];rfl) | (simp only [qb15,qb9,qb10,false_or];exact k8 (m:=11) (by decide)))
 have eqB:=hC;refine .cr Z (λh146=>?_) (λh146=>?_)
 ·have qB:(op=15\/op=9\/op=10\/op=11):=by rw [h146] at eqB;exact aJ eqB.symm
  have har:=(lL hF).2.1;rw [ar2 qB] at har;have h0:0<args.length:=by omega
  have h1:1<args.length:=by omega
  have hok0:=hG _ (bI h0);have hok1:=hG _ (bI h1);rw [fxb qB h0 h1] at hl;simp only [aH,aI,aL] at hl;have pl:=zU (cS op).lv args[0];have pl1:=zU ((cS op).lv+1) args[1];have hlv:(cS op).lv<=4:=by rcases qB with rfl | rfl | rfl | rfl <;> decide
  refine .sr<|.fA Z gC<|.lD Z kX Hm Z<|.yw (.call (v:=.agg (fsC (cS op)).toArray) rI Z (λW s=>oY H G op W s.agr))<|.yw (.fld Z (aZ7 _))<|.aq Z<|.sq<|.fL 15 [(0,0),(1,0),(2,0),(3,0),(4,0),(5,0),(6,0),(7,0),(8,0),(9,0),(10,0),(11,0),(12,0),(13,0),(14,0)]<|.yw (.loadW Z cQ Hm Z)<|.mv Z<|.yw (.call CW Z (λW s=>wF H G 0 (cS op).lv h0 (ih _ (bI h0)) _ W h hok0 (by omega) s.agr))<|.yw (.app Z Z (by (try simp only [aH,aI,aL]);omega))<|.mv Z<|.yw (.app Z Z (by (try simp only [aH,aI,aL]);omega))<|.yw (.loadW Z cQ Hm Z)<|.yw (.call QF Z (λW s=>KP H G gq _ _ W h s.agr))<|.yw (.app Z Z (by (try simp only [aH,aI,aL]);omega))<|.yw (.app Z Z (by (try simp only [aH,aI,aL]);omega))<|.yw (.loadW Z cQ Hm Z)<|.mv Z<|.yw (.add Z Z (c:=(((cS op).lv+1:Nat):Int)) (wu8 (by omega)))<|.yw (.call CW Z (λW s=>wF H G 1 ((cS op).lv+1) h1 (ih _ (bI h1)) _ W h hok1 (by omega) s.agr))<|.yw (.app Z Z (by (try simp only [aH,aI,aL]);omega))<|.fn (tl:=[_]) Z<|.az Z<|.bR<|.tR<|?_
  refine y9 Z Z λW s=>⟨?_,s.ext⟩
  first
   | (rw [fx3 q3 rfl h0 h1];rfl)
   | (rw [fx4 q4];rfl)
   | (rw [fx5 q5 rfl];rfl)
   | (rw [fx6 q6];rfl)
   | (rw [fx7 q7];rfl)
   | (rw [fxu qU h0];rfl)
   | (rw [fxq qQ h0];rfl)
   | (rw [JL q18 rfl h0];rfl)
   | (rw [fxb qB h0 h1];rfl)
   | (rw [fxn q3 q4 q5 q6 q7 qU qQ q18 qB])
 have qB:¬ (op=15\/op=9\/op=10\/op=11):=by rw [h146] at eqB;exact aP eqB.symm
 refine .sk<|.bN<|.tN<|.sm Z<|.az Z<|?_
 refine y9 Z Z λW s=>⟨?_,s.ext⟩
 first
  | (rw [fx3 q3 rfl h0 h1];rfl)
  | (rw [fx4 q4];rfl)
  | (rw [fx5 q5 rfl];rfl)
  | (rw [fx6 q6];rfl)
  | (rw [fx7 q7];rfl)
  | (rw [fxu qU h0];rfl)
  | (rw [fxq qQ h0];rfl)
  | (rw [JL q18 rfl h0];rfl)
  | (rw [fxb qB h0 h1];rfl)
  | (rw [fxn q3 q4 q5 q6 q7 qU qQ q18 qB])
theorem bG6 {e:Ex} :∀ {cs:List Value},Rep H (dEx .u8 e) cs->nlE e=true:=by
 induction e using Ex.ind with | _ op nm n args ih
 intro cs h;obtain ⟨p,c,rfl,hs,hn⟩:=fX h;unfold nlE;rw [lS,lC,aF,aD,bC];refine ⟨hn,λa ha=>?_⟩;obtain ⟨i,hi,rfl⟩:=List.getElem_of_mem ha;obtain ⟨bE,oE,cE,hpE,rE,lE,mE⟩:=hs.elem (fW (f:=dEx .u8) hi);exact ih _ (bI hi) rE
variable {f:Fm}
theorem bG5:∀ {cs:List Value},Rep H (dFm .u8 f) cs->nlF f=true:=by
 induction f using Fm.ind with | _ op nm fd a b ex args ih
 intro cs h;obtain ⟨p1,c1,p2,c2,rfl,hs1,hs2,hnm,hfd⟩:=gR h;unfold nlF;rw [fJ,aF,aF,aF,aD,aD,bC,bC];refine ⟨⟨⟨hnm,hfd⟩,λe he=>?_⟩,λg hg=>?_⟩
 ·obtain ⟨i,hi,rfl⟩:=List.getElem_of_mem he;obtain ⟨bE,oE,cE,hpE,rE,lE,mE⟩:=hs1.elem (fW (f:=dEx .u8) hi);exact bG6 rE
 ·obtain ⟨i,hi,rfl⟩:=List.getElem_of_mem hg;obtain ⟨bE,oE,cE,hpE,rE,lE,mE⟩:=hs2.elem (fW (f:=dFm .u8) hi);exact ih _ (bI hi) rE
theorem bU7 (h:fO f=0):f.count<=60/\Fm.all jQ f=true:=by
 unfold fO at h
 split at h
 ·cases h
 ·rename_i h1
  split at h
  ·cases h
  ·split at h
   ·cases h
   ·rename_i h3;exact ⟨Nat.le_of_not_lt λe=>h1 (.inl e),by simpa using h3⟩
theorem HP (H:Hp) (GL:Gl H) (G:Gf H) (gq:Gq H) (f:Fm) (hb:blF 600000 f=true) (cs:List Value) (w:World) (h:Rep H (dFm .u8 f) cs) (hA:Agr H w):Calls prg 19 #[.agg cs.toArray] w λr w'=>r=.returned (cH (IR f))/\Ext w w':=by
 obtain ⟨op,nm,fd,a,b,ex,args⟩:=f;obtain ⟨p1,c1,p2,c2,rfl,hs1,hs2,hnm,hfd⟩:=gR h;refine Sx.enter (H:=H) func19 rfl ntmps19 rfl hA ?_;refine .sr<|.bx Z Z Z λb1=>.aq Z<|.sq<|.sr<|.yw (.loadW Z cQ Hm Z)<|.yw (.call II Z (λW s=>EN H GL G (.mk op nm fd a b ex args) hb _ W h s.agr))<|.yw (.neq Z Z)<|.nt<|.cd Z (λh5=>?_) (λh5=>?_)
 ·have hc:¬ fO (.mk op nm fd a b ex args)=0:=λe=>aJ h5 (by rw [e];rfl);refine .sr<|.az Z<|.tR<|?_
  refine y9 Z Z λW s=>⟨?_,s.ext⟩
  first
   | (unfold IR;rw [aG hc];rfl)
   | (unfold IR;rw [aO hc])
 have hc:fO (.mk op nm fd a b ex args)=0:=by have:=aP h5;omega
 obtain ⟨hk,hF⟩:=bU7 hc;refine .sk<|.tN<|.sr<|.yw (.loadW Z cQ Hm Z)<|.yw (.call DA Z (λW s=>aK3 H G gq (.mk op nm fd a b ex args) _ W h hF (bH (bJ7 _ (bG5 h)) (by omega)) s.agr))<|.az Z<|?_
 refine y9 Z Z λW s=>⟨?_,s.ext⟩
 first
  | (unfold IR;rw [aG hc];rfl)
  | (unfold IR;rw [aO hc])
theorem u8d (c k:UInt8):decide (((c.toNat:Nat):Int)=(k.toNat:Nat))=decide (c=k):=by
 rw [aU,aD,aD];exact ⟨λh=>aS.1 (by omega),λh=>by rw [h]⟩
theorem aL6 (c:UInt8) (w:World):Calls prg 147 #[DT c] w λr w'=>r=.returned (.bool (kZ c))/\Ext w w':=by
 refine y6 func147 Z ntmps147 Z ?_;refine .sr<|.a Z Z<|.ns<|.mv Z<|.yw (.cast (.eql Z Z) (congrArg Value.bool (u8d c 32)))<|.mv Z<|.b2 (λh5=>?_) (λh5=>?_)
 ·refine .gG<|.gG<|.yw (.pickT Z Z)<|.mv Z<|.gG<|.gG<|.yw (.pickT Z Z)<|.mv Z<|.gG<|.gG<|.yw (.pickT Z Z)<|.az Z<|?_
  refine y9 Z Z λW s=>⟨?_,s.ext⟩
  first
   | (unfold kZ;rw [h5];rfl)
   | (unfold kZ;rw [h5,h9];rfl)
   | (unfold kZ;rw [h5,h9,h13];rfl)
 refine .gy (.move Z)<|.gy (.cast (.eql Z Z) (congrArg Value.bool (u8d c 9)))<|.yw (.pickF Z Z)<|.mv Z<|.b2 (λh9=>?_) (λh9=>?_)
 ·refine .gG<|.gG<|.yw (.pickT Z Z)<|.mv Z<|.gG<|.gG<|.yw (.pickT Z Z)<|.az Z<|?_
  refine y9 Z Z λW s=>⟨?_,s.ext⟩
  first
   | (unfold kZ;rw [h5];rfl)
   | (unfold kZ;rw [h5,h9];rfl)
   | (unfold kZ;rw [h5,h9,h13];rfl)
 refine .gy (.move Z)<|.gy (.cast (.eql Z Z) (congrArg Value.bool (u8d c 10)))<|.yw (.pickF Z Z)<|.mv Z<|.b2 (λh13=>?_) (λh13=>?_)
 ·refine .gG<|.gG<|.yw (.pickT Z Z)<|.az Z<|?_
  refine y9 Z Z λW s=>⟨?_,s.ext⟩
  first
   | (unfold kZ;rw [h5];rfl)
   | (unfold kZ;rw [h5,h9];rfl)
   | (unfold kZ;rw [h5,h9,h13];rfl)
 refine .gy (.move Z)<|.gy (.cast (.eql Z Z) (congrArg Value.bool (u8d c 13)))<|.yw (.pickF Z Z)<|.az Z<|?_
 refine y9 Z Z λW s=>⟨?_,s.ext⟩
 first
  | (unfold kZ;rw [h5];rfl)
  | (unfold kZ;rw [h5,h9];rfl)
  | (unfold kZ;rw [h5,h9,h13];rfl)
def BP (c:UInt8):Bool:=!decide (c=10)
theorem u8n (c k:UInt8):decide (¬ ((c.toNat:Nat):Int)=(k.toNat:Nat))=!decide (c=k):=by rw [<-u8d,decide_not]
theorem aH3 (c:UInt8) (w:World):Calls prg 149 #[DT c] w λr w'=>r=.returned (.bool (BP c))/\Ext w w':=by
 refine y6 func149 Z ntmps149 Z ?_;refine .sr<|.a Z Z<|.ns<|.mv Z<|.yw (.cast (.neq Z Z) (congrArg Value.bool (u8n c 10)))<|.az Z<|?_
 exact y9 Z Z λW s=>⟨Z,s.ext⟩
theorem FX (q:UInt8->Bool) (c:UInt8) (r:Str):pre q (c::r)=if q c then pre q r+1 else 0:=by
 unfold pre;rw [eA]
 split <;> simp
theorem XP:∀ (m:Str),eG false (m.drop (pre kZ m))=eG false m
 | []=>rfl
 | c::r=>by
  rw [FX]
  split
  ·rename_i h;rw [pG,XP r,OV h]
  ·rfl
theorem aT8:∀ (m:Str),eG false (m.drop (pre BP m))=eG true m
 | []=>by rw [List.drop_nil,sQ,sQ]
 | c::r=>by
  rw [FX]
  split
  ·rename_i h;unfold BP at h;rw [pG,aT8 r,OU (by simpa using h)]
  ·rename_i h;have e:c=10:=by unfold BP at h;simpa using h
   subst e;rw [nK,OT]
theorem aV1 (q:UInt8->Bool):∀ (m:Str) (c:UInt8) (r:Str),m.drop (pre q m)=c::r->q c=false
 | [],c,r,h=>by cases h
 | x::m,c,r,h=>by
  rw [FX] at h
  split at h
  ·exact aV1 q m c r (by simpa using h)
  ·rename_i hx;rw [nK] at h;injection h with h1 _
   subst h1;simpa using hx
variable {m:Str}
theorem aT6 (h:xO m [47,47]=true):eG false (m.drop (pre BP m))=eG false m/\1<=pre BP m:=by
 rw [BS] at h;obtain ⟨r,rfl⟩:=gW.1 h;refine ⟨?_,?_⟩
 ·rw [aT8];exact (OS r).symm
 ·show 1<=pre BP (47::47::r);rw [FX,aO (by decide)];omega
theorem aH2 (h:xO (m.drop (pre kZ m)) [47,47]=false):eG false m=m.drop (pre kZ m):=by
 rw [<-XP];cases e:m.drop (pre kZ m) with
 | nil=>rw [sQ]
 | cons c r =>
  refine oW (aV1 _ _ _ _ e) ?_;rintro ⟨rfl,h2⟩;rw [e] at h;cases r with
  | nil=>cases h2
  | cons d r =>
   obtain rfl:d=47:=bL h2;rw [BS] at h;rw [show ([47,47]:Str).isPrefixOf (47::47::r)=true by simp [List.isPrefixOf]] at h;cases h
theorem aT9 {t:Str} {o:Nat} (ho:o<=t.length) (h:eG false t=t.drop o):wA t=o:=by
 unfold wA;rw [h,cM];omega
theorem PG (t:Str) (hl:t.length<=9223372036854775807) (w:World):Calls prg 96 #[cH t] w λr w'=>r=.returned (iN (wA t))/\Ext w w':=by
 refine y6 func96 Z ntmps96 Z ?_;refine .sr<|.a Z Z<|.ns<|.aq Z<|.bk<|.lp (X:=Nat) [(0,_)] ⟨Z,Jt⟩ [] (λo=>[(3,iN o)]) (λo=>(⟨λ_=>none,0⟩:Hp)) (λo=>[]) (λo=>o<=t.length/\eG false (t.drop o)=eG false t) (λo=>t.length - o) 0 (λ_ s=>s) ⟨Z,Jt⟩ ⟨aR _,Z⟩ λo hC=>?_
 obtain ⟨ho,hs⟩:=hC;have hp1:=tQ kZ (t.drop o);rw [cM] at hp1;replace hp1:(o+(pre kZ (t.drop o)))<=t.length:=by omega
 refine .bk<|.sm Z<|.mv Z<|.mv Z<|.yw (.dropS dI Z Z (lo:=o) Z ho)<|.yw (.call xI Z (λW s=>wV 147 kZ ZI aL6 _ (by rw [cM];omega) W))<|.yw (.add Z Z (c:=(((o+(pre kZ (t.drop o))):Nat):Int)) ((w6 (by omega)).trans (by omega)))<|.aq Z<|.sq<|.sm Z<|.mv Z<|.yw (.dropS dI Z Z (lo:=(o+(pre kZ (t.drop o)))) Z hp1)<|.yw (.call MW Z (λW s=>DQ _ [47,47] W))<|.yw (.not Z)<|.nt<|.cd Z (λh14=>?_) (λh14=>?_)
 ·have hh:xO (t.drop (o+(pre kZ (t.drop o)))) [47,47]=false:=by simpa using h14
  refine .sm Z<|.az Z<|.tR<|.bR<|.tR<|.bR<|?_
  exact y9 Z Z λW s=>⟨by rw [aT9 hp1 (by rw [<-hs,<-eX];exact aH2 (by rw [eX];exact hh))],s.ext⟩
 have hh:xO (t.drop (o+(pre kZ (t.drop o)))) [47,47]=true:=by simpa using h14
 obtain ⟨hs2,hg2⟩:=aT6 hh;have hp2:=tQ BP (t.drop (o+(pre kZ (t.drop o))));rw [cM] at hp2;exact .sk<|.tN<|.rg<|.mv Z<|.mv Z<|.mv Z<|.yw (.dropS dI Z Z (lo:=(o+(pre kZ (t.drop o)))) Z hp1)<|.yw (.call xI Z (λW s=>wV 149 BP ZH aH3 _ (by rw [cM];omega) W))<|.yw (.add Z Z (c:=(((o+(pre kZ (t.drop o)))+(pre BP (t.drop (o+(pre kZ (t.drop o))))):Nat):Int)) ((w6 (by omega)).trans (by omega)))<|.a Z Z<|.nl<|.bN<|.tN<|.ag ((o+(pre kZ (t.drop o)))+(pre BP (t.drop (o+(pre kZ (t.drop o)))))) ⟨Z,Jt⟩ ⟨Z,Jt⟩ (λ_ s=>s) ⟨by omega,by rw [<-eX,hs2,<-eX,XP,hs]⟩ (by omega)
theorem bI8 (H:Hp) (t:Str) (w:World) (hA:Agr H w):Calls prg 54 #[cH t] w λr w'=>∃ (b:Nat) (H':Hp),kU H' b 0 [cH t]/\r=.returned (.func (.func 95) #[] #[.pointer (some ⟨b,0,none⟩)])/\xD H w H' w':=by
 refine Sx.enter (H:=H) func54 rfl ntmps54 rfl hA ?_;refine .sr<|.bx Z Z Z λb1=>.a Z Z<|.ns<|.yw (.mkF Z Z)<|.az Z<|?_
 refine yW λH1 u1 m1=>?_;exact y9 Z Z λW s=>⟨b1,H1,m1,Z,u1.grow s⟩
abbrev TkS:={x:Tk // x.t.length<=1000000}
theorem bI7 (H:Hp) (G:Gl H) (t:Str) (hl:t.length<=1000000000000000000) (hs:∀ x∈qL t,x.t.length<=1000000) (b:Nat) (hm:kU H b 0 [cH t]) (w:World) (hA:Agr H w) :
 SeqStopsK Fence.wide 8 prg 95 #[.pointer (some ⟨b,0,none⟩)] (λx:TkS=>#[.agg (cTk .u8 x.1).toArray]) (KpH H) (λxs=>xs.map (·.1)=qL t) (λ_=>True) (t.length+1) w:=by
 refine Sx.seqStops (lb:=[.pointer (some ⟨b,0,none⟩)]) func95 rfl ntmps95 rfl (λW hW=>hA.ext hW) ?_;intro l Jg Jx W hJs hJxs hY hJ0;refine .sr<|.yw (.loadM Z cP hm (k:=0) Z Z)<|.yw (.call QD Z (λW s=>PG t (by omega) W))<|.aq Z<|.bk<|.lj (X:=Nat × List TkS) (λz=>[(0,.func (.yield l) #[] #[]),(1,.pointer (some ⟨b,0,none⟩)),(3,iN z.1)]) (λz=>Jg z.2) (λz=>z.1<=t.length/\z.2.length<=z.1/\z.2.map (·.1)++XG z.1 (t.drop z.1)=qL t) (λz=>t.length - z.1) (wA t,[]) ⟨UG t,aR _,(aJ3 t).symm⟩ ⟨Z,Z,Z,Jt⟩ hJ0 λz w1 hC hJ1=>?_
 obtain ⟨o,pre1⟩:=z;obtain ⟨ho,hpl,htk⟩:=hC;dsimp only at ho hpl htk hJ1|-;refine .sq<|.sm Z<|.yw (.loadM Z cP hm (k:=0) Z Z)<|.yw (.lenS dI Z)<|.yw (.lss Z Z)<|.nt<|.ce Z (λh11=>?_) (λh11=>?_)
 ·have hlt:o<t.length:=by omega
  have hm0:t.drop o≠[]:=by intro e;have:=congrArg List.length e;rw [cM] at this;simp at this;omega
  have hrk:=sT hm0;rw [cM] at hrk;have hx5:((t.drop o).take (bU (t.drop o)).2).length<=1000000:=hs ⟨(bU (t.drop o)).1,(t.drop o).take (bU (t.drop o)).2,o⟩ (by rw [<-htk,OI hm0];simp);refine .sk<|.tN<|.sq<|.bk<|.sr<|.yw (.loadM Z cP hm (k:=0) Z Z)<|.mv Z<|.yw (.dropS dI Z Z (lo:=o) Z (by omega))<|.yw (.call QC Z (λW s=>UL H G (t.drop o) (by rw [cM];omega) hm0 W s.agr))<|.mv Z<|.yw (.extract Z Z)<|.yw (.extract Z Z)<|.a Z Z<|.aq Z<|.sq<|.sq<|.rgW 8<|.mI Z Z<|.mI Z Z<|.yvI (.loadM Z cP hm (k:=0) Z Z) Z<|.mI Z Z<|.mI Z Z<|.mI Z Z<|.yvI (.add Z Z (c:=((o+(bU (t.drop o)).2:Nat):Int)) ((w6 (by omega)).trans (by omega))) Z<|.yvI (.cast (.midS dI Z Z Z (lo:=o) (hi:=o+(bU (t.drop o)).2) Z Z (by omega) (by omega)) (by rw [uD,iU])) Z<|.mI Z Z<|.yvI (.build Z (JM _ _ _)) Z<|.yd Z Z Z (λW s=>hY pre1 ⟨⟨(bU (t.drop o)).1,(t.drop o).take (bU (t.drop o)).2,o⟩,hx5⟩ W (hJs _ _ _ hJ1 s.ext) (by omega)) (λw2 hj2=>?_) (λw2 hj2=>?_)
  ·have hsd:=UG ((t.drop o).drop (bU (t.drop o)).2);rw [cM,cM] at hsd;exact .yvI (.not Z) Z<|.nlI<|.tN<|.cF Z<|.sk<|.tN<|.rg<|.mv Z<|.mv Z<|.yw (.add Z Z (c:=((o+(bU (t.drop o)).2:Nat):Int)) ((w6 (by omega)).trans (by omega)))<|.a Z Z<|.nl<|.bN<|.tN<|.rg<|.mv Z<|.yw (.loadM Z cP hm (k:=0) Z Z)<|.mv Z<|.yw (.cast (.dropS dI Z Z (lo:=o+(bU (t.drop o)).2) Z (by omega)) (by rw [<-eX];rfl))<|.yw (.call QD Z (λW s=>PG ((t.drop o).drop (bU (t.drop o)).2) (by rw [cM,cM];omega) W))<|.yw (.add Z Z (c:=((o+(bU (t.drop o)).2+wA ((t.drop o).drop (bU (t.drop o)).2):Nat):Int)) ((w6 (by omega)).trans (by omega)))<|.aq Z<|.aj (x:=(o,pre1)) (o+(bU (t.drop o)).2+wA ((t.drop o).drop (bU (t.drop o)).2),pre1++[⟨⟨(bU (t.drop o)).1,(t.drop o).take (bU (t.drop o)).2,o⟩,hx5⟩]) ⟨by dsimp only;omega,by dsimp only;rw [aH];simp;omega,by dsimp only;rw [<-htk,cL,aX];congr 1;rw [OI hm0,show (t.drop o).drop ((bU (t.drop o)).2+wA ((t.drop o).drop (bU (t.drop o)).2))=t.drop (o+(bU (t.drop o)).2+wA ((t.drop o).drop (bU (t.drop o)).2)) by rw [dN];exact eX];rfl⟩ (by dsimp only;omega) hj2 ⟨Z,Z,Z,Jt⟩
  refine .yvI (.not Z) Z<|.nlI<|.tN<|.cT Z<|.rt<|.tR<|.bR<|.tR<|.tR<|.bR<|?_
  refine y7 Z .nil rfl λW s=>⟨⟨_,Z⟩,.inr ⟨_,Jt,hJxs _ _ _ hj2 s.ext⟩⟩
 have hoe:o=t.length:=by omega
 refine .ex<|.tE<|.tE<|.bE<|?_
 refine jE (.inr Z) rfl .nil rfl λW s=>⟨⟨_,Z⟩,.inl ⟨pre1,?_,hJs _ _ _ hJ1 s.ext⟩⟩;rw [<-htk,hoe,List.drop_length,aR5,dU]
theorem KF (a b c d e f g:Value):∀ W,(Instr.field 157 (.agg [a,b,c,d,e,f,g].toArray) 0).run prg W=.ok a W:=λ_=>by kernel_rfl
variable {b tc:Nat} {tp:Option Addr} {ro rv:Value} {xo xv:List Value} {AR:List Res} {q:Rq}
set_option maxHeartbeats 1000000 in
theorem aX8 {l:Tks} {op:List Ov} {x:Vb} {dn:Bool} (K:Tkf H l tp tc) (Wq:Fwf l ⟨q,op,x,true,dn⟩) (S:Sq H ⟨q,op,x,true,dn⟩ xo xv AR) (G:Gf H) (h0:q.er=0) (hw:q.wrd l=true) (s:St H w0 (.box b [.slice tp l.length tc,iN q.i,ro,rv,.bool true,.bool dn,.bool x.2,iN q.off,iN q.er] 102::.row 97 11 (ro) (op.length) (xo)::.row 179 13 (rv) (x.1.length) (xv)::(AR++bs)) W) :
 Calls prg 101 #[.pointer (some ⟨b,0,none⟩)] W (Get w0 bs b l tp tc H (yG l ⟨q,op,x,true,dn⟩)):=by
 have hq:q.i<l.length:=Wq.i;have hcap:=K.rep.cap;obtain ⟨hn1,hn2⟩:=oU Wq K.few;dsimp only at hn1 hn2;have hne:op≠[]:=Wq.ne;refine kE func101 rfl ntmps101 rfl s ?_;obtain ⟨o,r,rfl⟩:=BQ (l:=op) (by cases op with | nil=>exact (hne rfl).elim | cons a t=>exact Nat.succ_pos _);dsimp only [List.length_cons] at hn1;obtain ⟨xr,s1,s2,e2,hlo,ho1,ho2⟩:=Ops.top S.ops;try dsimp only at e2
 subst e2;refine Sx.rowCase (size:=11) (r:=ro) (e:=97) dC (Nat.succ_pos _) λg c e hkc=>?_;subst e;refine .sq<|.sm Z<|.cs (X:=Unit) mK Z (λW s=>BI K hq (g:=g) (k:=r.length) (c:=c) (by omega) (s.pickT (hd:=[_,_,_]) (tl:=(AR++bs)) (hd':=[_,_,_]) [0,1,2] Z Z)) Z λ_ _=>.nC Z<|.fA Z tZ<|.yw (.loadR1 Z jO dC (kF hlo Z))<|.nt<|.cd Z (λh8=>?_) (λh8=>?_)
 ·refine .sm Z<|.cs (X:=Unit) iS Z (λW s=>qN K hq 8 (s.pickT (hd:=[_,_,_]) (tl:=(AR++bs)) (hd':=[_,_,_]) [0,1,2] Z Z)) Z λ_ _=>.nt<|.rt<|.tR<|?_
  refine y7 Z .nil rfl λW s=>?_;have e0:yG l (⟨q,o::r,x,true,dn⟩:Ps)=(⟨q,o::r,x,true,dn⟩:Ps).at (q.fail l 8):=by unfold yG;rw [aO (show (fP (⟨q,o::r,x,true,dn⟩:Ps)).tm=true from h8)]
  rw [e0];exact ⟨(_,_,_,_,_,AR),⟨.refl,⟨S.ops,S.vls⟩⟩,Z,s.pickT (hd:=[_,_,_]) (tl:=(AR++bs)) (hd':=[_,_,_]) [0,1,2] rfl rfl⟩
 refine .sk<|.tN<|.sr<|.al fV Z λb2=>.nt<|.sq<|.bk<|.sm Z<|.cs (X:=Unit) dG Z (λW s=>eI K hq [115,105,110,99,101] (s.pickT (hd:=[_,_,_,_]) (tl:=(AR++bs)) (hd':=[_,_,_,_]) [1,0,2,3] Z Z)) Z λ_ _=>.aq Z<|.cd Z (λh11=>?_) (λh11=>?_)
 ·have a11:Rq.ac l [115,105,110,99,101] q=true:=h11;rw [kT a11];refine .rg<|.mv Z<|.cs (X:=Unit) EU Z (λW s=>KO K (dB K.gd.last hq a11) 15 (s.pickT (hd:=[_,_,_,_]) (tl:=(AR++bs)) (hd':=[_,_,_,_]) [0,1,2,3] Z Z)) Z λ_ _=>.sX mD Z Z dM Z<|.nl<|.bN<|.tN<|.sr<|.fA Z gC<|.lD Z kX dC Z<|.yw (.call (v:=.agg (fsC (cS 15)).toArray) rI Z λW s=>oY H G 15 W s.agr)<|.yw (.fld Z (KF _ _ _ _ _ _ _))<|.yw (.conv Z lJ lT (c:=((4:Nat):Int)) (by decide +kernel))<|?_
  have Wj:Fwf l ⟨(Rq.wiS l q.nx),o::r,x,true,dn⟩:=KS (q:=⟨q,o::r,x,true,dn⟩) (c:=(Rq.wiS l q.nx)) Wq (KQ K.gd.last (dB K.gd.last hq a11)) (bH (Nat.le_succ _) (Mq.wiS (q:=q.nx)).i);refine .a Z Z<|.ns<|.mv Z<|.mv Z<|.cs (X:=Hp × Value × Value × List Value × List Value × List Res) pD Z (λW s=>tM K Wj S.at 4 (by omega) (St.mid (a:=[_,_,_]) (d:=[_]) (s.pickT (hd:=[_,_,_,_]) (tl:=(AR++bs)) (hd':=[_,_,_,_]) [0,2,3,1] Z Z))) Z λz9 hz9=>?_
  obtain ⟨H1,ro,rv,xo,xv,AR⟩:=z9;obtain ⟨u1,S⟩:=hz9;dsimp only at u1 S|-;refine Sx.reSt (λW s=>St.mid (a:=[_,_,_]) (d:=AR) (c:=[_]) s) ?_;obtain ⟨op7,x7,e7⟩:∃ op7 x7,qG 4 (⟨(Rq.wiS l q.nx),o::r,x,true,dn⟩:Ps)=⟨(Rq.wiS l q.nx),op7,x7,true,dn⟩:=⟨_,_,Z⟩;rw [e7] at S|-;dsimp only at S|-;have W7:Fwf l ⟨(Rq.wiS l q.nx),op7,x7,true,dn⟩:=by rw [<-e7];exact uI (by omega) Wj rfl
  obtain ⟨hm1,hm2⟩:=oU W7 K.few;dsimp only at hm1 hm2;have hne7:op7≠[]:=W7.ne;refine .nt<|.rg<|.mv Z<|.mv Z<|.yw (.loadW Z cQ rY Z)<|.yw (.build Z (jM _ _ _ _ _ _ _ _ _))<|.cs (X:=Option Addr × Nat) fY Z (λW s=>mO (K.up u1.up) (KQ K.gd.last (dB K.gd.last hq a11)) (by simp [Value.oneCell',cH]) (bH hm1 (by decide)) (λ_=>S.ops.tm hne7) (s.pickT (hd:=[_,_,_,_]) (tl:=(AR++bs)) (hd':=[_,_,_,_]) [0,1,2,3] Z Z)) Z λp9 _=>.nl<|?_
  refine jE (.inr Z) rfl .nil rfl λW s=>?_
  have e0:yG l (⟨q,o::r,x,true,dn⟩:Ps)=jK ⟨6,4,false,0,q.jnF l 4⟩ (⟨(Rq.wiS l q.nx),op7,x7,true,dn⟩:Ps):=by
   obtain ⟨j1,j2,j3,_,_⟩:=aD6 (l:=l) (r:=q) (k:=4) (by decide) a11;unfold yG;rw [aG (show ¬ (fP (⟨q,o::r,x,true,dn⟩:Ps)).tm=true by rw [show (fP (⟨q,o::r,x,true,dn⟩:Ps)).tm=false from h8];decide),j1,j2,j3,<-e7]
   rfl
  rw [e0];exact ⟨(_,_,_,_,_,AR),⟨u1,⟨.cons S.ops (by show ¬ (6:UInt8)=5;decide) (FmR.zero rfl rfl (aR _) (aR _)),S.vls⟩⟩,Z,s.pickT (hd:=[_,_,_,_]) (tl:=(AR++bs)) (hd':=[_,_,_]) [0,1,2] rfl rfl⟩
 have a11:Rq.ac l [115,105,110,99,101] q=false:=h11;rw [lH a11];refine .sm Z<|.cs (X:=Unit) dG Z (λW s=>eI K hq [97,110,100] (s.pickT (hd:=[_,_,_,_]) (tl:=(AR++bs)) (hd':=[_,_,_,_]) [0,1,2,3] Z Z)) Z λ_ _=>.aq Z<|.cd Z (λh16=>?_) (λh16=>?_)
 ·have a16:Rq.ac l [97,110,100] q=true:=h16;rw [kT a16];refine .rg<|.yw (.build Z (pF _))<|.sX mD Z Z dM Z<|.nl<|.bN<|.tN<|.sr<|.fA Z gC<|.lD Z kX dC Z<|.yw (.call (v:=.agg (fsC (cS 9)).toArray) rI Z λW s=>oY H G 9 W s.agr)<|.yw (.fld Z (KF _ _ _ _ _ _ _))<|.yw (.conv Z lJ lT (c:=((3:Nat):Int)) (by decide +kernel))<|?_
  have Wj:Fwf l ⟨q.nx,o::r,x,true,dn⟩:=KS (q:=⟨q,o::r,x,true,dn⟩) (c:=q.nx) Wq (dB K.gd.last hq a16) (Nat.le_succ _);refine .a Z Z<|.ns<|.mv Z<|.mv Z<|.cs (X:=Hp × Value × Value × List Value × List Value × List Res) pD Z (λW s=>tM K Wj S.at 3 (by omega) (St.mid (a:=[_,_,_]) (d:=[_]) (s.pickT (hd:=[_,_,_,_]) (tl:=(AR++bs)) (hd':=[_,_,_,_]) [0,2,3,1] Z Z))) Z λz9 hz9=>?_
  obtain ⟨H1,ro,rv,xo,xv,AR⟩:=z9;obtain ⟨u1,S⟩:=hz9;dsimp only at u1 S|-;refine Sx.reSt (λW s=>St.mid (a:=[_,_,_]) (d:=AR) (c:=[_]) s) ?_;obtain ⟨op7,x7,e7⟩:∃ op7 x7,qG 3 (⟨q.nx,o::r,x,true,dn⟩:Ps)=⟨q.nx,op7,x7,true,dn⟩:=⟨_,_,Z⟩;rw [e7] at S|-;dsimp only at S|-;have W7:Fwf l ⟨q.nx,op7,x7,true,dn⟩:=by rw [<-e7];exact uI (by omega) Wj rfl
  obtain ⟨hm1,hm2⟩:=oU W7 K.few;dsimp only at hm1 hm2;have hne7:op7≠[]:=W7.ne;refine .nt<|.rg<|.mv Z<|.mv Z<|.yw (.loadW Z cQ rY Z)<|.yw (.build Z (jM _ _ _ _ _ _ _ _ _))<|.cs (X:=Option Addr × Nat) fY Z (λW s=>mO (K.up u1.up) (dB K.gd.last hq a16) (by simp [Value.oneCell',cH]) (bH hm1 (by decide)) (λ_=>S.ops.tm hne7) (s.pickT (hd:=[_,_,_,_]) (tl:=(AR++bs)) (hd':=[_,_,_,_]) [0,1,2,3] Z Z)) Z λp9 _=>.nl<|?_
  refine jE (.inr Z) rfl .nil rfl λW s=>?_
  have e0:yG l (⟨q,o::r,x,true,dn⟩:Ps)=jK ⟨6,3,false,0,q.jnF l 3⟩ (⟨q.nx,op7,x7,true,dn⟩:Ps):=by
   obtain ⟨j1,j2,j3,_,_⟩:=aD6 (l:=l) (r:=q) (k:=3) (by decide) a16;unfold yG;rw [aG (show ¬ (fP (⟨q,o::r,x,true,dn⟩:Ps)).tm=true by rw [show (fP (⟨q,o::r,x,true,dn⟩:Ps)).tm=false from h8];decide),j1,j2,j3,<-e7]
   rfl
  rw [e0];exact ⟨(_,_,_,_,_,AR),⟨u1,⟨.cons S.ops (by show ¬ (6:UInt8)=5;decide) (FmR.zero rfl rfl (aR _) (aR _)),S.vls⟩⟩,Z,s.pickT (hd:=[_,_,_,_]) (tl:=(AR++bs)) (hd':=[_,_,_]) [0,1,2] rfl rfl⟩
 have a16:Rq.ac l [97,110,100] q=false:=h16;rw [lH a16];refine .sm Z<|.cs (X:=Unit) dG Z (λW s=>eI K hq [111,114] (s.pickT (hd:=[_,_,_,_]) (tl:=(AR++bs)) (hd':=[_,_,_,_]) [0,1,2,3] Z Z)) Z λ_ _=>.aq Z<|.cd Z (λh20=>?_) (λh20=>?_)
 ·have a20:Rq.ac l [111,114] q=true:=h20;rw [kT a20];refine .rg<|.yw (.build Z (pF _))<|.sX mD Z Z dM Z<|.nl<|.bN<|.tN<|.sr<|.fA Z gC<|.lD Z kX dC Z<|.yw (.call (v:=.agg (fsC (cS 10)).toArray) rI Z λW s=>oY H G 10 W s.agr)<|.yw (.fld Z (KF _ _ _ _ _ _ _))<|.yw (.conv Z lJ lT (c:=((2:Nat):Int)) (by decide +kernel))<|?_
  have Wj:Fwf l ⟨q.nx,o::r,x,true,dn⟩:=KS (q:=⟨q,o::r,x,true,dn⟩) (c:=q.nx) Wq (dB K.gd.last hq a20) (Nat.le_succ _);refine .a Z Z<|.ns<|.mv Z<|.mv Z<|.cs (X:=Hp × Value × Value × List Value × List Value × List Res) pD Z (λW s=>tM K Wj S.at 2 (by omega) (St.mid (a:=[_,_,_]) (d:=[_]) (s.pickT (hd:=[_,_,_,_]) (tl:=(AR++bs)) (hd':=[_,_,_,_]) [0,2,3,1] Z Z))) Z λz9 hz9=>?_
  obtain ⟨H1,ro,rv,xo,xv,AR⟩:=z9;obtain ⟨u1,S⟩:=hz9;dsimp only at u1 S|-;refine Sx.reSt (λW s=>St.mid (a:=[_,_,_]) (d:=AR) (c:=[_]) s) ?_;obtain ⟨op7,x7,e7⟩:∃ op7 x7,qG 2 (⟨q.nx,o::r,x,true,dn⟩:Ps)=⟨q.nx,op7,x7,true,dn⟩:=⟨_,_,Z⟩;rw [e7] at S|-;dsimp only at S|-;have W7:Fwf l ⟨q.nx,op7,x7,true,dn⟩:=by rw [<-e7];exact uI (by omega) Wj rfl
  obtain ⟨hm1,hm2⟩:=oU W7 K.few;dsimp only at hm1 hm2;have hne7:op7≠[]:=W7.ne;refine .nt<|.rg<|.mv Z<|.mv Z<|.yw (.loadW Z cQ rY Z)<|.yw (.build Z (jM _ _ _ _ _ _ _ _ _))<|.cs (X:=Option Addr × Nat) fY Z (λW s=>mO (K.up u1.up) (dB K.gd.last hq a20) (by simp [Value.oneCell',cH]) (bH hm1 (by decide)) (λ_=>S.ops.tm hne7) (s.pickT (hd:=[_,_,_,_]) (tl:=(AR++bs)) (hd':=[_,_,_,_]) [0,1,2,3] Z Z)) Z λp9 _=>.nl<|?_
  refine jE (.inr Z) rfl .nil rfl λW s=>?_
  have e0:yG l (⟨q,o::r,x,true,dn⟩:Ps)=jK ⟨6,2,false,0,q.jnF l 2⟩ (⟨q.nx,op7,x7,true,dn⟩:Ps):=by
   obtain ⟨j1,j2,j3,_,_⟩:=aD6 (l:=l) (r:=q) (k:=2) (by decide) a20;unfold yG;rw [aG (show ¬ (fP (⟨q,o::r,x,true,dn⟩:Ps)).tm=true by rw [show (fP (⟨q,o::r,x,true,dn⟩:Ps)).tm=false from h8];decide),j1,j2,j3,<-e7]
   rfl
  rw [e0];exact ⟨(_,_,_,_,_,AR),⟨u1,⟨.cons S.ops (by show ¬ (6:UInt8)=5;decide) (FmR.zero rfl rfl (aR _) (aR _)),S.vls⟩⟩,Z,s.pickT (hd:=[_,_,_,_]) (tl:=(AR++bs)) (hd':=[_,_,_]) [0,1,2] rfl rfl⟩
 have a20:Rq.ac l [111,114] q=false:=h20;rw [lH a20];refine .sm Z<|.cs (X:=Unit) dG Z (λW s=>eI K hq [105,109,112,108,105,101,115] (s.pickT (hd:=[_,_,_,_]) (tl:=(AR++bs)) (hd':=[_,_,_,_]) [0,1,2,3] Z Z)) Z λ_ _=>.aq Z<|.cd Z (λh24=>?_) (λh24=>?_)
 ·have a24:Rq.ac l [105,109,112,108,105,101,115] q=true:=h24;rw [kT a24];refine .rg<|.yw (.build Z (pF _))<|.sX mD Z Z dM Z<|.nl<|.bN<|.tN<|.sr<|.fA Z gC<|.lD Z kX dC Z<|.yw (.call (v:=.agg (fsC (cS 11)).toArray) rI Z λW s=>oY H G 11 W s.agr)<|.yw (.fld Z (KF _ _ _ _ _ _ _))<|.yw (.conv Z lJ lT (c:=((1:Nat):Int)) (by decide +kernel))<|?_
  have Wj:Fwf l ⟨q.nx,o::r,x,true,dn⟩:=KS (q:=⟨q,o::r,x,true,dn⟩) (c:=q.nx) Wq (dB K.gd.last hq a24) (Nat.le_succ _);refine .a Z Z<|.ns<|.mv Z<|.mv Z<|.cs (X:=Hp × Value × Value × List Value × List Value × List Res) pD Z (λW s=>tM K Wj S.at 1 (by omega) (St.mid (a:=[_,_,_]) (d:=[_]) (s.pickT (hd:=[_,_,_,_]) (tl:=(AR++bs)) (hd':=[_,_,_,_]) [0,2,3,1] Z Z))) Z λz9 hz9=>?_
  obtain ⟨H1,ro,rv,xo,xv,AR⟩:=z9;obtain ⟨u1,S⟩:=hz9;dsimp only at u1 S|-;refine Sx.reSt (λW s=>St.mid (a:=[_,_,_]) (d:=AR) (c:=[_]) s) ?_;obtain ⟨op7,x7,e7⟩:∃ op7 x7,qG 1 (⟨q.nx,o::r,x,true,dn⟩:Ps)=⟨q.nx,op7,x7,true,dn⟩:=⟨_,_,Z⟩;rw [e7] at S|-;dsimp only at S|-;have W7:Fwf l ⟨q.nx,op7,x7,true,dn⟩:=by rw [<-e7];exact uI (by omega) Wj rfl
  obtain ⟨hm1,hm2⟩:=oU W7 K.few;dsimp only at hm1 hm2;have hne7:op7≠[]:=W7.ne;refine .nt<|.rg<|.mv Z<|.mv Z<|.yw (.loadW Z cQ rY Z)<|.yw (.build Z (jM _ _ _ _ _ _ _ _ _))<|.cs (X:=Option Addr × Nat) fY Z (λW s=>mO (K.up u1.up) (dB K.gd.last hq a24) (by simp [Value.oneCell',cH]) (bH hm1 (by decide)) (λ_=>S.ops.tm hne7) (s.pickT (hd:=[_,_,_,_]) (tl:=(AR++bs)) (hd':=[_,_,_,_]) [0,1,2,3] Z Z)) Z λp9 _=>.nl<|?_
  refine jE (.inr Z) rfl .nil rfl λW s=>?_
  have e0:yG l (⟨q,o::r,x,true,dn⟩:Ps)=jK ⟨6,1,false,0,q.jnF l 1⟩ (⟨q.nx,op7,x7,true,dn⟩:Ps):=by
   obtain ⟨j1,j2,j3,_,_⟩:=aD6 (l:=l) (r:=q) (k:=1) (by decide) a24;unfold yG;rw [aG (show ¬ (fP (⟨q,o::r,x,true,dn⟩:Ps)).tm=true by rw [show (fP (⟨q,o::r,x,true,dn⟩:Ps)).tm=false from h8];decide),j1,j2,j3,<-e7]
   rfl
  rw [e0];exact ⟨(_,_,_,_,_,AR),⟨u1,⟨.cons S.ops (by show ¬ (6:UInt8)=5;decide) (FmR.zero rfl rfl (aR _) (aR _)),S.vls⟩⟩,Z,s.pickT (hd:=[_,_,_,_]) (tl:=(AR++bs)) (hd':=[_,_,_]) [0,1,2] rfl rfl⟩
 have a24:Rq.ac l [105,109,112,108,105,101,115] q=false:=h24;exact absurd hw (by unfold Rq.wrd;rw [LU h0,LU h0,LU h0,LU h0,a11,a16,a20,a24];decide)
variable {xr:List Value} {j:Nat}
theorem AH {cs:List Value} {u:Value} (hl:xr.length=n) (h:cs[4+j]? = some u):(xr++cs)[n+4+j]? = some u:=by rw [dN];exact kF hl h
variable {s1 s2:Value}
theorem Ops.inv5 {o:Ov} {r:List Ov} (h:Ops H (o::r) (xr++oC o s1 s2) AR) (hk:o.kd=5):∃ AR1 xe,AR=.row 76 4 s1 o.f.ex.length xe::AR1/\Ops H r xr AR1/\s2=.slice none 0 0/\eR H 4 (o.f.ex.map (dEx .u8)) xe/\o.f.args=[]/\o.f.nm.length<=1000000/\o.f.fd.length<=1000000:=by
 generalize hx:xr++oC o s1 s2=xo at h;cases h with
 | cons h k f=>exact absurd hk k
 | arg h k a b c z s =>
  obtain ⟨e1,e2⟩:=List.append_inj' hx rfl;subst e1;simp only [gD,qV,true_and] at e2;obtain ⟨rfl,rfl⟩:=e2;exact ⟨_,_,Z,h,Z,z,a,b,c⟩
theorem QX (H:Hp):Rep H (dEx .u8 zE) [.int .u8 0,.string ⟨#[]⟩,.int .i64 0,.slice none 0 0]:=rC (op:=0) (nm:=[]) (n:=0) (args:=[]) (by decide) (Rep.empty (p:=none) (c:=0) (by decide))
variable {z:Nat} {xs news:List Value}
theorem xR {ds:List D} {d0 d:D} {vs:List Value} (hz:eR H z ds xs) (hn:eR H z [d0] news) (hd:Rep H d vs) (hl:vs.length=z) (hk:ds.length=k):eR H z (ds++[d]) (nV (xs++news) (k * z) vs):=by
 subst hk;have h:=eR.put hd hl (hz.app hn) (i:=ds.length) (by simp)
 rwa [kP _ _ (bK _),mR,pY] at h
set_option maxHeartbeats 4000000 in
theorem PT {l:Tks} {op:List Ov} {x:Vb} {dn:Bool} (K:Tkf H l tp tc) (Wq:Fwf l ⟨q,op,x,true,dn⟩) (S:Sq H ⟨q,op,x,true,dn⟩ xo xv AR) (hfew:∀ o∈op,o.f.ex.length<=600000) (s:St H w0 (.box b [.slice tp l.length tc,iN q.i,ro,rv,.bool true,.bool dn,.bool x.2,iN q.off,iN q.er] 102::.row 97 11 (ro) (op.length) (xo)::.row 179 13 (rv) (x.1.length) (xv)::(AR++bs)) W) :
 Calls prg 103 #[.pointer (some ⟨b,0,none⟩)] W (Get w0 bs b l tp tc H (oR l ⟨q,op,x,true,dn⟩)):=by
 have hq:q.i<l.length:=Wq.i;have hcap:=K.rep.cap;obtain ⟨hn1,hn2⟩:=oU Wq K.few;dsimp only at hn1 hn2;have hne:op≠[]:=Wq.ne;obtain ⟨o,r,rfl⟩:=BQ (l:=op) (by cases op with | nil=>exact (hne rfl).elim | cons a t=>exact Nat.succ_pos _);dsimp only [List.length_cons] at hn1;have hfx:=hfew o (bD ..);have hv1:1<=x.1.length:=by have:=Wq.vs;dsimp only at this;rw [this];exact Nat.le_add_left _ _
 obtain ⟨vs,bd⟩:=x;dsimp only at hv1 hn2;obtain ⟨v,V,rfl⟩:=BQ hv1;dsimp only [List.length_cons] at hn2;obtain ⟨yr,t0,t1,t2,e4,VS1,V1⟩:=VR.inv S.vls;try dsimp only at e4
 subst e4;have l1:=VS1.len;refine kE func103 rfl ntmps103 rfl s ?_;obtain ⟨xr,s1,s2,e2,hlo,ho1,ho2⟩:=Ops.top S.ops;try dsimp only at e2
 subst e2;refine Sx.rowCase (size:=11) (r:=ro) (e:=97) dC (Nat.succ_pos _) λg c e hkc=>?_;subst e;refine .sm Z<|.cs (X:=Unit) mK Z (λW s=>BI K hq (g:=g) (k:=r.length) (c:=c) (by omega) (s.pickT (hd:=[_,_,_]) (tl:=(AR++bs)) (hd':=[_,_,_]) [0,1,2] Z Z)) Z λ_ _=>.aq Z<|.bk<|.cu (X:=Bool) [(0,_),(2,_)] ⟨Z,Z,Jt⟩ (λz=>[(9,.bool z)]) (λz=>H) (λz=>(.box b [.slice tp l.length tc,iN q.i,(.slice (some ⟨g,0,none⟩) (o::r).length c),rv,.bool true,.bool dn,.bool bd,iN q.off,iN q.er] 102::.row 97 11 ((.slice (some ⟨g,0,none⟩) (o::r).length c)) ((o::r).length) ((xr++oC o s1 s2))::.row 179 13 (rv) (V.length+1) ((yr++vC v t0 t1 t2))::(AR++bs))) (λz=>z=(decide (o.kd=1) && decide ((tkf l q.i).k=0))) ?_ λz hC=>?_
 ·
  refine .rg<|.mv Z<|.nC Z<|.fA Z gJ<|.yw (.loadR1 Z mL dC (kF hlo Z))<|.yw (.eql Z Z)<|.mv Z<|.b2 (λh15=>?_) (λh15=>?_)
  ·have hg:o.kd=1:=aS.1 (by have:=aJ h15;show o.kd.toNat=1;omega);exact .gy (.move Z)<|.gd Z Z<|.cs (X:=Unit) sY Z (λW s=>xQ K hq  (s.pickT (hd:=[_,_,_]) (tl:=(AR++bs)) (hd':=[_,_,_]) [0,1,2] Z Z)) Z λ_ _=>.gy (.fld Z (YL _ _ _))<|.gy (.eql Z Z)<|.yw (.pickT Z Z)<|.aq Z<|.me _ ⟨Z,Jt⟩ ⟨Z,Z,Jt⟩ (λ_ s=>s) (by first | (rw [aK hg,aA];exact k80) | (rw [aM hg];rfl))
  have hg:¬ o.kd=1:=λe=>aP h15 (by rw [e];rfl);exact .gG<|.gG<|.gG<|.gG<|.yw (.pickF Z Z)<|.aq Z<|.me _ ⟨Z,Jt⟩ ⟨Z,Z,Jt⟩ (λ_ s=>s) (by first | (rw [aK hg,aA];exact k80) | (rw [aM hg];rfl))
 have e9:=hC;refine .cd Z (λh9=>?_) (λh9=>?_)
 ·rw [h9] at e9;have y9:=aF _ _ |>.mp e9.symm
  refine .rg<|.mv Z<|.nC Z<|.fA Z EB<|.st .head Z Z nG Z (nb Z) Z<|.nl<|.bN<|?_
  refine jE (.inr Z) rfl .nil rfl λW s=>?_;have e0:oR l (⟨q,o::r,(v::V,bd),true,dn⟩:Ps)=⟨q,o::r,(v::V,bd),true,true⟩:=by unfold oR;exact aO ⟨aJ y9.1,aJ y9.2⟩
  rw [e0];exact ⟨(_,_,_,_,_,AR),⟨.refl,⟨S.ops,S.vls⟩⟩,Z,s.pickT (hd:=[_,_,_]) (tl:=(AR++bs)) (hd':=[_,_,_]) [0,1,2] rfl rfl⟩
 rw [h9] at e9;refine .cu (X:=Bool) [(0,_),(2,_)] ⟨Z,Z,Jt⟩ (λz=>[(24,.bool z)]) (λz=>H) (λz=>(.box b [.slice tp l.length tc,iN ((if z then Rq.nx q else q).i),(.slice (some ⟨g,0,none⟩) (o::r).length c),rv,.bool true,.bool dn,.bool bd,iN ((if z then Rq.nx q else q).off),iN ((if z then Rq.nx q else q).er)] 102::.row 97 11 ((.slice (some ⟨g,0,none⟩) (o::r).length c)) ((o::r).length) ((xr++oC o s1 s2))::.row 179 13 (rv) (V.length+1) ((yr++vC v t0 t1 t2))::(AR++bs))) (λz=>z=(decide (o.kd=2) && Rq.ac l [41] q)) ?_ λz hC=>?_
 ·
  refine .rg<|.mv Z<|.nC Z<|.fA Z gJ<|.yw (.loadR1 Z mL dC (kF hlo Z))<|.yw (.eql Z Z)<|.mv Z<|.b2 (λh30=>?_) (λh30=>?_)
  ·have hg:o.kd=2:=aS.1 (by have:=aJ h30;show o.kd.toNat=2;omega);exact .gy (.move Z)<|.gd Z Z<|.cs (X:=Unit) dG Z (λW s=>eI K hq [41] (s.pickT (hd:=[_,_,_]) (tl:=(AR++bs)) (hd':=[_,_,_]) [0,1,2] Z Z)) Z λ_ _=>.yw (.pickT Z Z)<|.aq Z<|.me _ ⟨Z,Jt⟩ ⟨Z,Z,Jt⟩ (λ_ s=>s) (by first | rw [aK hg,aA] | (rw [aM hg];rfl))
  have hg:¬ o.kd=2:=λe=>aP h30 (by rw [e];rfl);exact .gG<|.gG<|.yw (.pickF Z Z)<|.aq Z<|.me _ ⟨Z,Jt⟩ ⟨Z,Z,Jt⟩ (λ_ s=>s) (by first | rw [aK hg,aA] | (rw [aM hg];rfl))
 have e24:=hC;refine .cd Z (λh24=>?_) (λh24=>?_)
 ·rw [h24] at e24;have y24:=aF _ _ |>.mp e24.symm
  have hk:o.kd=2:=aJ y24.1;rw [aO h24];have hk5:o.kd≠5:=by rw [hk];decide
  obtain ⟨SO,FO⟩:=Ops.inv2 S.ops hk5;refine .sm Z<|.cs (X:=Nat × Nat) EX Z (λW s=>aV2 K (dB K.gd.last hq y24.2) V1.one (by omega) l1 (s.pickT (hd:=[_,_,_]) (tl:=(AR++bs)) (hd':=[_,_,_]) [0,2,1] Z Z)) Z λp1 _=>.al xE Z λb3=>.sW .head Z Z xG V1.one Z<|.ns<|.fA Z uZ<|.st .head Z Z nG Z (nb Z) Z<|.nt<|.rg<|.mv Z<|.yw (.loadW Z wQ Hm Z)<|.cs (X:=(Nat × Nat) × (Option Addr × Nat)) qP Z (λW s=>xU K (dB K.gd.last hq y24.2) (VlR.one (v:=(⟨v.tm,false,v.e,v.f⟩:Vl)) ⟨V1.e,V1.f⟩) (by omega) (by omega) hlo (s.pickT (hd:=[_,_,_,_]) (tl:=(AR++bs)) (hd':=[_,_,_,_]) [1,3,2,0] Z Z)) Z λp9 _=>.nl<|.bN<|?_
  refine jE (.inr Z) rfl .nil rfl λW s=>?_;have e0:oR l (⟨q,o::r,(v::V,bd),true,dn⟩:Ps)=⟨q.nx,r,((⟨v.tm,false,v.e,v.f⟩:Vl)::V,bd),true,dn⟩:=bL9 rfl hk y24.2;rw [e0];exact ⟨(_,_,_,_,_,AR),⟨.refl,⟨SO,.cons VS1 (v:=(⟨v.tm,false,v.e,v.f⟩:Vl)) ⟨V1.e,V1.f⟩⟩⟩,Z,s.pickT (hd:=[_,_,_,_]) (tl:=(AR++bs)) (hd':=[_,_,_]) [0,1,2] rfl rfl⟩
 rw [h24] at e24;rw [aG (by rw [h24];decide)];refine .cu (X:=Bool) [(0,_),(2,_)] ⟨Z,Z,Jt⟩ (λz=>[(40,.bool z)]) (λz=>H) (λz=>(.box b [.slice tp l.length tc,iN ((if z then Rq.nx q else q).i),(.slice (some ⟨g,0,none⟩) (o::r).length c),rv,.bool true,.bool dn,.bool bd,iN ((if z then Rq.nx q else q).off),iN ((if z then Rq.nx q else q).er)] 102::.row 97 11 ((.slice (some ⟨g,0,none⟩) (o::r).length c)) ((o::r).length) ((xr++oC o s1 s2))::.row 179 13 (rv) (V.length+1) ((yr++vC v t0 t1 t2))::(AR++bs))) (λz=>z=(decide (o.kd=3) && Rq.ac l [41] q)) ?_ λz hC=>?_
 ·
  refine .rg<|.mv Z<|.nC Z<|.fA Z gJ<|.yw (.loadR1 Z mL dC (kF hlo Z))<|.yw (.eql Z Z)<|.mv Z<|.b2 (λh46=>?_) (λh46=>?_)
  ·have hg:o.kd=3:=aS.1 (by have:=aJ h46;show o.kd.toNat=3;omega);exact .gy (.move Z)<|.gd Z Z<|.cs (X:=Unit) dG Z (λW s=>eI K hq [41] (s.pickT (hd:=[_,_,_]) (tl:=(AR++bs)) (hd':=[_,_,_]) [0,1,2] Z Z)) Z λ_ _=>.yw (.pickT Z Z)<|.aq Z<|.me _ ⟨Z,Jt⟩ ⟨Z,Z,Jt⟩ (λ_ s=>s) (by first | rw [aK hg,aA] | (rw [aM hg];rfl))
  have hg:¬ o.kd=3:=λe=>aP h46 (by rw [e];rfl);exact .gG<|.gG<|.yw (.pickF Z Z)<|.aq Z<|.me _ ⟨Z,Jt⟩ ⟨Z,Z,Jt⟩ (λ_ s=>s) (by first | rw [aK hg,aA] | (rw [aM hg];rfl))
 have e40:=hC;refine .cd Z (λh40=>?_) (λh40=>?_)
 ·rw [h40] at e40;have y40:=aF _ _ |>.mp e40.symm
  have hk:o.kd=3:=aJ y40.1;rw [aO h40];have hk5:o.kd≠5:=by rw [hk];decide
  obtain ⟨SO,FO⟩:=Ops.inv2 S.ops hk5;refine .sm Z<|.cs (X:=Unit) nP Z (λW s=>sC K (dB K.gd.last hq y40.2) [62,61] (s.pickT (hd:=[_,_,_]) (tl:=(AR++bs)) (hd':=[_,_,_]) [0,1,2] Z Z)) Z λ_ _=>.ns<|.mv Z<|.mv Z<|.cs (X:=Unit) sM Z (λW s=>wX K (kQ K.gd.last (dB K.gd.last hq y40.2))  (s.pickT (hd:=[_,_,_]) (tl:=(AR++bs)) (hd':=[_,_,_]) [0,1,2] Z Z)) Z λ_ _=>.yw (.build Z (AS _ _))<|.bl Z (nQ _ _ _ _) Z λb56=>?_
  refine Sx.freezeBoxN λH2 u2 m2=>?_;refine .nC Z<|.fA Z dK<|.fA Z cY<|.s1Q (tK (n:=r.length * 11) (j:=9) (cs':=oC o (.slice (some ⟨b56,0,none⟩) 1 1) s2) hlo Z) Z Z mQ Z mD (by rw [aH,hlo];show r.length * 11+9<r.length * 11+11;omega)<|.ns<|.mv Z<|.mv Z<|.cs (X:=Nat × Nat) wP Z (λW s=>wM (K.up u2.up) (xP K.gd.last (kQ K.gd.last (dB K.gd.last hq y40.2))) V1.one V1.e.nm (by omega) l1 (s.pickT (hd:=[_,_,_]) (tl:=(AR++bs)) (hd':=[_,_,_]) [0,2,1] Z Z)) Z λp1 _=>?_
  obtain ⟨q1,q2,ef,FR⟩:=HM V1;rw [ef];refine .bl Z (AO _ _ _ _ _ _ _) Z λb63=>?_;refine Sx.freezeBoxN λH3 u3 m3=>?_;refine .nC Z<|.fA Z dK<|.fA Z hI<|.s1Q (tK (n:=r.length * 11) (j:=10) (cs':=oC o (.slice (some ⟨b56,0,none⟩) 1 1) (.slice (some ⟨b63,0,none⟩) 1 1)) hlo Z) Z Z CV Z oV (by rw [aH,hlo];show r.length * 11+10<r.length * 11+11;omega)<|.nt<|.rg<|.mv Z<|.mv Z<|.nC Z<|.fA Z dK<|.yw (.loadR (vs:=(cFm .u8 o.f.op o.f.nm o.f.fd o.f.a o.f.b (.slice (some ⟨b56,0,none⟩) 1 1) (.slice (some ⟨b63,0,none⟩) 1 1))) Z cQ nL Z (λj u h=>by rw [dN];exact kF hlo (by rw [Nat.add_comm 4 j];exact h)))<|.yw (.build Z (OH _ _ _ _ _ _ _ _))<|?_
  have VN:VlR H3 (⟨false,true,zE,(o.f.wEx [(.mk 1 [] ((q.nx.exS l [62,61]).nbV l) [])]).wAr [v.fm]⟩:Vl) (.slice none 0 0) (.slice (some ⟨b56,0,none⟩) 1 1) (.slice (some ⟨b63,0,none⟩) 1 1):=⟨ExR.zero rfl (aR _),⟨(Rep.mk (n:=1) (c:=1) m2 (.single (ExR.zero (e:=(.mk 1 [] ((q.nx.exS l [62,61]).nbV l) [])) rfl (aR _)).rep rfl) rfl (bK _) (by decide)).up u3.up,(Rep.mk m3 (.single ((FR.up u2.up).up u3.up).rep rfl) rfl (bK _) (by decide)),FO.nm,FO.fd⟩⟩;refine .cs (X:=(Nat × Nat) × (Option Addr × Nat)) qP Z (λW s=>xU ((K.up u2.up).up u3.up) (xP K.gd.last (kQ K.gd.last (dB K.gd.last hq y40.2))) VN.one (by omega) (by omega) hlo (s.pickT (hd:=[_,_,_]) (tl:=(AR++bs)) (hd':=[_,_,_]) [0,2,1] Z Z)) Z λp9 _=>.nl<|.bN<|?_
  refine jE (.inr Z) rfl .nil rfl λW s=>?_;have e0:oR l (⟨q,o::r,(v::V,bd),true,dn⟩:Ps)=⟨((q.nx.exS l [62,61]).nbS l),r,((⟨false,true,zE,(o.f.wEx [(.mk 1 [] ((q.nx.exS l [62,61]).nbV l) [])]).wAr [v.fm]⟩:Vl)::V,bd || v.noF),true,dn⟩:=bM2 rfl hk y40.2;rw [e0];exact ⟨(_,_,_,_,_,AR),⟨(u2.trans u3),⟨(SO.up u2.up).up u3.up,.cons ((VS1.up u2.up).up u3.up) VN⟩⟩,Z,s.pickT (hd:=[_,_,_]) (tl:=(AR++bs)) (hd':=[_,_,_]) [0,1,2] rfl rfl⟩
 rw [h40] at e40;rw [aG (by rw [h40];decide)];refine .cu (X:=Bool) [(0,_),(2,_)] ⟨Z,Z,Jt⟩ (λz=>[(74,.bool z)]) (λz=>H) (λz=>(.box b [.slice tp l.length tc,iN ((if z then Rq.nx q else q).i),(.slice (some ⟨g,0,none⟩) (o::r).length c),rv,.bool true,.bool dn,.bool bd,iN ((if z then Rq.nx q else q).off),iN ((if z then Rq.nx q else q).er)] 102::.row 97 11 ((.slice (some ⟨g,0,none⟩) (o::r).length c)) ((o::r).length) ((xr++oC o s1 s2))::.row 179 13 (rv) (V.length+1) ((yr++vC v t0 t1 t2))::(AR++bs))) (λz=>z=(decide (o.kd=4) && Rq.ac l [93] q)) ?_ λz hC=>?_
 ·
  refine .rg<|.mv Z<|.nC Z<|.fA Z gJ<|.yw (.loadR1 Z mL dC (kF hlo Z))<|.yw (.eql Z Z)<|.mv Z<|.b2 (λh80=>?_) (λh80=>?_)
  ·have hg:o.kd=4:=aS.1 (by have:=aJ h80;show o.kd.toNat=4;omega);exact .gy (.move Z)<|.gd Z Z<|.cs (X:=Unit) dG Z (λW s=>eI K hq [93] (s.pickT (hd:=[_,_,_]) (tl:=(AR++bs)) (hd':=[_,_,_]) [0,1,2] Z Z)) Z λ_ _=>.yw (.pickT Z Z)<|.aq Z<|.me _ ⟨Z,Jt⟩ ⟨Z,Z,Jt⟩ (λ_ s=>s) (by first | rw [aK hg,aA] | (rw [aM hg];rfl))
  have hg:¬ o.kd=4:=λe=>aP h80 (by rw [e];rfl);exact .gG<|.gG<|.yw (.pickF Z Z)<|.aq Z<|.me _ ⟨Z,Jt⟩ ⟨Z,Z,Jt⟩ (λ_ s=>s) (by first | rw [aK hg,aA] | (rw [aM hg];rfl))
 have e74:=hC;refine .cd Z (λh74=>?_) (λh74=>?_)
 ·rw [h74] at e74;have y74:=aF _ _ |>.mp e74.symm
  have hk:o.kd=4:=aJ y74.1;rw [aO h74];have hk5:o.kd≠5:=by rw [hk];decide
  obtain ⟨SO,FO⟩:=Ops.inv2 S.ops hk5;refine .sm Z<|.cs (X:=Nat × Nat) nO Z (λW s=>yE K (dB K.gd.last hq y74.2) V1.one (by omega) l1 (s.pickT (hd:=[_,_,_]) (tl:=(AR++bs)) (hd':=[_,_,_]) [0,2,1] Z Z)) Z λp1 _=>.bl Z (nQ _ _ _ _) Z λb86=>?_
  refine Sx.freezeBoxN λH2 u2 m2=>?_;refine .aq Z<|.sq<|.sm Z<|.nC Z<|.fA Z AJ<|.yw (.loadR1 Z kW nL (kF hlo Z))<|.yw (.eql Z Z)<|.nt<|.cd Z (λh91=>?_) (λh91=>?_)
  ·have ho6:o.op=6:=aS.1 (by have:=aJ h91;show o.op.toNat=6;omega);refine .sm Z<|.mv Z<|.nC Z<|.fA Z dK<|.fA Z kJ<|.yw (.loadR1 Z cP nL (AH (j:=1) hlo Z))<|.mv Z<|.yw (.build Z (NK _ _ _ _ _))<|.yw (.build Z (jN _ _ _ _ _))<|?_
   have VN:VlR H2 (tmv (.mk 6 o.f.nm 0 [v.e])) (.slice (some ⟨b86,0,none⟩) 1 1) (.slice none 0 0) (.slice none 0 0):=⟨⟨(Rep.mk m2 (.single (V1.e.up u2.up).rep rfl) rfl (bK _) (by decide)),FO.nm⟩,FmR.zero rfl rfl (aR _) (aR _)⟩;refine .cs (X:=(Nat × Nat) × (Option Addr × Nat)) qP Z (λW s=>xU (K.up u2.up) (dB K.gd.last hq y74.2) VN.one (by omega) (by omega) hlo (s.pickT (hd:=[_,_,_]) (tl:=(AR++bs)) (hd':=[_,_,_]) [0,2,1] Z Z)) Z λp9 _=>.nt<|.rt<|.tR<|.bR<|?_
   refine y7 Z .nil rfl λW s=>?_;have e0:oR l (⟨q,o::r,(v::V,bd),true,dn⟩:Ps)=⟨q.nx,r,((tmv (.mk 6 o.f.nm 0 [v.e]))::V,bd || !v.tm),true,dn⟩:=bM1 rfl hk ho6 y74.2;rw [e0];exact ⟨(_,_,_,_,_,AR),⟨u2,⟨SO.up u2.up,.cons (VS1.up u2.up) VN⟩⟩,Z,s.pickT (hd:=[_,_,_]) (tl:=(AR++bs)) (hd':=[_,_,_]) [0,1,2] rfl rfl⟩
  have ho6:¬ o.op=6:=λe=>aP h91 (by rw [e];rfl);refine .sk<|.tN<|.sm Z<|.mv Z<|.nC Z<|.fA Z dK<|.fA Z cY<|.s1Q (tK (n:=r.length * 11) (j:=9) (cs':=oC o (.slice (some ⟨b86,0,none⟩) 1 1) s2) hlo Z) Z Z mQ Z oV (by rw [aH,hlo];show r.length * 11+9<r.length * 11+11;omega)<|.nt<|.rg<|.mv Z<|.mv Z<|.nC Z<|.fA Z dK<|.yw (.loadR (vs:=(cFm .u8 o.f.op o.f.nm o.f.fd o.f.a o.f.b (.slice (some ⟨b86,0,none⟩) 1 1) s2)) Z cQ nL Z (λj u h=>by rw [dN];exact kF hlo (by rw [Nat.add_comm 4 j];exact h)))<|.yw (.build Z (iT _ _ _ _ _ _ _))<|?_
  have VN:VlR H2 (fmv (o.f.wEx [v.e])) (.slice none 0 0) (.slice (some ⟨b86,0,none⟩) 1 1) s2:=⟨ExR.zero rfl (aR _),⟨(Rep.mk m2 (.single (V1.e.up u2.up).rep rfl) rfl (bK _) (by decide)),FO.ar.up u2.up,FO.nm,FO.fd⟩⟩;refine .cs (X:=(Nat × Nat) × (Option Addr × Nat)) qP Z (λW s=>xU (K.up u2.up) (dB K.gd.last hq y74.2) VN.one (by omega) (by omega) hlo (s.pickT (hd:=[_,_,_]) (tl:=(AR++bs)) (hd':=[_,_,_]) [0,2,1] Z Z)) Z λp9 _=>.nl<|.bN<|?_
  refine jE (.inr Z) rfl .nil rfl λW s=>?_;have e0:oR l (⟨q,o::r,(v::V,bd),true,dn⟩:Ps)=⟨q.nx,r,((fmv (o.f.wEx [v.e]))::V,bd || !v.tm),true,dn⟩:=bM0 rfl hk ho6 y74.2;rw [e0];exact ⟨(_,_,_,_,_,AR),⟨u2,⟨SO.up u2.up,.cons (VS1.up u2.up) VN⟩⟩,Z,s.pickT (hd:=[_,_,_]) (tl:=(AR++bs)) (hd':=[_,_,_]) [0,1,2] rfl rfl⟩
 rw [h74] at e74;rw [aG (by rw [h74];decide)];refine .cu (X:=Bool) [(0,_),(2,_)] ⟨Z,Z,Jt⟩ (λz=>[(114,.bool z)]) (λz=>H) (λz=>(.box b [.slice tp l.length tc,iN ((if z then Rq.nx q else q).i),(.slice (some ⟨g,0,none⟩) (o::r).length c),rv,.bool true,.bool dn,.bool bd,iN ((if z then Rq.nx q else q).off),iN ((if z then Rq.nx q else q).er)] 102::.row 97 11 ((.slice (some ⟨g,0,none⟩) (o::r).length c)) ((o::r).length) ((xr++oC o s1 s2))::.row 179 13 (rv) (V.length+1) ((yr++vC v t0 t1 t2))::(AR++bs))) (λz=>z=(decide (o.kd=5) && Rq.ac l [44] q)) ?_ λz hC=>?_
 ·
  refine .rg<|.mv Z<|.nC Z<|.fA Z gJ<|.yw (.loadR1 Z mL dC (kF hlo Z))<|.yw (.eql Z Z)<|.mv Z<|.b2 (λh120=>?_) (λh120=>?_)
  ·have hg:o.kd=5:=aS.1 (by have:=aJ h120;show o.kd.toNat=5;omega);exact .gy (.move Z)<|.gd Z Z<|.cs (X:=Unit) dG Z (λW s=>eI K hq [44] (s.pickT (hd:=[_,_,_]) (tl:=(AR++bs)) (hd':=[_,_,_]) [0,1,2] Z Z)) Z λ_ _=>.yw (.pickT Z Z)<|.aq Z<|.me _ ⟨Z,Jt⟩ ⟨Z,Z,Jt⟩ (λ_ s=>s) (by first | rw [aK hg,aA] | (rw [aM hg];rfl))
  have hg:¬ o.kd=5:=λe=>aP h120 (by rw [e];rfl);exact .gG<|.gG<|.yw (.pickF Z Z)<|.aq Z<|.me _ ⟨Z,Jt⟩ ⟨Z,Z,Jt⟩ (λ_ s=>s) (by first | rw [aK hg,aA] | (rw [aM hg];rfl))
 have e114:=hC;refine .cd Z (λh114=>?_) (λh114=>?_)
 ·rw [h114] at e114;have y114:=aF _ _ |>.mp e114.symm
  have hk:o.kd=5:=aJ y114.1;rw [aO h114];obtain ⟨AR1,xe,rfl,SO,rfl,hze,har,hnm,hfd⟩:=Ops.inv5 S.ops hk;refine Sx.reSt (λW s=>(s:St _ _ (_::_::_::_::(AR1++bs)) W)) ?_;obtain ⟨AR,rfl⟩:∃ A,A=AR1:=⟨_,Z⟩;refine Sx.At.ra (size:=4) (r:=s1) (e:=76) rY λpA cA e=>?_;subst e;refine .sq<|.fx (p:=.light _ _ (.light _ _ (.light _ _ (.light _ _ (.light _ _ (.light _ _ (.light _ _ (.alt _ _ _ (.alt _ _ _ (.alt _ _ _ (.light _ _ (.light _ _ (.light _ _ (.light _ _ (.alt _ _ _ (.alt _ _ _ (.done) (.no)) (.alt _ _ _ (.alt _ _ _ (.done) (.no)) (.no))))))) (.no)) (.no)) (.alt _ _ _ (.alt _ _ _ (.alt _ _ _ (.light _ _ (.light _ _ (.light _ _ (.light _ _ (.alt _ _ _ (.alt _ _ _ (.done) (.no)) (.alt _ _ _ (.alt _ _ _ (.done) (.no)) (.no))))))) (.no)) (.no)) (.no)))))))))) 16 (.light 0 (.light 1 (.light 2 (.light 3 (.light 4 (.light 5 (.light 7 (.alt 6 2 (.alt 8 0 (.alt 9 2 (.light 10 (.light 12 (.light 13 (.light 14 (.alt 11 2 (.alt 15 2 (.done) (.no)) (.alt 15 2 (.alt 11 2 (.done) (.no)) (.no))))))) (.no)) (.no)) (.alt 8 0 (.alt 6 2 (.alt 9 2 (.light 10 (.light 12 (.light 13 (.light 14 (.alt 11 2 (.alt 15 2 (.done) (.no)) (.alt 15 2 (.alt 11 2 (.done) (.no)) (.no))))))) (.no)) (.no)) (.no)))))))))) (by kernel_rfl) (by kernel_rfl) Z<|.mv Z<|.nC Z<|.fA Z dK<|.fA Z cY<|.yw (.loadR1 Z dQ dC (AH (j:=5) hlo Z))<|.mv Z<|.yw (.lenSl dW Z)<|.h ?_ (.h ?_ .nn)
  ·
   refine .c3 (X:=Nat × Nat) nO Z (λW s=>yE K (dB K.gd.last hq y114.2) V1.one (by omega) l1 (s.pickT (hd:=[_,_,_,_]) (tl:=(AR++bs)) (hd':=[_,_,_,_]) [0,2,1,3] Z Z)) Z (λ_ _=>(.yv (.lenSl dW Z)<|.dn<|.yv (.loadR1 Z dQ nL (AH (j:=5) hlo Z))<|.yv (.fieldAddr Z cY)<|.yv (.fieldAddr Z dK)<|.yv (.nilCheck Z)<|.yv (.move Z)<|.nl)) λp1 _=>.h1<|.blF Z (nQ _ _ _ _) Z λb132 H3 u3 m3=>.h1<|.apE vN Z (λ_ _=>qF) Z (Rep.mk (n:=1) (c:=1) (ds:=[dEx .u8 zE]) m3 (.single (QX _) Z) Z (bK _) (by decide)) (Nat.succ_pos _) (by simp only [maxLen];omega) (by omega) Z (λ_ _=>(.d4<|.d3<|.nl)) λnews gE cE hn=>.yw (.indexSl dW Z Z (i:=o.f.ex.length) Z (by omega) (q:=o.f.ex.length * 4) (by omega))<|.nC Z<|.fA Z dK<|.fA Z cY<|.h ?_ (.h ?_ .nn)
   ·
    refine .sR Z Z gQ (Rep.one V1.e.rep) qF (by have:=hn.len;have:=hze.len;simp only [aH,aI,aL,bJ] at * <;> omega) (.yv (.fieldAddr Z cY)<|.yv (.fieldAddr Z dK)<|.yv (.nilCheck Z)<|.d4<|.d4<|.nl) <|.h1<|.s1Q (tK (n:=r.length * 11) (j:=9) (cs':=oC o (.slice (some ⟨gE,0,none⟩) (o.f.ex.length+1) cE) (.slice none 0 0)) hlo Z) Z Z mQ Z oV (by rw [aH,hlo];show r.length * 11+9<r.length * 11+11;omega) (.d3<|.yv (.indexSl dW Z Z (i:=o.f.ex.length) Z (by omega) (q:=o.f.ex.length * 4) (by omega))<|.d4<|.d3<|.nl) <|.fe<|.tN<|.rg<|.mv Z<|.nC Z<|.fA Z lV<|.st .head Z Z nG Z (nb Z) Z<|.nl<|.bN<|?_
    refine jE (.inr Z) rfl .nil rfl λW s=>?_;have e0:oR l (⟨q,o::r,(v::V,bd),true,dn⟩:Ps)=⟨q.nx,⟨o.kd,o.lv,o.tm,o.op,o.f.wEx (o.f.ex++[v.e])⟩::r,(V,bd || !v.tm),false,dn⟩:=KJ rfl hk y114.2;rw [e0];have hz:=xR (ds:=o.f.ex.map (dEx .u8)) (hze.up u3.up) hn (V1.e.up u3.up).rep rfl (bJ ..);have ha:=Ops.arg (o:=⟨o.kd,o.lv,o.tm,o.op,o.f.wEx (o.f.ex++[v.e])⟩) (SO.up u3.up) hk har hnm hfd (by rw [show (⟨o.kd,o.lv,o.tm,o.op,o.f.wEx (o.f.ex++[v.e])⟩:Ov).f.ex=o.f.ex++[v.e] from rfl,cL];exact hz) (s1:=(.slice (some ⟨gE,0,none⟩) (o.f.ex.length+1) cE)) rfl;rw [show (⟨o.kd,o.lv,o.tm,o.op,o.f.wEx (o.f.ex++[v.e])⟩:Ov).f.ex.length=o.f.ex.length+1 from by show (o.f.ex++[v.e]).length=_;rw [aH];rfl] at ha;exact ⟨(H3,(.slice (some ⟨g,0,none⟩) (o::r).length c),.slice (some ⟨p1.1,0,none⟩) V.length p1.2,xr++oC ⟨o.kd,o.lv,o.tm,o.op,o.f.wEx (o.f.ex++[v.e])⟩ (.slice (some ⟨gE,0,none⟩) (o.f.ex.length+1) cE) (.slice none 0 0),yr,.row 76 4 (.slice (some ⟨gE,0,none⟩) (o.f.ex.length+1) cE) (o.f.ex.length+1) (nV (xe++news) (o.f.ex.length * 4) [.int .u8 v.e.op.toNat,cH v.e.nm,.int .i64 v.e.n.toInt,t0])::AR),⟨u3,⟨ha,(VS1.up u3.up)⟩⟩,Z,s.pickT (hd:=[_,_,_,_]) (tl:=(AR++bs)) (hd':=[_,_,_,_]) [0,2,1,3] rfl rfl⟩
   refine .s1Q (tK (n:=r.length * 11) (j:=9) (cs':=oC o (.slice (some ⟨gE,0,none⟩) (o.f.ex.length+1) cE) (.slice none 0 0)) hlo Z) Z Z mQ Z oV (by rw [aH,hlo];show r.length * 11+9<r.length * 11+11;omega) (.d3<|.yv (.indexSl dW Z Z (i:=o.f.ex.length) Z (by omega) (q:=o.f.ex.length * 4) (by omega))<|.d4<|.d3<|.nl) <|.h1<|.sR Z Z gQ (Rep.one V1.e.rep) qF (by have:=hn.len;have:=hze.len;simp only [aH,aI,aL,bJ] at * <;> omega) (.yv (.fieldAddr Z cY)<|.yv (.fieldAddr Z dK)<|.yv (.nilCheck Z)<|.d4<|.d4<|.nl) <|.fe<|.tN<|.rg<|.mv Z<|.nC Z<|.fA Z lV<|.st .head Z Z nG Z (nb Z) Z<|.nl<|.bN<|?_
   refine jE (.inr Z) rfl .nil rfl λW s=>?_;have e0:oR l (⟨q,o::r,(v::V,bd),true,dn⟩:Ps)=⟨q.nx,⟨o.kd,o.lv,o.tm,o.op,o.f.wEx (o.f.ex++[v.e])⟩::r,(V,bd || !v.tm),false,dn⟩:=KJ rfl hk y114.2;rw [e0];have hz:=xR (ds:=o.f.ex.map (dEx .u8)) (hze.up u3.up) hn (V1.e.up u3.up).rep rfl (bJ ..);have ha:=Ops.arg (o:=⟨o.kd,o.lv,o.tm,o.op,o.f.wEx (o.f.ex++[v.e])⟩) (SO.up u3.up) hk har hnm hfd (by rw [show (⟨o.kd,o.lv,o.tm,o.op,o.f.wEx (o.f.ex++[v.e])⟩:Ov).f.ex=o.f.ex++[v.e] from rfl,cL];exact hz) (s1:=(.slice (some ⟨gE,0,none⟩) (o.f.ex.length+1) cE)) rfl;rw [show (⟨o.kd,o.lv,o.tm,o.op,o.f.wEx (o.f.ex++[v.e])⟩:Ov).f.ex.length=o.f.ex.length+1 from by show (o.f.ex++[v.e]).length=_;rw [aH];rfl] at ha;exact ⟨(H3,(.slice (some ⟨g,0,none⟩) (o::r).length c),.slice (some ⟨p1.1,0,none⟩) V.length p1.2,xr++oC ⟨o.kd,o.lv,o.tm,o.op,o.f.wEx (o.f.ex++[v.e])⟩ (.slice (some ⟨gE,0,none⟩) (o.f.ex.length+1) cE) (.slice none 0 0),yr,.row 76 4 (.slice (some ⟨gE,0,none⟩) (o.f.ex.length+1) cE) (o.f.ex.length+1) (nV (xe++news) (o.f.ex.length * 4) [.int .u8 v.e.op.toNat,cH v.e.nm,.int .i64 v.e.n.toInt,t0])::AR),⟨u3,⟨ha,(VS1.up u3.up)⟩⟩,Z,s.pickT (hd:=[_,_,_,_]) (tl:=(AR++bs)) (hd':=[_,_,_,_]) [0,2,1,3] rfl rfl⟩
  refine .blF Z (nQ _ _ _ _) Z λb132 H3 u3 m3=>.h1<|.c3 (X:=Nat × Nat) nO Z (λW s=>yE (K.up u3.up) (dB K.gd.last hq y114.2) V1.one (by omega) l1 (s.pickT (hd:=[_,_,_,_]) (tl:=(AR++bs)) (hd':=[_,_,_,_]) [0,2,1,3] Z Z)) Z (λ_ _=>(.yv (.lenSl dW Z)<|.dn<|.yv (.loadR1 Z dQ nL (AH (j:=5) hlo Z))<|.yv (.fieldAddr Z cY)<|.yv (.fieldAddr Z dK)<|.yv (.nilCheck Z)<|.yv (.move Z)<|.nl)) λp1 _=>.h1<|.apE vN Z (λ_ _=>qF) Z (Rep.mk (n:=1) (c:=1) (ds:=[dEx .u8 zE]) m3 (.single (QX _) Z) Z (bK _) (by decide)) (Nat.succ_pos _) (by simp only [maxLen];omega) (by omega) Z (λ_ _=>(.d4<|.d3<|.nl)) λnews gE cE hn=>.yw (.indexSl dW Z Z (i:=o.f.ex.length) Z (by omega) (q:=o.f.ex.length * 4) (by omega))<|.nC Z<|.fA Z dK<|.fA Z cY<|.h ?_ (.h ?_ .nn)
  ·
   refine .sR Z Z gQ (Rep.one V1.e.rep) qF (by have:=hn.len;have:=hze.len;simp only [aH,aI,aL,bJ] at * <;> omega) (.yv (.fieldAddr Z cY)<|.yv (.fieldAddr Z dK)<|.yv (.nilCheck Z)<|.d4<|.d4<|.nl) <|.h1<|.s1Q (tK (n:=r.length * 11) (j:=9) (cs':=oC o (.slice (some ⟨gE,0,none⟩) (o.f.ex.length+1) cE) (.slice none 0 0)) hlo Z) Z Z mQ Z oV (by rw [aH,hlo];show r.length * 11+9<r.length * 11+11;omega) (.d3<|.yv (.indexSl dW Z Z (i:=o.f.ex.length) Z (by omega) (q:=o.f.ex.length * 4) (by omega))<|.d4<|.d3<|.nl) <|.fe<|.tN<|.rg<|.mv Z<|.nC Z<|.fA Z lV<|.st .head Z Z nG Z (nb Z) Z<|.nl<|.bN<|?_
   refine jE (.inr Z) rfl .nil rfl λW s=>?_;have e0:oR l (⟨q,o::r,(v::V,bd),true,dn⟩:Ps)=⟨q.nx,⟨o.kd,o.lv,o.tm,o.op,o.f.wEx (o.f.ex++[v.e])⟩::r,(V,bd || !v.tm),false,dn⟩:=KJ rfl hk y114.2;rw [e0];have hz:=xR (ds:=o.f.ex.map (dEx .u8)) (hze.up u3.up) hn (V1.e.up u3.up).rep rfl (bJ ..);have ha:=Ops.arg (o:=⟨o.kd,o.lv,o.tm,o.op,o.f.wEx (o.f.ex++[v.e])⟩) (SO.up u3.up) hk har hnm hfd (by rw [show (⟨o.kd,o.lv,o.tm,o.op,o.f.wEx (o.f.ex++[v.e])⟩:Ov).f.ex=o.f.ex++[v.e] from rfl,cL];exact hz) (s1:=(.slice (some ⟨gE,0,none⟩) (o.f.ex.length+1) cE)) rfl;rw [show (⟨o.kd,o.lv,o.tm,o.op,o.f.wEx (o.f.ex++[v.e])⟩:Ov).f.ex.length=o.f.ex.length+1 from by show (o.f.ex++[v.e]).length=_;rw [aH];rfl] at ha;exact ⟨(H3,(.slice (some ⟨g,0,none⟩) (o::r).length c),.slice (some ⟨p1.1,0,none⟩) V.length p1.2,xr++oC ⟨o.kd,o.lv,o.tm,o.op,o.f.wEx (o.f.ex++[v.e])⟩ (.slice (some ⟨gE,0,none⟩) (o.f.ex.length+1) cE) (.slice none 0 0),yr,.row 76 4 (.slice (some ⟨gE,0,none⟩) (o.f.ex.length+1) cE) (o.f.ex.length+1) (nV (xe++news) (o.f.ex.length * 4) [.int .u8 v.e.op.toNat,cH v.e.nm,.int .i64 v.e.n.toInt,t0])::AR),⟨u3,⟨ha,(VS1.up u3.up)⟩⟩,Z,s.pickT (hd:=[_,_,_,_]) (tl:=(AR++bs)) (hd':=[_,_,_,_]) [0,2,1,3] rfl rfl⟩
  refine .s1Q (tK (n:=r.length * 11) (j:=9) (cs':=oC o (.slice (some ⟨gE,0,none⟩) (o.f.ex.length+1) cE) (.slice none 0 0)) hlo Z) Z Z mQ Z oV (by rw [aH,hlo];show r.length * 11+9<r.length * 11+11;omega) (.d3<|.yv (.indexSl dW Z Z (i:=o.f.ex.length) Z (by omega) (q:=o.f.ex.length * 4) (by omega))<|.d4<|.d3<|.nl) <|.h1<|.sR Z Z gQ (Rep.one V1.e.rep) qF (by have:=hn.len;have:=hze.len;simp only [aH,aI,aL,bJ] at * <;> omega) (.yv (.fieldAddr Z cY)<|.yv (.fieldAddr Z dK)<|.yv (.nilCheck Z)<|.d4<|.d4<|.nl) <|.fe<|.tN<|.rg<|.mv Z<|.nC Z<|.fA Z lV<|.st .head Z Z nG Z (nb Z) Z<|.nl<|.bN<|?_
  refine jE (.inr Z) rfl .nil rfl λW s=>?_;have e0:oR l (⟨q,o::r,(v::V,bd),true,dn⟩:Ps)=⟨q.nx,⟨o.kd,o.lv,o.tm,o.op,o.f.wEx (o.f.ex++[v.e])⟩::r,(V,bd || !v.tm),false,dn⟩:=KJ rfl hk y114.2;rw [e0];have hz:=xR (ds:=o.f.ex.map (dEx .u8)) (hze.up u3.up) hn (V1.e.up u3.up).rep rfl (bJ ..);have ha:=Ops.arg (o:=⟨o.kd,o.lv,o.tm,o.op,o.f.wEx (o.f.ex++[v.e])⟩) (SO.up u3.up) hk har hnm hfd (by rw [show (⟨o.kd,o.lv,o.tm,o.op,o.f.wEx (o.f.ex++[v.e])⟩:Ov).f.ex=o.f.ex++[v.e] from rfl,cL];exact hz) (s1:=(.slice (some ⟨gE,0,none⟩) (o.f.ex.length+1) cE)) rfl;rw [show (⟨o.kd,o.lv,o.tm,o.op,o.f.wEx (o.f.ex++[v.e])⟩:Ov).f.ex.length=o.f.ex.length+1 from by show (o.f.ex++[v.e]).length=_;rw [aH];rfl] at ha;exact ⟨(H3,(.slice (some ⟨g,0,none⟩) (o::r).length c),.slice (some ⟨p1.1,0,none⟩) V.length p1.2,xr++oC ⟨o.kd,o.lv,o.tm,o.op,o.f.wEx (o.f.ex++[v.e])⟩ (.slice (some ⟨gE,0,none⟩) (o.f.ex.length+1) cE) (.slice none 0 0),yr,.row 76 4 (.slice (some ⟨gE,0,none⟩) (o.f.ex.length+1) cE) (o.f.ex.length+1) (nV (xe++news) (o.f.ex.length * 4) [.int .u8 v.e.op.toNat,cH v.e.nm,.int .i64 v.e.n.toInt,t0])::AR),⟨u3,⟨ha,(VS1.up u3.up)⟩⟩,Z,s.pickT (hd:=[_,_,_,_]) (tl:=(AR++bs)) (hd':=[_,_,_,_]) [0,2,1,3] rfl rfl⟩
 rw [h114] at e114;rw [aG (by rw [h114];decide)];refine .cu (X:=Bool) [(0,_),(2,_)] ⟨Z,Z,Jt⟩ (λz=>[(141,.bool z)]) (λz=>H) (λz=>(.box b [.slice tp l.length tc,iN ((if z then Rq.nx q else q).i),(.slice (some ⟨g,0,none⟩) (o::r).length c),rv,.bool true,.bool dn,.bool bd,iN ((if z then Rq.nx q else q).off),iN ((if z then Rq.nx q else q).er)] 102::.row 97 11 ((.slice (some ⟨g,0,none⟩) (o::r).length c)) ((o::r).length) ((xr++oC o s1 s2))::.row 179 13 (rv) (V.length+1) ((yr++vC v t0 t1 t2))::(AR++bs))) (λz=>z=(decide (o.kd=5) && Rq.ac l [41] q)) ?_ λz hC=>?_
 ·
  refine .rg<|.mv Z<|.nC Z<|.fA Z gJ<|.yw (.loadR1 Z mL dC (kF hlo Z))<|.yw (.eql Z Z)<|.mv Z<|.b2 (λh147=>?_) (λh147=>?_)
  ·have hg:o.kd=5:=aS.1 (by have:=aJ h147;show o.kd.toNat=5;omega);exact .gy (.move Z)<|.gd Z Z<|.cs (X:=Unit) dG Z (λW s=>eI K hq [41] (s.pickT (hd:=[_,_,_]) (tl:=(AR++bs)) (hd':=[_,_,_]) [0,1,2] Z Z)) Z λ_ _=>.yw (.pickT Z Z)<|.aq Z<|.me _ ⟨Z,Jt⟩ ⟨Z,Z,Jt⟩ (λ_ s=>s) (by first | rw [aK hg,aA] | (rw [aM hg];rfl))
  have hg:¬ o.kd=5:=λe=>aP h147 (by rw [e];rfl);exact .gG<|.gG<|.yw (.pickF Z Z)<|.aq Z<|.me _ ⟨Z,Jt⟩ ⟨Z,Z,Jt⟩ (λ_ s=>s) (by first | rw [aK hg,aA] | (rw [aM hg];rfl))
 have e141:=hC;refine .cd Z (λh141=>?_) (λh141=>?_)
 ·rw [h141] at e141;have y141:=aF _ _ |>.mp e141.symm
  have hk:o.kd=5:=aJ y141.1;rw [aO h141];obtain ⟨AR1,xe,rfl,SO,rfl,hze,har,hnm,hfd⟩:=Ops.inv5 S.ops hk;refine Sx.reSt (λW s=>(s:St _ _ (_::_::_::_::(AR1++bs)) W)) ?_;obtain ⟨AR,rfl⟩:∃ A,A=AR1:=⟨_,Z⟩;refine Sx.At.ra (size:=4) (r:=s1) (e:=76) rY λpA cA e=>?_;subst e;refine .sq<|.fx (p:=.light _ _ (.light _ _ (.light _ _ (.light _ _ (.light _ _ (.light _ _ (.light _ _ (.alt _ _ _ (.alt _ _ _ (.alt _ _ _ (.light _ _ (.light _ _ (.light _ _ (.light _ _ (.alt _ _ _ (.alt _ _ _ (.done) (.no)) (.alt _ _ _ (.alt _ _ _ (.done) (.no)) (.no))))))) (.no)) (.no)) (.alt _ _ _ (.alt _ _ _ (.alt _ _ _ (.light _ _ (.light _ _ (.light _ _ (.light _ _ (.alt _ _ _ (.alt _ _ _ (.done) (.no)) (.alt _ _ _ (.alt _ _ _ (.done) (.no)) (.no))))))) (.no)) (.no)) (.no)))))))))) 16 (.light 0 (.light 1 (.light 2 (.light 3 (.light 4 (.light 5 (.light 7 (.alt 6 2 (.alt 8 0 (.alt 9 2 (.light 10 (.light 12 (.light 13 (.light 14 (.alt 11 2 (.alt 15 2 (.done) (.no)) (.alt 15 2 (.alt 11 2 (.done) (.no)) (.no))))))) (.no)) (.no)) (.alt 8 0 (.alt 6 2 (.alt 9 2 (.light 10 (.light 12 (.light 13 (.light 14 (.alt 11 2 (.alt 15 2 (.done) (.no)) (.alt 15 2 (.alt 11 2 (.done) (.no)) (.no))))))) (.no)) (.no)) (.no)))))))))) (by kernel_rfl) (by kernel_rfl) Z<|.mv Z<|.nC Z<|.fA Z dK<|.fA Z cY<|.yw (.loadR1 Z dQ dC (AH (j:=5) hlo Z))<|.mv Z<|.yw (.lenSl dW Z)<|.h ?_ (.h ?_ .nn)
  ·
   refine .c3 (X:=Nat × Nat) nO Z (λW s=>yE K (dB K.gd.last hq y141.2) V1.one (by omega) l1 (s.pickT (hd:=[_,_,_,_]) (tl:=(AR++bs)) (hd':=[_,_,_,_]) [0,2,1,3] Z Z)) Z (λ_ _=>(.yv (.lenSl dW Z)<|.dn<|.yv (.loadR1 Z dQ nL (AH (j:=5) hlo Z))<|.yv (.fieldAddr Z cY)<|.yv (.fieldAddr Z dK)<|.yv (.nilCheck Z)<|.yv (.move Z)<|.nl)) λp1 _=>.h1<|.blF Z (nQ _ _ _ _) Z λb159 H39 u39 m39=>.h1<|.apE vN Z (λ_ _=>qF) Z (Rep.mk (n:=1) (c:=1) (ds:=[dEx .u8 zE]) m39 (.single (QX _) Z) Z (bK _) (by decide)) (Nat.succ_pos _) (by simp only [maxLen];omega) (by omega) Z (λ_ _=>(.d4<|.d3<|.nl)) λnews9 gE9 cE9 hn9=>.yw (.indexSl dW Z Z (i:=o.f.ex.length) Z (by omega) (q:=o.f.ex.length * 4) (by omega))<|.nC Z<|.fA Z dK<|.fA Z cY<|.h ?_ (.h ?_ .nn)
   ·
    refine .sR Z Z gQ (Rep.one V1.e.rep) qF (by have:=hn9.len;have:=hze.len;simp only [aH,aI,aL,bJ] at * <;> omega) (.yv (.fieldAddr Z cY)<|.yv (.fieldAddr Z dK)<|.yv (.nilCheck Z)<|.d4<|.d4<|.nl) <|.h1<|.s1Q (tK (n:=r.length * 11) (j:=9) (cs':=oC o (.slice (some ⟨gE9,0,none⟩) (o.f.ex.length+1) cE9) (.slice none 0 0)) hlo Z) Z Z mQ Z oV (by rw [aH,hlo];show r.length * 11+9<r.length * 11+11;omega) (.d3<|.yv (.indexSl dW Z Z (i:=o.f.ex.length) Z (by omega) (q:=o.f.ex.length * 4) (by omega))<|.d4<|.d3<|.nl) <|.fe<|.tN<|.rg<|.mv Z<|.mv Z<|.nC Z<|.fA Z dK<|.yw (.loadR (vs:=(cFm .u8 o.f.op o.f.nm o.f.fd o.f.a o.f.b (.slice (some ⟨gE9,0,none⟩) (o.f.ex.length+1) cE9) (.slice none 0 0))) Z cQ nL Z (λj u h=>by rw [dN];exact kF hlo (by rw [Nat.add_comm 4 j];exact h)))<|.yw (.build Z (iT _ _ _ _ _ _ _))<|.cs (X:=(Nat × Nat) × (Option Addr × Nat)) qP Z (λW s=>xU (K.up u39.up) (dB K.gd.last hq y141.2) (by simp [Value.oneCell',cH]) (by omega) (by omega) hlo (s.pickT (hd:=[_,_,_,_]) (tl:=(AR++bs)) (hd':=[_,_,_,_]) [0,2,1,3] Z Z)) Z λp9 _=>.nl<|.bN<|?_
    refine Sx.reSt (λW s=>s.pickT (hd:=[_,_,_,_]) (tl:=(AR++bs)) (hd':=[_,_,_,_]) [3,0,1,2] rfl rfl) ?_;refine lY (ds:=(o.f.ex++[v.e]).map (dEx .u8)) (by rw [bJ,aH];rfl) (by rw [cL];exact xR (ds:=o.f.ex.map (dEx .u8)) (hze.up u39.up) hn9 (V1.e.up u39.up).rep rfl (bJ ..)) λH8 p8 c8 u8 e8 h8=>?_;refine jE (.inr Z) rfl .nil rfl λW s=>?_;have e0:oR l (⟨q,o::r,(v::V,bd),true,dn⟩:Ps)=⟨q.nx,r,((fmv (o.f.wEx (o.f.ex++[v.e])))::V,bd || !v.tm),true,dn⟩:=KK rfl hk y141.2;rw [e0];exact ⟨(_,_,_,_,_,AR),⟨(u39.trans u8),⟨((SO.up u39.up).up u8.up),.cons ((VS1.up u39.up).up u8.up) (v:=(fmv (o.f.wEx (o.f.ex++[v.e])))) ⟨ExR.zero rfl (aR _),⟨h8,by show Rep _ (.seq 7 (o.f.args.map _)) _;rw [har];exact Rep.nil4,hnm,hfd⟩⟩⟩⟩,Z,s.pickT (hd:=[_,_,_]) (tl:=(AR++bs)) (hd':=[_,_,_]) [0,1,2] rfl rfl⟩
   refine .s1Q (tK (n:=r.length * 11) (j:=9) (cs':=oC o (.slice (some ⟨gE9,0,none⟩) (o.f.ex.length+1) cE9) (.slice none 0 0)) hlo Z) Z Z mQ Z oV (by rw [aH,hlo];show r.length * 11+9<r.length * 11+11;omega) (.d3<|.yv (.indexSl dW Z Z (i:=o.f.ex.length) Z (by omega) (q:=o.f.ex.length * 4) (by omega))<|.d4<|.d3<|.nl) <|.h1<|.sR Z Z gQ (Rep.one V1.e.rep) qF (by have:=hn9.len;have:=hze.len;simp only [aH,aI,aL,bJ] at * <;> omega) (.yv (.fieldAddr Z cY)<|.yv (.fieldAddr Z dK)<|.yv (.nilCheck Z)<|.d4<|.d4<|.nl) <|.fe<|.tN<|.rg<|.mv Z<|.mv Z<|.nC Z<|.fA Z dK<|.yw (.loadR (vs:=(cFm .u8 o.f.op o.f.nm o.f.fd o.f.a o.f.b (.slice (some ⟨gE9,0,none⟩) (o.f.ex.length+1) cE9) (.slice none 0 0))) Z cQ nL Z (λj u h=>by rw [dN];exact kF hlo (by rw [Nat.add_comm 4 j];exact h)))<|.yw (.build Z (iT _ _ _ _ _ _ _))<|.cs (X:=(Nat × Nat) × (Option Addr × Nat)) qP Z (λW s=>xU (K.up u39.up) (dB K.gd.last hq y141.2) (by simp [Value.oneCell',cH]) (by omega) (by omega) hlo (s.pickT (hd:=[_,_,_,_]) (tl:=(AR++bs)) (hd':=[_,_,_,_]) [0,2,1,3] Z Z)) Z λp9 _=>.nl<|.bN<|?_
   refine Sx.reSt (λW s=>s.pickT (hd:=[_,_,_,_]) (tl:=(AR++bs)) (hd':=[_,_,_,_]) [3,0,1,2] rfl rfl) ?_;refine lY (ds:=(o.f.ex++[v.e]).map (dEx .u8)) (by rw [bJ,aH];rfl) (by rw [cL];exact xR (ds:=o.f.ex.map (dEx .u8)) (hze.up u39.up) hn9 (V1.e.up u39.up).rep rfl (bJ ..)) λH8 p8 c8 u8 e8 h8=>?_;refine jE (.inr Z) rfl .nil rfl λW s=>?_;have e0:oR l (⟨q,o::r,(v::V,bd),true,dn⟩:Ps)=⟨q.nx,r,((fmv (o.f.wEx (o.f.ex++[v.e])))::V,bd || !v.tm),true,dn⟩:=KK rfl hk y141.2;rw [e0];exact ⟨(_,_,_,_,_,AR),⟨(u39.trans u8),⟨((SO.up u39.up).up u8.up),.cons ((VS1.up u39.up).up u8.up) (v:=(fmv (o.f.wEx (o.f.ex++[v.e])))) ⟨ExR.zero rfl (aR _),⟨h8,by show Rep _ (.seq 7 (o.f.args.map _)) _;rw [har];exact Rep.nil4,hnm,hfd⟩⟩⟩⟩,Z,s.pickT (hd:=[_,_,_]) (tl:=(AR++bs)) (hd':=[_,_,_]) [0,1,2] rfl rfl⟩
  refine .blF Z (nQ _ _ _ _) Z λb159 H39 u39 m39=>.h1<|.c3 (X:=Nat × Nat) nO Z (λW s=>yE (K.up u39.up) (dB K.gd.last hq y141.2) V1.one (by omega) l1 (s.pickT (hd:=[_,_,_,_]) (tl:=(AR++bs)) (hd':=[_,_,_,_]) [0,2,1,3] Z Z)) Z (λ_ _=>(.yv (.lenSl dW Z)<|.dn<|.yv (.loadR1 Z dQ nL (AH (j:=5) hlo Z))<|.yv (.fieldAddr Z cY)<|.yv (.fieldAddr Z dK)<|.yv (.nilCheck Z)<|.yv (.move Z)<|.nl)) λp1 _=>.h1<|.apE vN Z (λ_ _=>qF) Z (Rep.mk (n:=1) (c:=1) (ds:=[dEx .u8 zE]) m39 (.single (QX _) Z) Z (bK _) (by decide)) (Nat.succ_pos _) (by simp only [maxLen];omega) (by omega) Z (λ_ _=>(.d4<|.d3<|.nl)) λnews9 gE9 cE9 hn9=>.yw (.indexSl dW Z Z (i:=o.f.ex.length) Z (by omega) (q:=o.f.ex.length * 4) (by omega))<|.nC Z<|.fA Z dK<|.fA Z cY<|.h ?_ (.h ?_ .nn)
  ·
   refine .sR Z Z gQ (Rep.one V1.e.rep) qF (by have:=hn9.len;have:=hze.len;simp only [aH,aI,aL,bJ] at * <;> omega) (.yv (.fieldAddr Z cY)<|.yv (.fieldAddr Z dK)<|.yv (.nilCheck Z)<|.d4<|.d4<|.nl) <|.h1<|.s1Q (tK (n:=r.length * 11) (j:=9) (cs':=oC o (.slice (some ⟨gE9,0,none⟩) (o.f.ex.length+1) cE9) (.slice none 0 0)) hlo Z) Z Z mQ Z oV (by rw [aH,hlo];show r.length * 11+9<r.length * 11+11;omega) (.d3<|.yv (.indexSl dW Z Z (i:=o.f.ex.length) Z (by omega) (q:=o.f.ex.length * 4) (by omega))<|.d4<|.d3<|.nl) <|.fe<|.tN<|.rg<|.mv Z<|.mv Z<|.nC Z<|.fA Z dK<|.yw (.loadR (vs:=(cFm .u8 o.f.op o.f.nm o.f.fd o.f.a o.f.b (.slice (some ⟨gE9,0,none⟩) (o.f.ex.length+1) cE9) (.slice none 0 0))) Z cQ nL Z (λj u h=>by rw [dN];exact kF hlo (by rw [Nat.add_comm 4 j];exact h)))<|.yw (.build Z (iT _ _ _ _ _ _ _))<|.cs (X:=(Nat × Nat) × (Option Addr × Nat)) qP Z (λW s=>xU (K.up u39.up) (dB K.gd.last hq y141.2) (by simp [Value.oneCell',cH]) (by omega) (by omega) hlo (s.pickT (hd:=[_,_,_,_]) (tl:=(AR++bs)) (hd':=[_,_,_,_]) [0,2,1,3] Z Z)) Z λp9 _=>.nl<|.bN<|?_
   refine Sx.reSt (λW s=>s.pickT (hd:=[_,_,_,_]) (tl:=(AR++bs)) (hd':=[_,_,_,_]) [3,0,1,2] rfl rfl) ?_;refine lY (ds:=(o.f.ex++[v.e]).map (dEx .u8)) (by rw [bJ,aH];rfl) (by rw [cL];exact xR (ds:=o.f.ex.map (dEx .u8)) (hze.up u39.up) hn9 (V1.e.up u39.up).rep rfl (bJ ..)) λH8 p8 c8 u8 e8 h8=>?_;refine jE (.inr Z) rfl .nil rfl λW s=>?_;have e0:oR l (⟨q,o::r,(v::V,bd),true,dn⟩:Ps)=⟨q.nx,r,((fmv (o.f.wEx (o.f.ex++[v.e])))::V,bd || !v.tm),true,dn⟩:=KK rfl hk y141.2;rw [e0];exact ⟨(_,_,_,_,_,AR),⟨(u39.trans u8),⟨((SO.up u39.up).up u8.up),.cons ((VS1.up u39.up).up u8.up) (v:=(fmv (o.f.wEx (o.f.ex++[v.e])))) ⟨ExR.zero rfl (aR _),⟨h8,by show Rep _ (.seq 7 (o.f.args.map _)) _;rw [har];exact Rep.nil4,hnm,hfd⟩⟩⟩⟩,Z,s.pickT (hd:=[_,_,_]) (tl:=(AR++bs)) (hd':=[_,_,_]) [0,1,2] rfl rfl⟩
  refine .s1Q (tK (n:=r.length * 11) (j:=9) (cs':=oC o (.slice (some ⟨gE9,0,none⟩) (o.f.ex.length+1) cE9) (.slice none 0 0)) hlo Z) Z Z mQ Z oV (by rw [aH,hlo];show r.length * 11+9<r.length * 11+11;omega) (.d3<|.yv (.indexSl dW Z Z (i:=o.f.ex.length) Z (by omega) (q:=o.f.ex.length * 4) (by omega))<|.d4<|.d3<|.nl) <|.h1<|.sR Z Z gQ (Rep.one V1.e.rep) qF (by have:=hn9.len;have:=hze.len;simp only [aH,aI,aL,bJ] at * <;> omega) (.yv (.fieldAddr Z cY)<|.yv (.fieldAddr Z dK)<|.yv (.nilCheck Z)<|.d4<|.d4<|.nl) <|.fe<|.tN<|.rg<|.mv Z<|.mv Z<|.nC Z<|.fA Z dK<|.yw (.loadR (vs:=(cFm .u8 o.f.op o.f.nm o.f.fd o.f.a o.f.b (.slice (some ⟨gE9,0,none⟩) (o.f.ex.length+1) cE9) (.slice none 0 0))) Z cQ nL Z (λj u h=>by rw [dN];exact kF hlo (by rw [Nat.add_comm 4 j];exact h)))<|.yw (.build Z (iT _ _ _ _ _ _ _))<|.cs (X:=(Nat × Nat) × (Option Addr × Nat)) qP Z (λW s=>xU (K.up u39.up) (dB K.gd.last hq y141.2) (by simp [Value.oneCell',cH]) (by omega) (by omega) hlo (s.pickT (hd:=[_,_,_,_]) (tl:=(AR++bs)) (hd':=[_,_,_,_]) [0,2,1,3] Z Z)) Z λp9 _=>.nl<|.bN<|?_
  refine Sx.reSt (λW s=>s.pickT (hd:=[_,_,_,_]) (tl:=(AR++bs)) (hd':=[_,_,_,_]) [3,0,1,2] rfl rfl) ?_;refine lY (ds:=(o.f.ex++[v.e]).map (dEx .u8)) (by rw [bJ,aH];rfl) (by rw [cL];exact xR (ds:=o.f.ex.map (dEx .u8)) (hze.up u39.up) hn9 (V1.e.up u39.up).rep rfl (bJ ..)) λH8 p8 c8 u8 e8 h8=>?_;refine jE (.inr Z) rfl .nil rfl λW s=>?_;have e0:oR l (⟨q,o::r,(v::V,bd),true,dn⟩:Ps)=⟨q.nx,r,((fmv (o.f.wEx (o.f.ex++[v.e])))::V,bd || !v.tm),true,dn⟩:=KK rfl hk y141.2;rw [e0];exact ⟨(_,_,_,_,_,AR),⟨(u39.trans u8),⟨((SO.up u39.up).up u8.up),.cons ((VS1.up u39.up).up u8.up) (v:=(fmv (o.f.wEx (o.f.ex++[v.e])))) ⟨ExR.zero rfl (aR _),⟨h8,by show Rep _ (.seq 7 (o.f.args.map _)) _;rw [har];exact Rep.nil4,hnm,hfd⟩⟩⟩⟩,Z,s.pickT (hd:=[_,_,_]) (tl:=(AR++bs)) (hd':=[_,_,_]) [0,1,2] rfl rfl⟩
 rw [h141] at e141;rw [aG (by rw [h141];decide)];refine .rg<|.mv Z<|.cs (X:=Unit) iS Z (λW s=>qN K hq 8 (s.pickT (hd:=[_,_,_]) (tl:=(AR++bs)) (hd':=[_,_,_]) [0,1,2] Z Z)) Z λ_ _=>.nl<|.bN<|?_
 refine jE (.inr Z) rfl .nil rfl λW s=>?_;have n2:∀ {n:UInt8} {w:Str},false=(decide (o.kd=n) && Rq.ac l w q)->o.kd=n->Rq.ac l w q=false:=λe k=>by rw [aK k,aA] at e;exact e.symm
 have e0:oR l (⟨q,o::r,(v::V,bd),true,dn⟩:Ps)=(⟨q,o::r,(v::V,bd),true,dn⟩:Ps).at (q.fail l 8):=bC4 (λe e2=>by rw [aK (show o.kd=1 from e),aK (show (tkf l q.i).k=0 from e2)] at e9;cases e9) (λe=>by
  rcases e with e | e | e
  ·exact n2 e24 e
  ·exact n2 e40 e
  ·exact n2 e141 e) (n2 e74) (n2 e114)
 rw [e0];exact ⟨(_,_,_,_,_,AR),⟨.refl,⟨S.ops,S.vls⟩⟩,Z,s.pickT (hd:=[_,_,_]) (tl:=(AR++bs)) (hd':=[_,_,_]) [0,1,2] rfl rfl⟩
def Fex (q:Ps):Prop:=∀ o∈q.op,o.f.ex.length<=q.c.i
section
variable {l:Tks} {q:Ps} {c:Rq} {o:Ov} {v:Vl}
theorem mY (h:Fex q) (hi:q.c.i<=c.i) (ho:o.f.ex=[]):Fex (jK o (q.at c)):=λz hz=>by
 rcases bV.1 hz with rfl | hz
 ·rw [bO1,ho];exact aR _
 ·exact bH (h z hz) hi
theorem sA (h:Fex q) (hi:q.c.i<=c.i):Fex (jZ v (q.at c)):=λz hz=>bH (h z hz) hi
theorem HN (h:Fex q) (hi:q.c.i<=c.i):Fex (q.at c):=λz hz=>bH (h z hz) hi
theorem LD {lv:Nat}:∀ (r:List Ov) (x:Vb),∀ z∈(BF lv r x).1,z∈r
 | [],_,z,h=>h
 | o::r,x,z,h=>by
  rw [BF] at h
  split at h
  ·exact bZ _ (LD r _ z h)
  ·exact h
theorem AC {lv:Nat} (h:Fex q):Fex (qG lv q):=λz hz=>h z (LD q.op q.x z hz)
theorem GJ {x:Vb} (h:Fex q) (hi:q.c.i<=c.i):Fex (HW c v x q):=λz hz=>bH (h z (List.mem_of_mem_tail hz)) hi
theorem jS {c:Prop} [Decidable c] {a b:Ps} (h1:c->Fex a) (h2:¬ c->Fex b):Fex (if c then a else b):=by
 by_cases hc:c
 ·rw [aO hc];exact h1 hc
 ·rw [aG hc];exact h2 hc
theorem wB (k:Mq q.c.nx c):q.c.i<=c.i:=bH (Nat.le_succ _) k.i
theorem aZ9 {q':Ps} (h:Fex q) (e:mT l q=some q'):Fex q':=by
 unfold mT at e
 split at e
 ·injection e with e;subst e;exact mY h (wB (.refl _)) rfl
 split at e
 ·injection e with e;subst e;exact mY h (wB (.refl _)) rfl
 split at e
 ·injection e with e;subst e;exact mY h (wB .wiS) rfl
 split at e
 ·injection e with e;subst e;exact mY h (wB .wiS) rfl
 split at e
 ·injection e with e;subst e;exact mY h (wB .amS) rfl
 split at e
 ·injection e with e;subst e;exact mY h (wB .amS) rfl
 split at e
 ·injection e with e;subst e;exact mY h (wB (.trans .amS .exS)) rfl
 ·cases e
theorem aX4:q.c.i<=(q.c.nmS l).i:=Mq.nmS.i
theorem bJ9 (h:Fex q):Fex (BD l q):=by
 unfold BD;refine jS (λa=>jS (λb=>mY h ?_ rfl) λ_=>sA h ?_) λ_=>sA h aX4
 ·exact bH aX4 (bH (Nat.le_succ _) (bH (Mq.nmS (q:=(q.c.nmS l).nx)).i (Nat.le_succ _)))
 ·exact bH aX4 (bH (Nat.le_succ _) (Mq.nmS (q:=(q.c.nmS l).nx)).i)
theorem bK5 (h:Fex q):Fex (DH l q):=by
 unfold DH;have h2:q.c.i<=((q.c.paS l).exS l [40]).i:=(Mq.trans (a:=q.c) .paS .exS).i;exact jS (λ_=>sA h (bH h2 (Nat.le_succ _))) λ_=>mY h h2 rfl
theorem bK1 (h:Fex q):Fex (rO l q):=by
 unfold rO
 exact jS (λ_=>mY h (wB (.refl _)) rfl) λ_=>jS (λ_=>mY h (wB (.refl _)) rfl) λ_ =>
  jS (λ_=>sA h Mq.nbS.i) λ_=>jS (λ_=>bJ9 h) λ_=>jS (λ_=>sA h (wB (.refl _))) λ_ =>
  jS (λ_=>sA h (wB .paS)) λ_=>jS (λ_=>sA h (wB (.refl _))) λ_=>jS (λ_=>sA h (wB (.refl _))) λ_ =>
  jS (λ_=>sA h (wB .nmS)) λ_=>jS (λ_=>mY h (wB (.trans .paS .exS)) rfl) λ_ =>
  jS (λ_=>bK5 (HN h (Nat.le_succ _))) λ_=>HN h Mq.fail.i
theorem WB (h:Fex q):Fex (eH l q):=by
 unfold eH;cases e:(if HL q then mT l q else none) with
 | some q' =>
  split at e
  ·exact aZ9 h e
  ·cases e
 | none =>
  show Fex (yS l q);unfold yS;exact jS (λ_=>sA h (Nat.le_succ _)) λ_=>bK1 h
theorem bK4 {op:UInt8} (h:Fex q):Fex (uP l op q):=by
 have f {lv:Nat}:Fex ((qG lv q).at (q.c.fail l 8)):=HN (AC h) (Mq.fail (q:=q.c)).i;have p {lv:Nat} {o:Ov} (ho:o.f.ex=[]):Fex (jK o ((qG lv q).at q.c.nx)):=mY (AC h) (Nat.le_succ _) ho;unfold uP;exact jS (λ_=>jS (λ_=>f) λ_=>p rfl) λ_=>jS (λ_=>jS (λ_=>f) λ_=>p rfl) λ_=>jS (λ_=>f) λ_=>p rfl
theorem bS9 (c:Rq):(c.joV l).ex=[]:=by
 unfold Rq.joV
 split
 ·rfl
 split
 ·rfl
 split
 ·rfl
 split <;> rfl
theorem bK2 (h:Fex q):Fex (yG l q):=by
 unfold yG;exact jS (λ_=>HN h Mq.fail.i) λ_=>mY (q:=qG _ q) (c:=q.c.joS l) (AC h) (Mq.joS (q:=q.c)).i (bS9 _)
theorem bK3 (h:Fex q):Fex (oR l q):=by
 unfold oR;refine jS (λ_=>h) λ_=>jS (λ_=>GJ h (Nat.le_succ _)) λ_=>jS (λ_=>GJ h (wB (.trans .exS .nbS))) λ_=>jS (λ_=>jS (λ_=>GJ h (Nat.le_succ _)) λ_=>GJ h (Nat.le_succ _)) λ_=>jS (λa=>?_) λ_=>jS (λ_=>GJ h (Nat.le_succ _)) λ_=>HN h Mq.fail.i;intro z hz;have hz':z∈(⟨(fP q).kd,(fP q).lv,(fP q).tm,(fP q).op,(fP q).f.wEx ((fP q).f.ex++[tE q.x])⟩:Ov)::q.op.tail:=hz;show z.f.ex.length<=q.c.i+1;rcases bV.1 hz' with e | hz
 ·subst e;show ((fP q).f.ex++[tE q.x]).length<=_;rw [aH]
  have:(fP q).f.ex.length<=q.c.i:=by
   unfold fP;cases hq:q.op with
   | nil=>exact aR _
   | cons o r=>exact h o (by rw [hq];exact bD ..)
  simp only [aI,aL];omega
 ·exact bH (h z (List.mem_of_mem_tail hz)) (Nat.le_succ _)
theorem aZ8 (h:Fex q):Fex (AW l q):=by
 unfold AW;refine jS (λ_=>?_) λ_=>WB h;unfold iE;cases q.c.sym l with
 | some i=>exact bK4 h
 | none =>
  show Fex (uK l q);unfold uK;exact jS (λ_=>bK2 h) λ_=>jS (λ_=>bK3 (AC h)) λ_=>HN h Mq.fail.i
end
def JJ (t:Str) (i:Nat):Bool:=decide (xB.getD i []=t) && decide (¬ i=0)
theorem aH0 {t:Str} (hk:k<22) (h:JJ t k=true) (hp:∀ j,j<k->JJ t j=false):aS9 t=some k:=List.find?_range_eq_some.2 ⟨h,cD.2 hk,λj hj=>by
 have:=hp j hj;unfold JJ at this;rw [this];rfl⟩
theorem WL {p:Nat->Prop} (h:∀ j,j<k->p j) (hk:p k):∀ j,j<k+1->p j:=λj hj=>by
 by_cases e:j=k
 ·rw [e];exact hk
 ·exact h j (by omega)
theorem aH1 {t:Str} (hp:∀ j,j<22->JJ t j=false):aS9 t=none:=List.find?_range_eq_none.2 λj hj=>by
 have:=hp j hj;unfold JJ at this;rw [this];rfl
theorem bW8 (h:k<256):IntKind.u8.wrap (k:Int)=(((UInt8.ofNat k).toNat:Nat):Int):=by
 have key:∀ i∈List.range 256,IntKind.u8.wrap (i:Int)=(i:Int):=by decide +kernel
 rw [key k (cD.2 h),eW h]
set_option maxHeartbeats 2000000 in
theorem XX {l:Tks} {op:List Ov} {x:Vb} {dn:Bool} (K:Tkf H l tp tc) (Wq:Fwf l ⟨q,op,x,true,dn⟩) (S:Sq H ⟨q,op,x,true,dn⟩ xo xv AR) (G:Gf H) (h0:q.er=0) (FE:Fex (⟨q,op,x,true,dn⟩:Ps)) (s:St H w0 (.box b [.slice tp l.length tc,iN q.i,ro,rv,.bool true,.bool dn,.bool x.2,iN q.off,iN q.er] 102::.row 97 11 (ro) (op.length) (xo)::.row 179 13 (rv) (x.1.length) (xv)::(AR++bs)) W) :
 Calls prg 55 #[.pointer (some ⟨b,0,none⟩)] W (Get w0 bs b l tp tc H (iE l ⟨q,op,x,true,dn⟩)):=by
 have hq:q.i<l.length:=Wq.i;have hcap:=K.rep.cap;refine kE func55 rfl ntmps55 rfl s ?_;refine .sm Z<|.cs (X:=Unit) sY Z (λW s=>xQ K hq  (s.pickT (hd:=[_,_,_]) (tl:=(AR++bs)) (hd':=[_,_,_]) [0,1,2] Z Z)) Z λ_ _=>.al xF Z λb2=>.sW .head Z Z xH (by simp [cTk,Value.oneCell',cH]) Z<|.nt<|.sq<|.cu (X:=Bool) [(0,_),(2,_)] ⟨Z,Z,Jt⟩ (λz=>[(14,.bool z)]) (λz=>H) (λz=>(.box b2 (cTk .u8 (tkf l q.i)) 108::.box b [.slice tp l.length tc,iN q.i,ro,rv,.bool true,.bool dn,.bool x.2,iN q.off,iN q.er] 102::.row 97 11 (ro) (op.length) (xo)::.row 179 13 (rv) (x.1.length) (xv)::(AR++bs))) (λz=>z=(decide ((tkf l q.i).k=2) || decide ((tkf l q.i).k=4))) ?_ λz hC=>?_
 ·
  refine .rg<|.fA Z jL<|.lD Z oM Hm Z<|.yw (.eql Z Z)<|.mv Z<|.b2 (λh10=>?_) (λh10=>?_)
  ·exact .gG<|.gG<|.gG<|.yw (.pickT Z Z)<|.nt<|.me _ ⟨Z,Jt⟩ ⟨Z,Z,Jt⟩ (λ_ s=>s) (by first | (rw [<-k82,<-k84,h11,Bool.true_or]) | (rw [<-k82,<-k84,h11,aQ]) | (rw [<-k82,<-k84,h10,Bool.true_or]) | (rw [<-k82,<-k84,h10,aQ]))
  exact .gy (.fieldAddr Z jL)<|.gy (.load Z oM Hm Z)<|.gy (.eql Z Z)<|.yw (.pickF Z Z)<|.nt<|.me _ ⟨Z,Jt⟩ ⟨Z,Z,Jt⟩ (λ_ s=>s) (by first | (rw [<-k82,<-k84,h11,Bool.true_or]) | (rw [<-k82,<-k84,h11,aQ]) | (rw [<-k82,<-k84,h10,Bool.true_or]) | (rw [<-k82,<-k84,h10,aQ]))
 have e14:=hC;refine .cd Z (λh14=>?_) (λh14=>?_)
 ·have hk24:(tkf l q.i).k=2\/(tkf l q.i).k=4:=by
   rw [h14] at e14;rcases aT _ _ |>.mp e14.symm with h | h
   ·exact .inl (aJ h)
   ·exact .inr (aJ h)
  refine .sr<|.yw (.loadMW Z aQ4 G.syms Z)<|.mv Z<|.nt<|.bk<|.lp (X:=Nat) [(0,_),(2,_),(15,_)] ⟨Z,Z,Z,Jt⟩ ((AR++bs)) (λk=>[(16,iN k)]) (λk=>H) (λk=>[.box b2 (cTk .u8 (tkf l q.i)) 108,.box b [.slice tp l.length tc,iN q.i,ro,rv,.bool true,.bool dn,.bool x.2,iN q.off,iN q.er] 102,.row 97 11 (ro) (op.length) (xo),.row 179 13 (rv) (x.1.length) (xv)]) (λk=>k<=22/\∀ j,j<k->JJ (tkf l q.i).t j=false) (λk=>22 - k) 0 (λ_ s=>s) ⟨Z,Jt⟩ ⟨by decide,λj h=>by omega⟩ λk hC=>?_
  obtain ⟨hk0,hpk⟩:=hC;refine .sr<|.yw (.lss Z Z)<|.nt<|.sq<|.ce Z (λh17=>?_) (λh17=>?_)
  ·have hk:k<22:=by omega
   refine .sk<|.tN<|.sq<|.bk<|.sm Z<|.yw (.idxA IK aQ0 Z Z Z (by omega) (uV (by show k<22;omega) []))<|.a Z Z<|.a Z Z<|.ns<|.mv Z<|.fA Z kM<|.lD Z cP Hm Z<|.yw (.eqS Z Z)<|.mv Z<|.b2 (λh24=>?_) (λh24=>?_)
   ·have q24:xB.getD k []=(tkf l q.i).t:=aJ h24;refine .gy (.move Z)<|.gy (.neq Z Z)<|.yw (.pickT Z Z)<|.nt<|.cd Z (λh27=>?_) (λh27=>?_)
    ·have hyk:JJ (tkf l q.i).t k=true:=by unfold JJ;rw [aK q24,aK (show ¬ k=0 by have:=aJ h27;omega)];rfl
     have hsy:q.sym l=some k:=by unfold Rq.sym;rw [aO hk24];exact aH0 hk hyk hpk
     have hac:=(aS8 K.gd.last h0 hsy).1;refine .sm Z<|.mv Z<|.yw (.conv Z lT lJ (c:=(((UInt8.ofNat k).toNat:Nat):Int)) (bW8 (by omega)))<|.cs (X:=Hp × Value × Value × List Value × List Value × List Res) aN0 Z (λW s=>aL8 K Wq S (UInt8.ofNat k) (dB K.gd.last hq hac) (St.mid (a:=[_,_,_]) (d:=[_]) (s.pickT (hd:=[_,_,_,_]) (tl:=(AR++bs)) (hd':=[_,_,_,_]) [1,2,3,0] Z Z))) Z λz9 hz9=>?_
     obtain ⟨H1,ro,rv,xo,xv,AR⟩:=z9;obtain ⟨u1,S⟩:=hz9;dsimp only at u1 S|-;refine Sx.reSt (λW s=>St.mid (a:=[_,_,_]) (d:=AR) (c:=[_]) s) ?_;refine .zR<|.tR<|.bR<|.tR<|?_
     refine y7 Z .nil rfl λW s=>?_;have e0:iE l (⟨q,op,x,true,dn⟩:Ps)=uP l (UInt8.ofNat k) (⟨q,op,x,true,dn⟩:Ps):=by unfold iE;rw [hsy]
     rw [e0];exact ⟨(_,_,_,_,_,AR),⟨u1,⟨S.ops,S.vls⟩⟩,Z,s.pickT (hd:=[_,_,_,_]) (tl:=(AR++bs)) (hd':=[_,_,_]) [0,1,2] rfl rfl⟩
    have hnk:JJ (tkf l q.i).t k=false:=by unfold JJ;rw [aM (show ¬ ¬ k=0 by have:=aP h27;omega),Bool.and_false]
    exact .sk<|.bN<|.tN<|.rg<|.yw (.add Z Z w7)<|.mv Z<|.nt<|.ag (k+1) ⟨Z,Jt⟩ ⟨Z,Z,Z,Jt⟩ (λ_ s=>s) ⟨by omega,WL hpk hnk⟩ (by omega)
   have hnk:JJ (tkf l q.i).t k=false:=by unfold JJ;rw [aM (aP h24)];rfl
   exact .gG<|.gG<|.yw (.pickF Z Z)<|.nt<|.cF Z<|.sk<|.bN<|.tN<|.rg<|.yw (.add Z Z w7)<|.mv Z<|.nt<|.ag (k+1) ⟨Z,Jt⟩ ⟨Z,Z,Z,Jt⟩ (λ_ s=>s) ⟨by omega,WL hpk hnk⟩ (by omega)
  obtain rfl:k=22:=by omega
  have hsy:q.sym l=none:=by unfold Rq.sym;rw [aO hk24];exact aH1 hpk
  refine .ex<|.eb<|.bk<|.cu (X:=Bool) [(0,_),(2,_)] ⟨Z,Z,Jt⟩ (λz=>[(35,.bool z)]) (λz=>H) (λz=>(.box b2 (cTk .u8 (tkf l q.i)) 108::.box b [.slice tp l.length tc,iN q.i,ro,rv,.bool true,.bool dn,.bool x.2,iN q.off,iN q.er] 102::.row 97 11 (ro) (op.length) (xo)::.row 179 13 (rv) (x.1.length) (xv)::(AR++bs))) (λz=>z=q.wrd l) ?_ λz hC=>?_
  ·
   refine .sm Z<|.cs (X:=Unit) jW Z (λW s=>EK K hq [115,105,110,99,101] (s.pickT (hd:=[_,_,_,_]) (tl:=(AR++bs)) (hd':=[_,_,_,_]) [1,0,2,3] Z Z)) Z λ_ _=>.aq Z<|.cd Z (λh35=>?_) (λh35=>?_)
   ·have i1:=h35;exact .sk<|.tN<|.me _ ⟨Z,Jt⟩ ⟨Z,Z,Jt⟩ (λ_ s=>(s.pickT (hd:=[_,_,_,_]) (tl:=(AR++bs)) (hd':=[_,_,_,_]) [1,0,2,3] Z Z)) (by unfold Rq.wrd;first | simp only [i1,i2,i3,aQ,Bool.true_or,Bool.or_true,Bool.or_false] | simp only [i1,i2,aQ,Bool.true_or,Bool.or_true] | simp only [i1,aQ,Bool.true_or,Bool.or_true])
   have i1:=h35;refine .sm Z<|.cs (X:=Unit) jW Z (λW s=>EK K hq [97,110,100] (s.pickT (hd:=[_,_,_,_]) (tl:=(AR++bs)) (hd':=[_,_,_,_]) [0,1,2,3] Z Z)) Z λ_ _=>.aq Z<|.cd Z (λh35=>?_) (λh35=>?_)
   ·have i2:=h35;exact .sk<|.tN<|.me _ ⟨Z,Jt⟩ ⟨Z,Z,Jt⟩ (λ_ s=>(s.pickT (hd:=[_,_,_,_]) (tl:=(AR++bs)) (hd':=[_,_,_,_]) [1,0,2,3] Z Z)) (by unfold Rq.wrd;first | simp only [i1,i2,i3,aQ,Bool.true_or,Bool.or_true,Bool.or_false] | simp only [i1,i2,aQ,Bool.true_or,Bool.or_true] | simp only [i1,aQ,Bool.true_or,Bool.or_true])
   have i2:=h35;refine .sm Z<|.cs (X:=Unit) jW Z (λW s=>EK K hq [111,114] (s.pickT (hd:=[_,_,_,_]) (tl:=(AR++bs)) (hd':=[_,_,_,_]) [0,1,2,3] Z Z)) Z λ_ _=>.aq Z<|.cd Z (λh35=>?_) (λh35=>?_)
   ·have i3:=h35;exact .sk<|.tN<|.me _ ⟨Z,Jt⟩ ⟨Z,Z,Jt⟩ (λ_ s=>(s.pickT (hd:=[_,_,_,_]) (tl:=(AR++bs)) (hd':=[_,_,_,_]) [1,0,2,3] Z Z)) (by unfold Rq.wrd;first | simp only [i1,i2,i3,aQ,Bool.true_or,Bool.or_true,Bool.or_false] | simp only [i1,i2,aQ,Bool.true_or,Bool.or_true] | simp only [i1,aQ,Bool.true_or,Bool.or_true])
   have i3:=h35;exact .rg<|.mv Z<|.cs (X:=Unit) jW Z (λW s=>EK K hq [105,109,112,108,105,101,115] (s.pickT (hd:=[_,_,_,_]) (tl:=(AR++bs)) (hd':=[_,_,_,_]) [0,1,2,3] Z Z)) Z λ_ _=>.aq Z<|.me _ ⟨Z,Jt⟩ ⟨Z,Z,Jt⟩ (λ_ s=>(s.pickT (hd:=[_,_,_,_]) (tl:=(AR++bs)) (hd':=[_,_,_,_]) [1,0,2,3] Z Z)) (by unfold Rq.wrd;first | simp only [i1,i2,i3,aQ,Bool.true_or,Bool.or_true,Bool.or_false] | simp only [i1,i2,aQ,Bool.true_or,Bool.or_true] | simp only [i1,aQ,Bool.true_or,Bool.or_true])
  have ew:=hC;refine .cd Z (λh35=>?_) (λh35=>?_)
  ·have w35:=h35;refine .rg<|.mv Z<|.cs (X:=Hp × Value × Value × List Value × List Value × List Res) NF Z (λW s=>aX8 K Wq S G h0 (by rw [<-ew];exact w35) (St.mid (a:=[_,_,_]) (d:=[_]) (s.pickT (hd:=[_,_,_,_]) (tl:=(AR++bs)) (hd':=[_,_,_,_]) [1,2,3,0] Z Z))) Z λz9 hz9=>?_
   obtain ⟨H1,ro,rv,xo,xv,AR⟩:=z9;obtain ⟨u1,S⟩:=hz9;dsimp only at u1 S|-;refine Sx.reSt (λW s=>St.mid (a:=[_,_,_]) (d:=AR) (c:=[_]) s) ?_;refine .nl<|.bN<|?_
   refine jE (.inr Z) rfl .nil rfl λW s=>?_;have e0:iE l (⟨q,op,x,true,dn⟩:Ps)=uK l (⟨q,op,x,true,dn⟩:Ps):=by unfold iE;rw [show q.sym l=none from hsy]
   rw [e0];have e1:uK l (⟨q,op,x,true,dn⟩:Ps)=yG l (⟨q,op,x,true,dn⟩:Ps):=by unfold uK;exact aO (by rw [<-ew];exact w35)
   rw [e1];exact ⟨(_,_,_,_,_,AR),⟨u1,⟨S.ops,S.vls⟩⟩,Z,s.pickT (hd:=[_,_,_,_]) (tl:=(AR++bs)) (hd':=[_,_,_]) [0,1,2] rfl rfl⟩
  have w35:=h35;refine .cu (X:=Bool) [(0,_)] ⟨Z,Jt⟩ (λz=>[(46,.bool z)]) (λz=>H) (λz=>(.box b2 (cTk .u8 (tkf l q.i)) 108::.box b [.slice tp l.length tc,iN q.i,ro,rv,.bool true,.bool dn,.bool x.2,iN q.off,iN q.er] 102::.row 97 11 (ro) (op.length) (xo)::.row 179 13 (rv) (x.1.length) (xv)::(AR++bs))) (λz=>z=q.endB l) ?_ λz hC=>?_
  ·
   refine .sm Z<|.cs (X:=Unit) jW Z (λW s=>EK K hq [41] (s.pickT (hd:=[_,_,_,_]) (tl:=(AR++bs)) (hd':=[_,_,_,_]) [1,0,2,3] Z Z)) Z λ_ _=>.aq Z<|.cd Z (λh46=>?_) (λh46=>?_)
   ·have j1:=h46;exact .sk<|.tN<|.me _ ⟨Z,Jt⟩ ⟨Z,Jt⟩ (λ_ s=>(s.pickT (hd:=[_,_,_,_]) (tl:=(AR++bs)) (hd':=[_,_,_,_]) [1,0,2,3] Z Z)) (by unfold Rq.endB;rw [<-k80];first | simp only [j1,j2,j3,aQ,Bool.true_or,Bool.or_true,Bool.or_false] | simp only [j1,j2,aQ,Bool.true_or,Bool.or_true] | simp only [j1,aQ,Bool.true_or,Bool.or_true])
   have j1:=h46;refine .sm Z<|.cs (X:=Unit) jW Z (λW s=>EK K hq [93] (s.pickT (hd:=[_,_,_,_]) (tl:=(AR++bs)) (hd':=[_,_,_,_]) [0,1,2,3] Z Z)) Z λ_ _=>.aq Z<|.cd Z (λh46=>?_) (λh46=>?_)
   ·have j2:=h46;exact .sk<|.tN<|.me _ ⟨Z,Jt⟩ ⟨Z,Jt⟩ (λ_ s=>(s.pickT (hd:=[_,_,_,_]) (tl:=(AR++bs)) (hd':=[_,_,_,_]) [1,0,2,3] Z Z)) (by unfold Rq.endB;rw [<-k80];first | simp only [j1,j2,j3,aQ,Bool.true_or,Bool.or_true,Bool.or_false] | simp only [j1,j2,aQ,Bool.true_or,Bool.or_true] | simp only [j1,aQ,Bool.true_or,Bool.or_true])
   have j2:=h46;refine .sm Z<|.cs (X:=Unit) jW Z (λW s=>EK K hq [44] (s.pickT (hd:=[_,_,_,_]) (tl:=(AR++bs)) (hd':=[_,_,_,_]) [0,1,2,3] Z Z)) Z λ_ _=>.aq Z<|.cd Z (λh46=>?_) (λh46=>?_)
   ·have j3:=h46;exact .sk<|.tN<|.me _ ⟨Z,Jt⟩ ⟨Z,Jt⟩ (λ_ s=>(s.pickT (hd:=[_,_,_,_]) (tl:=(AR++bs)) (hd':=[_,_,_,_]) [1,0,2,3] Z Z)) (by unfold Rq.endB;rw [<-k80];first | simp only [j1,j2,j3,aQ,Bool.true_or,Bool.or_true,Bool.or_false] | simp only [j1,j2,aQ,Bool.true_or,Bool.or_true] | simp only [j1,aQ,Bool.true_or,Bool.or_true])
   have j3:=h46;exact .rg<|.fA Z jL<|.lD Z oM dC Z<|.yw (.eql Z Z)<|.aq Z<|.me _ ⟨Z,Jt⟩ ⟨Z,Jt⟩ (λ_ s=>(s.pickT (hd:=[_,_,_,_]) (tl:=(AR++bs)) (hd':=[_,_,_,_]) [1,0,2,3] Z Z)) (by unfold Rq.endB;rw [<-k80];first | simp only [j1,j2,j3,aQ,Bool.true_or,Bool.or_true,Bool.or_false] | simp only [j1,j2,aQ,Bool.true_or,Bool.or_true] | simp only [j1,aQ,Bool.true_or,Bool.or_true])
  have ee:=hC;refine .cd Z (λh46=>?_) (λh46=>?_)
  ·have w46:=h46;refine .sm Z<|.cs (X:=Hp × Value × Value × List Value × List Value × List Res) pD Z (λW s=>tM K Wq S 1 (by omega) (St.mid (a:=[_,_,_]) (d:=[_]) (s.pickT (hd:=[_,_,_,_]) (tl:=(AR++bs)) (hd':=[_,_,_,_]) [1,2,3,0] Z Z))) Z λz9 hz9=>?_
   obtain ⟨H1,ro,rv,xo,xv,AR⟩:=z9;obtain ⟨u1,S⟩:=hz9;dsimp only at u1 S|-;refine Sx.reSt (λW s=>St.mid (a:=[_,_,_]) (d:=AR) (c:=[_]) s) ?_;obtain ⟨op7,x7,e7⟩:∃ op7 x7,qG 1 ((⟨q,op,x,true,dn⟩:Ps):Ps)=⟨q,op7,x7,true,dn⟩:=⟨_,_,Z⟩;rw [e7] at S|-;dsimp only at S|-;have W7:Fwf l ⟨q,op7,x7,true,dn⟩:=by rw [<-e7];exact uI (by omega) Wq rfl
   obtain ⟨hm1,hm2⟩:=oU W7 K.few;dsimp only at hm1 hm2;have hne7:op7≠[]:=W7.ne;have FE1:Fex (⟨q,op7,x7,true,dn⟩:Ps):=by rw [<-e7];exact AC FE
   refine .nt<|.rg<|.mv Z<|.cs (X:=Hp × Value × Value × List Value × List Value × List Res) NE Z (λW s=>PT (K.up u1.up) W7 S (λz hz=>bH (FE1 z hz) (bH (pO hq) K.few)) (St.mid (a:=[_,_,_]) (d:=[_]) (s.pickT (hd:=[_,_,_,_]) (tl:=(AR++bs)) (hd':=[_,_,_,_]) [0,1,2,3] Z Z))) Z λz9 hz9=>?_
   obtain ⟨H2,ro,rv,xo,xv,AR⟩:=z9;obtain ⟨u2,S⟩:=hz9;dsimp only at u2 S|-;refine Sx.reSt (λW s=>St.mid (a:=[_,_,_]) (d:=AR) (c:=[_]) s) ?_;refine .nl<|.bN<|?_
   refine jE (.inr Z) rfl .nil rfl λW s=>?_;have e0:iE l (⟨q,op,x,true,dn⟩:Ps)=uK l (⟨q,op,x,true,dn⟩:Ps):=by unfold iE;rw [show q.sym l=none from hsy]
   rw [e0];have e1:uK l (⟨q,op,x,true,dn⟩:Ps)=oR l (⟨q,op7,x7,true,dn⟩:Ps):=by unfold uK;rw [aG (show ¬ q.wrd l=true by rw [<-ew,w35];decide),aO (show q.endB l=true by rw [<-ee];exact w46),e7]
   rw [e1];exact ⟨(_,_,_,_,_,AR),⟨(u1.trans u2),⟨S.ops,S.vls⟩⟩,Z,s.pickT (hd:=[_,_,_,_]) (tl:=(AR++bs)) (hd':=[_,_,_]) [0,1,2] rfl rfl⟩
  have w46:=h46;refine .rg<|.mv Z<|.cs (X:=Unit) iS Z (λW s=>qN K hq 8 (s.pickT (hd:=[_,_,_,_]) (tl:=(AR++bs)) (hd':=[_,_,_,_]) [1,0,2,3] Z Z)) Z λ_ _=>.nl<|.bN<|?_
  refine jE (.inr Z) rfl .nil rfl λW s=>?_;have e0:iE l (⟨q,op,x,true,dn⟩:Ps)=uK l (⟨q,op,x,true,dn⟩:Ps):=by unfold iE;rw [show q.sym l=none from hsy]
  rw [e0];have e1:uK l (⟨q,op,x,true,dn⟩:Ps)=(⟨q,op,x,true,dn⟩:Ps).at (q.fail l 8):=by unfold uK;rw [aG (show ¬ q.wrd l=true by rw [<-ew,w35];decide),aG (show ¬ q.endB l=true by rw [<-ee,w46];decide)]
  rw [e1];exact ⟨(_,_,_,_,_,AR),⟨.refl,⟨S.ops,S.vls⟩⟩,Z,s.pickT (hd:=[_,_,_,_]) (tl:=(AR++bs)) (hd':=[_,_,_]) [0,2,3] rfl rfl⟩
 have hk24:¬ ((tkf l q.i).k=2\/(tkf l q.i).k=4):=λh=>by
  rw [h14] at e14;rcases h with h | h <;> rw [h] at e14 <;> simp at e14
 have hsy:q.sym l=none:=by unfold Rq.sym;rw [aG hk24]
 refine .sk<|.tN<|.bk<|.cu (X:=Bool) [(0,_),(2,_)] ⟨Z,Z,Jt⟩ (λz=>[(35,.bool z)]) (λz=>H) (λz=>(.box b2 (cTk .u8 (tkf l q.i)) 108::.box b [.slice tp l.length tc,iN q.i,ro,rv,.bool true,.bool dn,.bool x.2,iN q.off,iN q.er] 102::.row 97 11 (ro) (op.length) (xo)::.row 179 13 (rv) (x.1.length) (xv)::(AR++bs))) (λz=>z=q.wrd l) ?_ λz hC=>?_
 ·
  refine .sm Z<|.cs (X:=Unit) jW Z (λW s=>EK K hq [115,105,110,99,101] (s.pickT (hd:=[_,_,_,_]) (tl:=(AR++bs)) (hd':=[_,_,_,_]) [1,0,2,3] Z Z)) Z λ_ _=>.aq Z<|.cd Z (λh35=>?_) (λh35=>?_)
  ·have i1:=h35;exact .sk<|.tN<|.me _ ⟨Z,Jt⟩ ⟨Z,Z,Jt⟩ (λ_ s=>(s.pickT (hd:=[_,_,_,_]) (tl:=(AR++bs)) (hd':=[_,_,_,_]) [1,0,2,3] Z Z)) (by unfold Rq.wrd;first | simp only [i1,i2,i3,aQ,Bool.true_or,Bool.or_true,Bool.or_false] | simp only [i1,i2,aQ,Bool.true_or,Bool.or_true] | simp only [i1,aQ,Bool.true_or,Bool.or_true])
  have i1:=h35;refine .sm Z<|.cs (X:=Unit) jW Z (λW s=>EK K hq [97,110,100] (s.pickT (hd:=[_,_,_,_]) (tl:=(AR++bs)) (hd':=[_,_,_,_]) [0,1,2,3] Z Z)) Z λ_ _=>.aq Z<|.cd Z (λh35=>?_) (λh35=>?_)
  ·have i2:=h35;exact .sk<|.tN<|.me _ ⟨Z,Jt⟩ ⟨Z,Z,Jt⟩ (λ_ s=>(s.pickT (hd:=[_,_,_,_]) (tl:=(AR++bs)) (hd':=[_,_,_,_]) [1,0,2,3] Z Z)) (by unfold Rq.wrd;first | simp only [i1,i2,i3,aQ,Bool.true_or,Bool.or_true,Bool.or_false] | simp only [i1,i2,aQ,Bool.true_or,Bool.or_true] | simp only [i1,aQ,Bool.true_or,Bool.or_true])
  have i2:=h35;refine .sm Z<|.cs (X:=Unit) jW Z (λW s=>EK K hq [111,114] (s.pickT (hd:=[_,_,_,_]) (tl:=(AR++bs)) (hd':=[_,_,_,_]) [0,1,2,3] Z Z)) Z λ_ _=>.aq Z<|.cd Z (λh35=>?_) (λh35=>?_)
  ·have i3:=h35;exact .sk<|.tN<|.me _ ⟨Z,Jt⟩ ⟨Z,Z,Jt⟩ (λ_ s=>(s.pickT (hd:=[_,_,_,_]) (tl:=(AR++bs)) (hd':=[_,_,_,_]) [1,0,2,3] Z Z)) (by unfold Rq.wrd;first | simp only [i1,i2,i3,aQ,Bool.true_or,Bool.or_true,Bool.or_false] | simp only [i1,i2,aQ,Bool.true_or,Bool.or_true] | simp only [i1,aQ,Bool.true_or,Bool.or_true])
  have i3:=h35;exact .rg<|.mv Z<|.cs (X:=Unit) jW Z (λW s=>EK K hq [105,109,112,108,105,101,115] (s.pickT (hd:=[_,_,_,_]) (tl:=(AR++bs)) (hd':=[_,_,_,_]) [0,1,2,3] Z Z)) Z λ_ _=>.aq Z<|.me _ ⟨Z,Jt⟩ ⟨Z,Z,Jt⟩ (λ_ s=>(s.pickT (hd:=[_,_,_,_]) (tl:=(AR++bs)) (hd':=[_,_,_,_]) [1,0,2,3] Z Z)) (by unfold Rq.wrd;first | simp only [i1,i2,i3,aQ,Bool.true_or,Bool.or_true,Bool.or_false] | simp only [i1,i2,aQ,Bool.true_or,Bool.or_true] | simp only [i1,aQ,Bool.true_or,Bool.or_true])
 have ew:=hC;refine .cd Z (λh35=>?_) (λh35=>?_)
 ·have w35:=h35;refine .rg<|.mv Z<|.cs (X:=Hp × Value × Value × List Value × List Value × List Res) NF Z (λW s=>aX8 K Wq S G h0 (by rw [<-ew];exact w35) (St.mid (a:=[_,_,_]) (d:=[_]) (s.pickT (hd:=[_,_,_,_]) (tl:=(AR++bs)) (hd':=[_,_,_,_]) [1,2,3,0] Z Z))) Z λz9 hz9=>?_
  obtain ⟨H1,ro,rv,xo,xv,AR⟩:=z9;obtain ⟨u1,S⟩:=hz9;dsimp only at u1 S|-;refine Sx.reSt (λW s=>St.mid (a:=[_,_,_]) (d:=AR) (c:=[_]) s) ?_;refine .nl<|.bN<|?_
  refine jE (.inr Z) rfl .nil rfl λW s=>?_;have e0:iE l (⟨q,op,x,true,dn⟩:Ps)=uK l (⟨q,op,x,true,dn⟩:Ps):=by unfold iE;rw [show q.sym l=none from hsy]
  rw [e0];have e1:uK l (⟨q,op,x,true,dn⟩:Ps)=yG l (⟨q,op,x,true,dn⟩:Ps):=by unfold uK;exact aO (by rw [<-ew];exact w35)
  rw [e1];exact ⟨(_,_,_,_,_,AR),⟨u1,⟨S.ops,S.vls⟩⟩,Z,s.pickT (hd:=[_,_,_,_]) (tl:=(AR++bs)) (hd':=[_,_,_]) [0,1,2] rfl rfl⟩
 have w35:=h35;refine .cu (X:=Bool) [(0,_)] ⟨Z,Jt⟩ (λz=>[(46,.bool z)]) (λz=>H) (λz=>(.box b2 (cTk .u8 (tkf l q.i)) 108::.box b [.slice tp l.length tc,iN q.i,ro,rv,.bool true,.bool dn,.bool x.2,iN q.off,iN q.er] 102::.row 97 11 (ro) (op.length) (xo)::.row 179 13 (rv) (x.1.length) (xv)::(AR++bs))) (λz=>z=q.endB l) ?_ λz hC=>?_
 ·
  refine .sm Z<|.cs (X:=Unit) jW Z (λW s=>EK K hq [41] (s.pickT (hd:=[_,_,_,_]) (tl:=(AR++bs)) (hd':=[_,_,_,_]) [1,0,2,3] Z Z)) Z λ_ _=>.aq Z<|.cd Z (λh46=>?_) (λh46=>?_)
  ·have j1:=h46;exact .sk<|.tN<|.me _ ⟨Z,Jt⟩ ⟨Z,Jt⟩ (λ_ s=>(s.pickT (hd:=[_,_,_,_]) (tl:=(AR++bs)) (hd':=[_,_,_,_]) [1,0,2,3] Z Z)) (by unfold Rq.endB;rw [<-k80];first | simp only [j1,j2,j3,aQ,Bool.true_or,Bool.or_true,Bool.or_false] | simp only [j1,j2,aQ,Bool.true_or,Bool.or_true] | simp only [j1,aQ,Bool.true_or,Bool.or_true])
  have j1:=h46;refine .sm Z<|.cs (X:=Unit) jW Z (λW s=>EK K hq [93] (s.pickT (hd:=[_,_,_,_]) (tl:=(AR++bs)) (hd':=[_,_,_,_]) [0,1,2,3] Z Z)) Z λ_ _=>.aq Z<|.cd Z (λh46=>?_) (λh46=>?_)
  ·have j2:=h46;exact .sk<|.tN<|.me _ ⟨Z,Jt⟩ ⟨Z,Jt⟩ (λ_ s=>(s.pickT (hd:=[_,_,_,_]) (tl:=(AR++bs)) (hd':=[_,_,_,_]) [1,0,2,3] Z Z)) (by unfold Rq.endB;rw [<-k80];first | simp only [j1,j2,j3,aQ,Bool.true_or,Bool.or_true,Bool.or_false] | simp only [j1,j2,aQ,Bool.true_or,Bool.or_true] | simp only [j1,aQ,Bool.true_or,Bool.or_true])
  have j2:=h46;refine .sm Z<|.cs (X:=Unit) jW Z (λW s=>EK K hq [44] (s.pickT (hd:=[_,_,_,_]) (tl:=(AR++bs)) (hd':=[_,_,_,_]) [0,1,2,3] Z Z)) Z λ_ _=>.aq Z<|.cd Z (λh46=>?_) (λh46=>?_)
  ·have j3:=h46;exact .sk<|.tN<|.me _ ⟨Z,Jt⟩ ⟨Z,Jt⟩ (λ_ s=>(s.pickT (hd:=[_,_,_,_]) (tl:=(AR++bs)) (hd':=[_,_,_,_]) [1,0,2,3] Z Z)) (by unfold Rq.endB;rw [<-k80];first | simp only [j1,j2,j3,aQ,Bool.true_or,Bool.or_true,Bool.or_false] | simp only [j1,j2,aQ,Bool.true_or,Bool.or_true] | simp only [j1,aQ,Bool.true_or,Bool.or_true])
  have j3:=h46;exact .rg<|.fA Z jL<|.lD Z oM dC Z<|.yw (.eql Z Z)<|.aq Z<|.me _ ⟨Z,Jt⟩ ⟨Z,Jt⟩ (λ_ s=>(s.pickT (hd:=[_,_,_,_]) (tl:=(AR++bs)) (hd':=[_,_,_,_]) [1,0,2,3] Z Z)) (by unfold Rq.endB;rw [<-k80];first | simp only [j1,j2,j3,aQ,Bool.true_or,Bool.or_true,Bool.or_false] | simp only [j1,j2,aQ,Bool.true_or,Bool.or_true] | simp only [j1,aQ,Bool.true_or,Bool.or_true])
 have ee:=hC;refine .cd Z (λh46=>?_) (λh46=>?_)
 ·have w46:=h46;refine .sm Z<|.cs (X:=Hp × Value × Value × List Value × List Value × List Res) pD Z (λW s=>tM K Wq S 1 (by omega) (St.mid (a:=[_,_,_]) (d:=[_]) (s.pickT (hd:=[_,_,_,_]) (tl:=(AR++bs)) (hd':=[_,_,_,_]) [1,2,3,0] Z Z))) Z λz9 hz9=>?_
  obtain ⟨H1,ro,rv,xo,xv,AR⟩:=z9;obtain ⟨u1,S⟩:=hz9;dsimp only at u1 S|-;refine Sx.reSt (λW s=>St.mid (a:=[_,_,_]) (d:=AR) (c:=[_]) s) ?_;obtain ⟨op7,x7,e7⟩:∃ op7 x7,qG 1 ((⟨q,op,x,true,dn⟩:Ps):Ps)=⟨q,op7,x7,true,dn⟩:=⟨_,_,Z⟩;rw [e7] at S|-;dsimp only at S|-;have W7:Fwf l ⟨q,op7,x7,true,dn⟩:=by rw [<-e7];exact uI (by omega) Wq rfl
  obtain ⟨hm1,hm2⟩:=oU W7 K.few;dsimp only at hm1 hm2;have hne7:op7≠[]:=W7.ne;have FE1:Fex (⟨q,op7,x7,true,dn⟩:Ps):=by rw [<-e7];exact AC FE
  refine .nt<|.rg<|.mv Z<|.cs (X:=Hp × Value × Value × List Value × List Value × List Res) NE Z (λW s=>PT (K.up u1.up) W7 S (λz hz=>bH (FE1 z hz) (bH (pO hq) K.few)) (St.mid (a:=[_,_,_]) (d:=[_]) (s.pickT (hd:=[_,_,_,_]) (tl:=(AR++bs)) (hd':=[_,_,_,_]) [0,1,2,3] Z Z))) Z λz9 hz9=>?_
  obtain ⟨H2,ro,rv,xo,xv,AR⟩:=z9;obtain ⟨u2,S⟩:=hz9;dsimp only at u2 S|-;refine Sx.reSt (λW s=>St.mid (a:=[_,_,_]) (d:=AR) (c:=[_]) s) ?_;refine .nl<|.bN<|?_
  refine jE (.inr Z) rfl .nil rfl λW s=>?_;have e0:iE l (⟨q,op,x,true,dn⟩:Ps)=uK l (⟨q,op,x,true,dn⟩:Ps):=by unfold iE;rw [show q.sym l=none from hsy]
  rw [e0];have e1:uK l (⟨q,op,x,true,dn⟩:Ps)=oR l (⟨q,op7,x7,true,dn⟩:Ps):=by unfold uK;rw [aG (show ¬ q.wrd l=true by rw [<-ew,w35];decide),aO (show q.endB l=true by rw [<-ee];exact w46),e7]
  rw [e1];exact ⟨(_,_,_,_,_,AR),⟨(u1.trans u2),⟨S.ops,S.vls⟩⟩,Z,s.pickT (hd:=[_,_,_,_]) (tl:=(AR++bs)) (hd':=[_,_,_]) [0,1,2] rfl rfl⟩
 have w46:=h46;refine .rg<|.mv Z<|.cs (X:=Unit) iS Z (λW s=>qN K hq 8 (s.pickT (hd:=[_,_,_,_]) (tl:=(AR++bs)) (hd':=[_,_,_,_]) [1,0,2,3] Z Z)) Z λ_ _=>.nl<|.bN<|?_
 refine jE (.inr Z) rfl .nil rfl λW s=>?_;have e0:iE l (⟨q,op,x,true,dn⟩:Ps)=uK l (⟨q,op,x,true,dn⟩:Ps):=by unfold iE;rw [show q.sym l=none from hsy]
 rw [e0];have e1:uK l (⟨q,op,x,true,dn⟩:Ps)=(⟨q,op,x,true,dn⟩:Ps).at (q.fail l 8):=by unfold uK;rw [aG (show ¬ q.wrd l=true by rw [<-ew,w35];decide),aG (show ¬ q.endB l=true by rw [<-ee,w46];decide)]
 rw [e1];exact ⟨(_,_,_,_,_,AR),⟨.refl,⟨S.ops,S.vls⟩⟩,Z,s.pickT (hd:=[_,_,_,_]) (tl:=(AR++bs)) (hd':=[_,_,_]) [0,2,3] rfl rfl⟩
theorem PD (q:UInt8->Bool) (c:UInt8) (r:Str):pre q (c::r)=if q c then pre q r+1 else 0:=by
 unfold pre;rw [eA]
 split <;> simp
theorem PC (q:UInt8->Bool):∀ (m:Str),pre q (m.take (pre q m))=pre q m
 | []=>rfl
 | c::r=>by
  rw [PD];cases h:q c with
  | false=>rw [aG (by decide)];rfl
  | true=>rw [aO rfl,List.take_succ_cons,PD,h,aO rfl,PC q r]
theorem XT (h:m≠[]) (hk:(bU m).1=3):pre iA (m.take (bU m).2)=(m.take (bU m).2).length:=by
 have key:(bU m).2=pre iA m:=by
  match m,h with
  | c::r,_ =>
   cases h1:mW c with
   | true =>
    exfalso
    revert hk
    cases h4:words.contains ((c::r).take (pre iC (c::r))) with
    | true=>simp only [bU,aN,h1,h4,aY];decide
    | false =>
     by_cases h5:pre iC (c::r)<=12
     ·simp only [bU,aN,h1,h4,h5,aY,aE,aW];decide
     ·simp only [bU,aN,h1,h4,h5,aY,aE,aW];decide
   | false =>
    cases h4:iA c with
    | true =>
     by_cases h5:pre iA (c::r)=1\/c≠48
     ·simp only [bU,aN,h1,h4,h5,aY,aE,aW]
     ·exfalso;revert hk;simp only [bU,aN,h1,h4,h5,aY,aE,aW];decide
    | false =>
     exfalso
     revert hk
     cases hx:symbols.find? (λx=>x.isPrefixOf (c::r)) <;> simp only [bU,aN,h1,h4,hx,aE,aW] <;> decide
 rw [key,PC,dT,xM (tQ iA m)]
theorem OJ:∀ (f o:Nat) (m:Str),∀ t∈BJ f o m,t.k=3->pre iA t.t=t.t.length
 | 0,_,_,t,h=>by cases h
 | f+1,o,m,t,h=>by
  by_cases h0:m=[]
  ·rw [h0,qH] at h;cases h
  ·rw [nX h0] at h;rcases bV.1 h with rfl | h
   ·exact λhk=>XT h0 hk
   ·exact OJ f _ _ t h
theorem aJ4 (s:Str):∀ t∈qL s,t.k=3->pre iA t.t=t.t.length:=OJ _ _ _
theorem IQ:∀ (f o:Nat) (m:Str),∀ t∈BJ f o m,t.t.length<=m.length
 | 0,_,_,t,h=>by cases h
 | f+1,o,m,t,h=>by
  by_cases h0:m=[]
  ·rw [h0,qH] at h;cases h
  ·rw [nX h0] at h;rcases bV.1 h with rfl | h
   ·show (m.take _).length<=_;rw [dT];omega
   ·have h1:=IQ f _ _ t h;have h2:=nY false (m.drop (bU m).2);rw [cM] at h2;omega
theorem JC (s:Str):∀ t∈qL s,t.t.length<=s.length:=λt h=>bH (IQ _ _ _ t h) (nY false s)

theorem aH7 (h:m≠[]) (hk:(bU m).1=1):(m.take (bU m).2).all iC=true:=by
 have key:(bU m).2=pre iC m:=by
  match m,h with
  | c::r,_ =>
   cases h1:mW c with
   | true =>
    revert hk
    cases h4:words.contains ((c::r).take (pre iC (c::r))) with
    | true=>simp only [bU,aN,h1,h4,aY];decide
    | false =>
     by_cases h5:pre iC (c::r)<=12
     ·simp only [bU,aN,h1,h4,h5,aY,aE,aW];exact λ_=>trivial
     ·simp only [bU,aN,h1,h4,h5,aY,aE,aW];intro h;exact absurd h (by decide)
   | false =>
    exfalso
    revert hk
    cases h4:iA c with
    | true =>
     by_cases h5:pre iA (c::r)=1\/c≠48
     ·simp only [bU,aN,h1,h4,h5,aY,aE,aW];decide
     ·simp only [bU,aN,h1,h4,h5,aY,aE,aW];decide
    | false =>
     cases hx:symbols.find? (λx=>x.isPrefixOf (c::r)) <;> simp only [bU,aN,h1,h4,hx,aE,aW] <;> decide
 rw [key];unfold pre
 have:m.take (m.takeWhile iC).length=m.takeWhile iC:=by
  have:=List.takeWhile_append_dropWhile (p:=iC) (l:=m)
  conv=>lhs;rw [<-this]
  rw [List.take_left' (by rw [this])]
 rw [this];exact List.all_takeWhile
theorem TU:∀ (f o:Nat) (m:Str),∀ t∈BJ f o m,t.k=1->t.t.all iC=true
 | 0,_,_,t,h=>by cases h
 | f+1,o,m,t,h=>by
  by_cases h0:m=[]
  ·rw [h0,qH] at h;cases h
  ·rw [nX h0] at h;rcases bV.1 h with rfl | h
   ·exact λhk=>aH7 h0 hk
   ·exact TU f _ _ t h
theorem aX1 (s:Str):∀ t∈qL s,t.k=1->t.t.all iC=true:=TU _ _ _
def bV1 (s:Str):Tk:=⟨0,[],s.length⟩
def tD (s:Str):Tks:=qL s++[bV1 s]
theorem yN (s:Str):(tD s).length=(qL s).length+1:=by unfold tD;rw [aH];rfl
theorem OL (s:Str) (i:Nat):tkf (tD s) i∈qL s\/(tkf (tD s) i).k=0:=by
 unfold tkf tD;rw [List.getD_eq_getElem?_getD]
 by_cases h:i<(qL s).length
 ·rw [List.getElem?_append_left h,List.getElem?_eq_getElem h];exact .inl (bI h)
 ·rw [List.getElem?_append_right (by omega)];cases e:i - (qL s).length with
  | zero=>exact .inr rfl
  | succ n=>exact .inr rfl
theorem bQ0 (s:Str):Tgd (tD s):=by
 refine ⟨λi hi hk=>?_,λi hk=>?_,λi hk=>?_⟩
 ·rw [yN] at hi|-;refine Classical.byContradiction λhn=>hk ?_;have e:i=(qL s).length:=by omega
  unfold tkf tD;rw [List.getD_eq_getElem?_getD,List.getElem?_append_right (by omega),e,mR];rfl
 ·rcases OL s i with h | h
  ·exact (PH s _ h).2.2
  ·rw [h] at hk;exact absurd hk (by decide)
 ·rcases OL s i with h | h
  ·exact YB (aX1 s _ h hk)
  ·rw [h] at hk;exact absurd hk (by decide)
/-! ### Lists that are not long -/
section
variable {N:Nat} {l:Tks} {q:Ps} {c:Rq} {o:Ov} {v:Vl} {x:Vb} {f:Fm}
def VbN (N:Nat) (x:Vb):Prop:=∀ v∈x.1,blE N v.e=true/\blF N v.f=true
structure Fbd (N:Nat) (q:Ps):Prop where
 x:VbN N q.x
 op:∀ o∈q.op,blF N o.f=true
theorem BB:blE N zE=true:=SZ.2 ⟨aR _,λa h=>(by cases h)⟩
theorem kD {op:UInt8} {nm fd:Str} {a b:Int64}:blF N (.mk op nm fd a b [] [])=true:=AG.2 ⟨⟨aR _,aR _,λa h=>(by cases h)⟩,λa h=>(by cases h)⟩
theorem CC {op:UInt8} {nm:Str} {z:Int64} {es:List Ex} (h:es.length<=N) (k:∀ e∈es,blE N e=true):blE N (.mk op nm z es)=true:=SZ.2 ⟨h,k⟩
theorem SY {gs:List Fm} (h:blF N f=true) (hl:gs.length<=N) (hg:∀ g∈gs,blF N g=true):blF N (f.wAr gs)=true:=by
 obtain ⟨op,nm,fd,a,b,ex,args⟩:=f;have:=AG.1 h;exact AG.2 ⟨⟨this.1.1,hl,this.1.2.2⟩,hg⟩
theorem KL {es:List Ex} (h:blF N f=true) (hl:es.length<=N) (hg:∀ g∈es,blE N g=true):blF N (f.wEx es)=true:=by
 obtain ⟨op,nm,fd,a,b,ex,args⟩:=f;have:=AG.1 h;exact AG.2 ⟨⟨hl,this.1.2.1,hg⟩,this.2⟩
theorem bV6 (h:blF N f=true):∀ e∈f.ex,blE N e=true:=by
 obtain ⟨op,nm,fd,a,b,ex,args⟩:=f;exact (AG.1 h).1.2.2
theorem JP (h:VbN N x):blE N (vG x).e=true/\blF N (vG x).f=true:=by
 unfold vG;cases e:x.1 with
 | nil=>exact ⟨BB,kD⟩
 | cons v r=>exact h v (by rw [e];exact bD ..)
theorem XB {b:Bool} (h:VbN N x):VbN N (x.1.tail,b):=λv hv=>h v (List.mem_of_mem_tail hv)
theorem wR (h:VbN N x):VbN N (tS x):=XB h
theorem KT (h:VbN N x):VbN N (fS x):=XB h
theorem ED (h:VbN N x):blE N (tE x)=true:=(JP h).1
theorem HA (h:VbN N x):blF N (fF x)=true:=by
 unfold fF Vl.fm
 split
 ·exact kD
 ·exact (JP h).2
theorem zM (h:VbN N x) (he:blE N v.e=true) (hf:blF N v.f=true):VbN N (x.put v):=λu hu=>by
 rcases bV.1 hu with rfl | hu
 ·exact ⟨he,hf⟩
 ·exact h u hu
theorem bl1 {e:Ex} (hN:2<=N) (h:blE N e=true):([e]:List Ex).length<=N/\∀ x∈[e],blE N x=true:=⟨by show 1<=N;omega,λx hx=>by rw [cI.1 hx];exact h⟩
theorem bl2 {e g:Ex} (hN:2<=N) (h:blE N e=true) (k:blE N g=true):([e,g]:List Ex).length<=N/\∀ x∈[e,g],blE N x=true:=⟨hN,λx hx=>by
 rcases bV.1 hx with rfl | hx
 ·exact h
 ·rw [cI.1 hx];exact k⟩
theorem bf1 {e:Fm} (hN:2<=N) (h:blF N e=true):([e]:List Fm).length<=N/\∀ x∈[e],blF N x=true:=⟨by show 1<=N;omega,λx hx=>by rw [cI.1 hx];exact h⟩
theorem bf2 {e g:Fm} (hN:2<=N) (h:blF N e=true) (k:blF N g=true):([e,g]:List Fm).length<=N/\∀ x∈[e,g],blF N x=true:=⟨hN,λx hx=>by
 rcases bV.1 hx with rfl | hx
 ·exact h
 ·rw [cI.1 hx];exact k⟩
theorem aR3 (hN:2<=N) (h:VbN N x) (ho:blF N o.f=true):VbN N (zB o x):=by
 unfold zB
 split
 ·have:=bl1 hN (ED h);exact zM (wR h) (CC this.1 this.2) kD
 split
 ·have:=bl2 hN (ED (wR h)) (ED h);exact zM (wR (wR h)) (CC this.1 this.2) kD
 split
 ·have:=bl2 hN (ED (wR h)) (ED h);have k:=bl1 hN (CC (op:=o.op) (nm:=[]) (z:=0) this.1 this.2);exact zM (wR (wR h)) BB (AG.2 ⟨⟨k.1,aR _,k.2⟩,λa h=>(by cases h)⟩)
 split
 ·have:=bf1 hN (HA h);exact zM (KT h) BB (SY ho this.1 this.2)
 split
 ·have:=bf2 hN (HA (KT h)) (HA h);exact zM (KT (KT h)) BB (SY ho this.1 this.2)
 ·exact h
theorem aA9 (hN:2<=N) {lv:Nat}:∀ (r:List Ov) (x:Vb),(∀ o∈r,blF N o.f=true)->VbN N x->VbN N (BF lv r x).2
 | [],x,_,h=>h
 | o::r,x,ho,h=>by
  rw [BF]
  split
  ·exact aA9 hN r _ (λz hz=>ho z (bZ _ hz)) (aR3 hN h (ho o (bD ..)))
  ·exact h
theorem KG (hN:2<=N) {lv:Nat} (h:Fbd N q):Fbd N (qG lv q):=⟨aA9 hN q.op q.x h.op h.x,λo ho=>h.op o (LD q.op q.x o ho)⟩
theorem mZ (h:Fbd N q) (ho:blF N o.f=true):Fbd N (jK o (q.at c)):=⟨h.x,λz hz=>by
 rcases bV.1 hz with rfl | hz
 ·rw [bO1];exact ho
 ·exact h.op z hz⟩
theorem sB (h:Fbd N q) (he:blE N v.e=true) (hf:blF N v.f=true):Fbd N (jZ v (q.at c)):=⟨zM h.x he hf,h.op⟩
theorem HO (h:Fbd N q):Fbd N (q.at c):=⟨h.x,h.op⟩
theorem GK (h:Fbd N q) (hx:VbN N x) (he:blE N v.e=true) (hf:blF N v.f=true):Fbd N (HW c v x q):=⟨zM hx he hf,λo ho=>h.op o (List.mem_of_mem_tail ho)⟩
theorem jT {c:Prop} [Decidable c] {a b:Ps} (h1:c->Fbd N a) (h2:¬ c->Fbd N b):Fbd N (if c then a else b):=by
 by_cases hc:c
 ·rw [aO hc];exact h1 hc
 ·rw [aG hc];exact h2 hc
theorem bA6 {q':Ps} (h:Fbd N q) (e:mT l q=some q'):Fbd N q':=by
 unfold mT at e
 split at e
 ·injection e with e;subst e;exact mZ h kD
 split at e
 ·injection e with e;subst e;exact mZ h kD
 split at e
 ·injection e with e;subst e;exact mZ h kD
 split at e
 ·injection e with e;subst e;exact mZ h kD
 split at e
 ·injection e with e;subst e;exact mZ h kD
 split at e
 ·injection e with e;subst e;exact mZ h kD
 split at e
 ·injection e with e;subst e;exact mZ h kD
 ·cases e
theorem aL7 {op:UInt8} {nm:Str} {z:Int64}:blE N (.mk op nm z [])=true:=CC (aR _) λa h=>(by cases h)
theorem bK6 (h:Fbd N q):Fbd N (BD l q):=by
 unfold BD;exact jT (λ_=>jT (λ_=>mZ h kD) λ_=>sB h aL7 kD) λ_=>sB h aL7 kD
theorem bL2 (h:Fbd N q):Fbd N (DH l q):=by
 unfold DH;exact jT (λ_=>sB h BB kD) λ_=>mZ h kD
theorem bK7 (h:Fbd N q):Fbd N (rO l q):=by
 unfold rO
 exact jT (λ_=>mZ h kD) λ_=>jT (λ_=>mZ h kD) λ_=>jT (λ_=>sB h aL7 kD) λ_=>jT (λ_=>bK6 h) λ_ =>
  jT (λ_=>sB h aL7 kD) λ_=>jT (λ_=>sB h aL7 kD) λ_=>jT (λ_=>sB h BB kD) λ_=>jT (λ_=>sB h BB kD) λ_ =>
  jT (λ_=>sB h BB kD) λ_=>jT (λ_=>mZ h kD) λ_=>jT (λ_=>bL2 (HO h)) λ_=>HO h
theorem WC (h:Fbd N q):Fbd N (eH l q):=by
 unfold eH;cases e:(if HL q then mT l q else none) with
 | some q' =>
  split at e
  ·exact bA6 h e
  ·cases e
 | none =>
  show Fbd N (yS l q);unfold yS;exact jT (λ_=>sB h BB kD) λ_=>bK7 h
theorem bL1 (hN:2<=N) {op:UInt8} (h:Fbd N q):Fbd N (uP l op q):=by
 have f {lv:Nat} {c:Rq}:Fbd N ((qG lv q).at c):=HO (KG hN h);have p {lv:Nat} {c:Rq} {o:Ov} (ho:blF N o.f=true):Fbd N (jK o ((qG lv q).at c)):=mZ (KG hN h) ho;unfold uP;exact jT (λ_=>jT (λ_=>f) λ_=>p kD) λ_=>jT (λ_=>jT (λ_=>f) λ_=>p kD) λ_=>jT (λ_=>f) λ_=>p kD
theorem bT0 (c:Rq):blF N (c.joV l)=true:=by
 unfold Rq.joV
 split
 ·exact kD
 split
 ·exact kD
 split
 ·exact kD
 split
 ·exact kD
 ·exact kD
theorem bK8 (hN:2<=N) (h:Fbd N q):Fbd N (yG l q):=by
 unfold yG;exact jT (λ_=>HO h) λ_=>mZ (q:=qG _ q) (c:=q.c.joS l) (KG hN h) (bT0 _)
theorem aF0 (h:Fbd N q):blF N (fP q).f=true:=by
 unfold fP;cases e:q.op with
 | nil=>exact kD
 | cons o r=>exact h.op o (by rw [e];exact bD ..)
theorem bK0 (h:Fex q):(fP q).f.ex.length<=q.c.i:=by
 unfold fP;cases e:q.op with
 | nil=>exact aR _
 | cons o r=>exact h o (by rw [e];exact bD ..)
theorem bM3 (h:Fbd N q) (k:Fex q) (hi:q.c.i<N):((fP q).f.ex++[tE q.x]).length<=N/\∀ e∈(fP q).f.ex++[tE q.x],blE N e=true:=by
 refine ⟨?_,λe he=>?_⟩
 ·rw [aH];have:=bK0 k;simp only [aI,aL];omega
 ·rcases cV.1 he with he | he
  ·exact bV6 (aF0 h) e he
  ·rw [cI.1 he];exact ED h.x
theorem bL0 (hN:2<=N) (h:Fbd N q) (k:Fex q) (hi:q.c.i<N):Fbd N (oR l q):=by
 have s:=bM3 h k hi;have t:=aF0 h;have e1:=bl1 hN (ED h.x);unfold oR
 refine jT (λ_=>⟨h.x,h.op⟩) λ_=>jT (λ_=>GK h (XB h.x) (JP h.x).1 (JP h.x).2) λ_=>jT (λ_=>?_) λ_ =>
  jT (λ_=>jT (λ_=>GK h (wR h.x) (CC e1.1 e1.2) kD) λ_=>GK h (wR h.x) BB (KL t e1.1 e1.2)) λ_ =>
  jT (λ_=>⟨wR h.x,λz hz=>?_⟩) λ_=>jT (λ_=>GK h (wR h.x) BB (KL t s.1 s.2)) λ_=>HO h
 ·have n1:=bl1 (e:=.mk 1 [] ((q.c.nx.exS l [62,61]).nbV l) []) hN aL7;have f1:=bf1 hN (HA h.x);exact GK h (KT h.x) BB (SY (KL t n1.1 n1.2) f1.1 f1.2)
 ·have hz':z∈(⟨(fP q).kd,(fP q).lv,(fP q).tm,(fP q).op,(fP q).f.wEx ((fP q).f.ex++[tE q.x])⟩:Ov)::q.op.tail:=hz;rcases bV.1 hz' with e | hz
  ·subst e;exact KL t s.1 s.2
  ·exact h.op z (List.mem_of_mem_tail hz)
theorem bA5 (hN:2<=N) (h:Fbd N q) (k:Fex q) (hi:q.c.i<N):Fbd N (AW l q):=by
 unfold AW;refine jT (λ_=>?_) λ_=>WC h;unfold iE;cases q.c.sym l with
 | some i=>exact bL1 hN h
 | none =>
  show Fbd N (uK l q);unfold uK;exact jT (λ_=>bK8 hN h) λ_=>jT (λ_=>bL0 hN (KG hN h) (AC k) hi) λ_=>HO h
theorem bK9:Fbd N YF:=⟨λv h=>(by cases h),λo ho=>by rw [cI.1 ho];exact kD⟩
/-! ### Where it ends, an operand stands ready -/
def Dnr (q:Ps):Prop:=q.dn=false\/q.rd=true
theorem jU {c:Prop} [Decidable c] {a b:Ps} (h1:c->Dnr a) (h2:¬ c->Dnr b):Dnr (if c then a else b):=by
 by_cases hc:c
 ·rw [aO hc];exact h1 hc
 ·rw [aG hc];exact h2 hc
theorem bB3 (hd:q.dn=false):Dnr (AW l q):=by
 have pu {o:Ov} {c:Rq}:Dnr (jK o (q.at c)):=.inl hd;have gi {v:Vl} {c:Rq}:Dnr (jZ v (q.at c)):=.inl hd;have at_ {c:Rq}:Dnr (q.at c):=.inl hd
 have opd:Dnr (eH l q):=by
  unfold eH;cases e:(if HL q then mT l q else none) with
  | some q' =>
   split at e
   ·unfold mT at e
    split at e
    ·injection e with e;subst e;exact pu
    split at e
    ·injection e with e;subst e;exact pu
    split at e
    ·injection e with e;subst e;exact pu
    split at e
    ·injection e with e;subst e;exact pu
    split at e
    ·injection e with e;subst e;exact pu
    split at e
    ·injection e with e;subst e;exact pu
    split at e
    ·injection e with e;subst e;exact pu
    ·cases e
   ·cases e
  | none =>
   show Dnr (yS l q);unfold yS rO BD DH
   refine jU (λ_=>gi) λ_=>jU (λ_=>pu) λ_=>jU (λ_=>pu) λ_=>jU (λ_=>gi) λ_=>jU (λ_=>jU (λ_=>jU (λ_=>pu) λ_=>gi) λ_=>gi) λ_ =>
    jU (λ_=>gi) λ_=>jU (λ_=>gi) λ_=>jU (λ_=>gi) λ_=>jU (λ_=>gi) λ_=>jU (λ_=>gi) λ_=>jU (λ_=>pu) λ_=>jU (λ_=>jU (λ_=>.inl hd) λ_=>.inl hd) λ_=>at_
 unfold AW;refine jU (λhr=>?_) λ_=>opd;unfold iE;cases q.c.sym l with
 | some i =>
  show Dnr (uP l _ q);unfold uP;exact jU (λ_=>jU (λ_=>.inl hd) λ_=>.inl hd) λ_=>jU (λ_=>jU (λ_=>.inl hd) λ_=>.inl hd) λ_=>jU (λ_=>.inl hd) λ_=>.inl hd
 | none =>
  show Dnr (uK l q);unfold uK yG oR;exact jU (λ_=>jU (λ_=>.inl hd) λ_=>.inl hd) λ_=>jU (λ_=>jU (λ_=>.inr hr) λ_=>jU (λ_=>.inl hd) λ_=>jU (λ_=>.inl hd) λ_=>jU (λ_=>jU (λ_=>.inl hd) λ_=>.inl hd) λ_=>jU (λ_=>.inl hd) λ_=>jU (λ_=>.inl hd) λ_=>.inl hd) λ_=>.inl hd
end
end Go.Proofs.YtidclioghdbphaaGreatDoor
