/- Texts of the proof, one behind the other. -/
import Derived.Test.YtidclioghdbphaaGreatDoorMf
set_option linter.all false
set_option maxRecDepth 100000
namespace Go.Proofs.YtidclioghdbphaaGreatDoor
open Go.RowKit Go.Par Go.Sx Tryz
def Gq (H:Hp):Prop:=∀ W,Agr H W->Lib.TabIs prg W "internal/strconv.uint64pow10" .u64 Lib.pow10Tab
variable {H H':Hp}
theorem Gq.up (g:Gq H) (u:Up H H'):Gq H':=λW a=>g W ⟨λb o e=>a b o (u b o e),u.lo ▸ a.lo⟩
theorem VC {w:World} (os:Array Obj):Ext w (Sort.grow w os) :=
 Ext.of_below ⟨Z,Z,Z,by simp [Sort.grow],λk hk=>by simp [Sort.grow,Array.getElem?_append,hk]⟩
theorem MR (H:Hp) (g:Gq H) (n:Int64) (w:World) (hA:Agr H w):Calls prg 138 #[.int .i64 n.toInt,.int .i64 10] w λr w'=>r=.returned (cH (Lib.itoa n.toInt))/\Ext w w' :=
 (Tryz.strconv_FormatInt_10 n.toInt (by have:=n.le_toInt;omega) (by have:=n.toInt_lt;omega) w (g w hA)).mono λ_ _ ⟨he,k,os,hw⟩=>⟨he,hw ▸ ((Ext.refl w).drewN k).trans (VC os)⟩
theorem FN (H:Hp) (g:Gq H) (n:Int64) (w:World) (hA:Agr H w):Calls prg 144 #[.int .i64 n.toInt] w λr w'=>r=.returned (cH (Lib.itoa n.toInt))/\Ext w w' :=
 (Tryz.strconv_Itoa n.toInt (by have:=n.le_toInt;omega) (by have:=n.toInt_lt;omega) w (g w hA)).mono λ_ _ ⟨he,k,os,hw⟩=>⟨he,hw ▸ ((Ext.refl w).drewN k).trans (VC os)⟩
theorem YY (H:Hp) (op:UInt8) (w:World) (hA:Agr H w):Calls prg 140 #[.int .u8 op.toNat] w λr w'=>r=.returned (iN (tlv op))/\Ext w w':=by
 refine Sx.enter (H:=H) func140 rfl ntmps140 rfl hA ?_;refine .sr<|.aq Z<|.sq<|.sm Z<|.nt<|.bk<|.sq<|.sr<|.yw (.eql Z Z)<|.aq Z<|.cr Z (λh4=>?_) (λh4=>?_)
 ·have qa:op=14:=aQ.1 (by have:=aH h4;show op.toNat=14;omega);refine .sk<|.tN<|.cT Z<|.sr<|.az Z<|.bR<|.tR<|?_
  refine y9 Z Z λW s=>⟨?_,s.ext⟩
  first
   | (rw [ER (.inl qa)];rfl)
   | (rw [ER (.inr qa)];rfl)
   | (rw [xV (.inl qb)];rfl)
   | (rw [xV (.inr (.inl qb))];rfl)
   | (rw [xV (.inr (.inr qb))];rfl)
   | (rw [WH q9];rfl)
   | (rw [WG qa14 qa15 qb11 qb12 qb13 q9];rfl)
 have qa14:¬ op=14:=λe=>aN h4 (by rw [e];rfl);refine .rg<|.yw (.eql Z Z)<|.aq Z<|.cr Z (λh4=>?_) (λh4=>?_)
 ·have qa:op=15:=aQ.1 (by have:=aH h4;show op.toNat=15;omega);refine .sr<|.az Z<|.bR<|.tR<|?_
  refine y9 Z Z λW s=>⟨?_,s.ext⟩
  first
   | (rw [ER (.inl qa)];rfl)
   | (rw [ER (.inr qa)];rfl)
   | (rw [xV (.inl qb)];rfl)
   | (rw [xV (.inr (.inl qb))];rfl)
   | (rw [xV (.inr (.inr qb))];rfl)
   | (rw [WH q9];rfl)
   | (rw [WG qa14 qa15 qb11 qb12 qb13 q9];rfl)
 have qa15:¬ op=15:=λe=>aN h4 (by rw [e];rfl);refine .sq<|.sr<|.yw (.eql Z Z)<|.aq Z<|.cr Z (λh7=>?_) (λh7=>?_)
 ·have qb:op=11:=aQ.1 (by have:=aH h7;show op.toNat=11;omega);refine .sk<|.tN<|.cT Z<|.sr<|.az Z<|.bR<|.tR<|?_
  refine y9 Z Z λW s=>⟨?_,s.ext⟩
  first
   | (rw [ER (.inl qa)];rfl)
   | (rw [ER (.inr qa)];rfl)
   | (rw [xV (.inl qb)];rfl)
   | (rw [xV (.inr (.inl qb))];rfl)
   | (rw [xV (.inr (.inr qb))];rfl)
   | (rw [WH q9];rfl)
   | (rw [WG qa14 qa15 qb11 qb12 qb13 q9];rfl)
 have qb11:¬ op=11:=λe=>aN h7 (by rw [e];rfl);refine .sr<|.yw (.eql Z Z)<|.aq Z<|.cr Z (λh7=>?_) (λh7=>?_)
 ·have qb:op=12:=aQ.1 (by have:=aH h7;show op.toNat=12;omega);refine .sk<|.tN<|.cT Z<|.sr<|.az Z<|.bR<|.tR<|?_
  refine y9 Z Z λW s=>⟨?_,s.ext⟩
  first
   | (rw [ER (.inl qa)];rfl)
   | (rw [ER (.inr qa)];rfl)
   | (rw [xV (.inl qb)];rfl)
   | (rw [xV (.inr (.inl qb))];rfl)
   | (rw [xV (.inr (.inr qb))];rfl)
   | (rw [WH q9];rfl)
   | (rw [WG qa14 qa15 qb11 qb12 qb13 q9];rfl)
 have qb12:¬ op=12:=λe=>aN h7 (by rw [e];rfl);refine .rg<|.yw (.eql Z Z)<|.aq Z<|.cr Z (λh7=>?_) (λh7=>?_)
 ·have qb:op=13:=aQ.1 (by have:=aH h7;show op.toNat=13;omega);refine .sr<|.az Z<|.bR<|.tR<|?_
  refine y9 Z Z λW s=>⟨?_,s.ext⟩
  first
   | (rw [ER (.inl qa)];rfl)
   | (rw [ER (.inr qa)];rfl)
   | (rw [xV (.inl qb)];rfl)
   | (rw [xV (.inr (.inl qb))];rfl)
   | (rw [xV (.inr (.inr qb))];rfl)
   | (rw [WH q9];rfl)
   | (rw [WG qa14 qa15 qb11 qb12 qb13 q9];rfl)
 have qb13:¬ op=13:=λe=>aN h7 (by rw [e];rfl);refine .sr<|.yw (.eql Z Z)<|.aq Z<|.cd Z (λh11=>?_) (λh11=>?_)
 ·have q9:op=9:=aQ.1 (by have:=aH h11;show op.toNat=9;omega);refine .sr<|.az Z<|.bR<|.tR<|?_
  refine y9 Z Z λW s=>⟨?_,s.ext⟩
  first
   | (rw [ER (.inl qa)];rfl)
   | (rw [ER (.inr qa)];rfl)
   | (rw [xV (.inl qb)];rfl)
   | (rw [xV (.inr (.inl qb))];rfl)
   | (rw [xV (.inr (.inr qb))];rfl)
   | (rw [WH q9];rfl)
   | (rw [WG qa14 qa15 qb11 qb12 qb13 q9];rfl)
 have q9:¬ op=9:=λe=>aN h11 (by rw [e];rfl);refine .sk<|.bN<|.tN<|.sr<|.az Z<|?_
 refine y9 Z Z λW s=>⟨?_,s.ext⟩
 first
  | (rw [ER (.inl qa)];rfl)
  | (rw [ER (.inr qa)];rfl)
  | (rw [xV (.inl qb)];rfl)
  | (rw [xV (.inr (.inl qb))];rfl)
  | (rw [xV (.inr (.inr qb))];rfl)
  | (rw [WH q9];rfl)
  | (rw [WG qa14 qa15 qb11 qb12 qb13 q9];rfl)
theorem uW (H:Hp) (e:Ex) (k:Nat) (ht:(∀ (cs:List Value) (W:World),Rep H (dEx .u8 e) cs->eP e=true\/Ex.op e=0->(tmT e).length<=1000000000->Agr H W->Calls prg 89 #[.agg cs.toArray] W λr W'=>r=.returned (cH (tmT e))/\Ext W W')) (cs:List Value) (w:World) (h:Rep H (dEx .u8 e) cs) (hok:eP e=true\/e.op=0) (hl:(tmT e).length<=1000000000) (hA:Agr H w) :
 Calls prg 139 #[.agg cs.toArray,iN k] w λr w'=>r=.returned (cH (yM (decide (tlv e.op<k)) (tmT e)))/\Ext w w':=by
 obtain ⟨op,nm,nn,args⟩:=e;obtain ⟨pp,c,rfl,hs,hnm⟩:=iM h;refine Sx.enter (H:=H) func139 rfl ntmps139 rfl hA ?_;refine .sr<|.bx Z Z Z λb2=>.aq Z<|.sq<|.sr<|.fA Z gQ<|.lD Z jR Hm Z<|.yw (.call LY Z (λW s=>YY H op W s.agr))<|.mv Z<|.yw (.lss Z Z)<|.nt<|.cd Z (λh9=>?_) (λh9=>?_)
 ·have h9:tlv op<k:=by have:=aH h9;omega
  refine .sr<|.yw (.loadW Z dP Hm Z)<|.yw (.call sN Z (λW s=>ht _ W h hok hl s.agr))<|.yw (.app Z Z (by (try simp only [aF,aJ,aM]);omega))<|.yw (.app Z Z (by (try simp only [aF,aJ,aM]);omega))<|.az Z<|.tR<|?_
  refine y9 Z Z λW s=>⟨?_,s.ext⟩
  first
   | (rw [show decide (tlv (Ex.op (.mk op nm nn args))<k)=true from aR h9];rfl)
   | (rw [show decide (tlv (Ex.op (.mk op nm nn args))<k)=false from aP h9];rfl)
 have h9:¬ tlv op<k:=λe=>aN h9 (by omega);refine .sk<|.tN<|.sr<|.yw (.loadW Z dP Hm Z)<|.yw (.call sN Z (λW s=>ht _ W h hok hl s.agr))<|.az Z<|?_
 refine y9 Z Z λW s=>⟨?_,s.ext⟩
 first
  | (rw [show decide (tlv (Ex.op (.mk op nm nn args))<k)=true from aR h9];rfl)
  | (rw [show decide (tlv (Ex.op (.mk op nm nn args))<k)=false from aP h9];rfl)
theorem sT (H:Hp) (G:Gf H) (gq:Gq H) (e:Ex):(∀ (cs:List Value) (W:World),Rep H (dEx .u8 e) cs->eP e=true\/Ex.op e=0->(tmT e).length<=1000000000->Agr H W->Calls prg 89 #[.agg cs.toArray] W λr W'=>r=.returned (cH (tmT e))/\Ext W W'):=by
 induction e using Ex.ind with | _ op nm nn args ih
 intro cs w h hok hl hA;obtain ⟨pp,c,rfl,hs,hnm⟩:=iM h;have hcap:=hs.cap;refine Sx.enter (H:=H) func89 rfl ntmps89 rfl hA ?_;refine .sr<|.bx Z Z Z λb1=>.aq Z<|.sq<|.sr<|.fA Z gQ<|.lD Z jR Hm Z<|.nt<|.bk<|.sr<|.yw (.eql Z Z)<|.aq Z<|.cd Z (λh6=>?_) (λh6=>?_)
 ·have q1:op=1:=aQ.1 (by have:=aH h6;show op.toNat=1;omega);refine .sr<|.fA Z gI<|.lD Z fG Hm Z<|.yw (.call YM Z (λW s=>MR H gq nn W s.agr))<|.az Z<|.bR<|.tR<|?_
  refine y9 Z Z λW s=>⟨?_,s.ext⟩
  first
   | (rw [tm1 q1])
   | (rw [tm4 q4];rfl)
   | (rw [tm5 q5])
   | (rw [tm6 q6 h0];rfl)
   | (rw [tm8 q8];rfl)
   | (rw [tm9 q9 h0];rfl)
   | (rw [tmb qB h0 h1];rfl)
   | (rw [tmn q1 q4 q5 q6 q8 q9 qB];rfl)
 have q1:¬ op=1:=λe=>aN h6 (by rw [e];rfl);refine .sr<|.yw (.eql Z Z)<|.aq Z<|.cd Z (λh11=>?_) (λh11=>?_)
 ·have q4:op=4:=aQ.1 (by have:=aH h11;show op.toNat=4;omega);refine .sr<|.az Z<|.bR<|.tR<|?_
  refine y9 Z Z λW s=>⟨?_,s.ext⟩
  first
   | (rw [tm1 q1])
   | (rw [tm4 q4];rfl)
   | (rw [tm5 q5])
   | (rw [tm6 q6 h0];rfl)
   | (rw [tm8 q8];rfl)
   | (rw [tm9 q9 h0];rfl)
   | (rw [tmb qB h0 h1];rfl)
   | (rw [tmn q1 q4 q5 q6 q8 q9 qB];rfl)
 have q4:¬ op=4:=λe=>aN h11 (by rw [e];rfl);refine .sr<|.yw (.eql Z Z)<|.aq Z<|.cd Z (λh13=>?_) (λh13=>?_)
 ·have q5:op=5:=aQ.1 (by have:=aH h13;show op.toNat=5;omega);refine .sr<|.fA Z fV<|.lD Z cZ Hm Z<|.az Z<|.bR<|.tR<|?_
  refine y9 Z Z λW s=>⟨?_,s.ext⟩
  first
   | (rw [tm1 q1])
   | (rw [tm4 q4];rfl)
   | (rw [tm5 q5])
   | (rw [tm6 q6 h0];rfl)
   | (rw [tm8 q8];rfl)
   | (rw [tm9 q9 h0];rfl)
   | (rw [tmb qB h0 h1];rfl)
   | (rw [tmn q1 q4 q5 q6 q8 q9 qB];rfl)
 have q5:¬ op=5:=λe=>aN h13 (by rw [e];rfl);refine .sr<|.yw (.eql Z Z)<|.aq Z<|.cd Z (λh17=>?_) (λh17=>?_)
 ·have q6:op=6:=aQ.1 (by have:=aH h17;show op.toNat=6;omega);obtain ⟨hla,hta⟩:=JZ (.inl q6) (hok.resolve_right (by rw [q6];exact (by decide:¬ (6:UInt8)=0)));have h0:0<args.length:=by omega
  obtain ⟨b0,o0,c0,hp0,r0,l0,m0⟩:=hs.elem (kN h0);cases hp0;rw [tm6 q6 h0] at hl;simp only [aF,aJ,aM] at hl

  refine .sq<|.fL 10 [(0,0),(1,0),(2,0),(3,0),(4,0),(5,0),(6,0),(7,0),(8,0),(9,0)]<|.fA Z fV<|.lD Z cZ Hm Z<|.yw (.app Z Z (by (try simp only [aF,aJ,aM]);omega))<|.fA Z eA<|.lD Z dE Hm Z<|.yw (.indexSl dO Z Z (i:=0) Z (by omega) (q:=o0+0 * 4) Z)<|.yw (.loadMW Z dP m0 l0)<|.yw (.call sN Z (λW s=>ih _ (bU h0) _ W r0 (.inl (hta _ (bU h0))) (by omega) s.agr))<|.yw (.app Z Z (by (try simp only [aF,aJ,aM]);omega))<|.yw (.app Z Z (by (try simp only [aF,aJ,aM]);omega))<|.fn (tl:=[_]) Z<|.az Z<|.bR<|.tR<|?_
  refine y9 Z Z λW s=>⟨?_,s.ext⟩
  first
   | (rw [tm1 q1])
   | (rw [tm4 q4];rfl)
   | (rw [tm5 q5])
   | (rw [tm6 q6 h0];rfl)
   | (rw [tm8 q8];rfl)
   | (rw [tm9 q9 h0];rfl)
   | (rw [tmb qB h0 h1];rfl)
   | (rw [tmn q1 q4 q5 q6 q8 q9 qB];rfl)
 have q6:¬ op=6:=λe=>aN h17 (by rw [e];rfl);refine .sr<|.yw (.eql Z Z)<|.aq Z<|.cd Z (λh29=>?_) (λh29=>?_)
 ·have q8:op=8:=aQ.1 (by have:=aH h29;show op.toNat=8;omega);refine .sr<|.fA Z fV<|.lD Z cZ Hm Z<|.yw (.app Z Z (by (try simp only [aF,aJ,aM]);omega))<|.az Z<|.bR<|.tR<|?_
  refine y9 Z Z λW s=>⟨?_,s.ext⟩
  first
   | (rw [tm1 q1])
   | (rw [tm4 q4];rfl)
   | (rw [tm5 q5])
   | (rw [tm6 q6 h0];rfl)
   | (rw [tm8 q8];rfl)
   | (rw [tm9 q9 h0];rfl)
   | (rw [tmb qB h0 h1];rfl)
   | (rw [tmn q1 q4 q5 q6 q8 q9 qB];rfl)
 have q8:¬ op=8:=λe=>aN h29 (by rw [e];rfl);refine .sr<|.yw (.eql Z Z)<|.aq Z<|.cd Z (λh34=>?_) (λh34=>?_)
 ·have q9:op=9:=aQ.1 (by have:=aH h34;show op.toNat=9;omega);obtain ⟨hla,hta⟩:=JZ (.inr q9) (hok.resolve_right (by rw [q9];exact (by decide:¬ (9:UInt8)=0)));have h0:0<args.length:=by omega
  obtain ⟨b0,o0,c0,hp0,r0,l0,m0⟩:=hs.elem (kN h0);cases hp0;rw [tm9 q9 h0] at hl;simp only [aF,aJ,aM] at hl;have pl:=kY (decide (tlv args[0].op<6)) (tmT args[0])

  refine .sr<|.fA Z eA<|.lD Z dE Hm Z<|.yw (.indexSl dO Z Z (i:=0) Z (by omega) (q:=o0+0 * 4) Z)<|.yw (.loadMW Z dP m0 l0)<|.yw (.call EG Z (λW s=>uW H _ 6 (ih _ (bU h0)) _ W r0 (.inl (hta _ (bU h0))) (by omega) s.agr))<|.yw (.app Z Z (by (try simp only [aF,aJ,aM]);omega))<|.az Z<|.bR<|.tR<|?_
  refine y9 Z Z λW s=>⟨?_,s.ext⟩
  first
   | (rw [tm1 q1])
   | (rw [tm4 q4];rfl)
   | (rw [tm5 q5])
   | (rw [tm6 q6 h0];rfl)
   | (rw [tm8 q8];rfl)
   | (rw [tm9 q9 h0];rfl)
   | (rw [tmb qB h0 h1];rfl)
   | (rw [tmn q1 q4 q5 q6 q8 q9 qB];rfl)
 have q9:¬ op=9:=λe=>aN h34 (by rw [e];rfl);refine .cu (X:=Bool) [(1,_)] ⟨Z,Jt⟩ (λz=>[(42,.bool z)]) (λz=>H) (λz=>[.box b1 [.int .u8 op.toNat,cH nm,.int .i64 nn.toInt,.slice pp args.length c] 76]) (λz=>z=decide (op=11\/op=12\/op=13\/op=14\/op=15)) ?_ λz hC=>?_
 ·
  refine .sr<|.yw (.eql Z Z)<|.aq Z<|.cr Z (λh42=>?_) (λh42=>?_)
  ·have qb:op=11:=aQ.1 (by have:=aH h42;show op.toNat=11;omega);exact .sk<|.tN<|.me _ ⟨Z,Jt⟩ ⟨Z,Jt⟩ (λ_ s=>s) (by first | (rw [qb];rfl) | (simp only [qb11,qb12,qb13,qb14,false_or];exact k8 (m:=15) (by decide)))
  have qb11:¬ op=11:=λe=>aN h42 (by rw [e];rfl);refine .sr<|.yw (.eql Z Z)<|.aq Z<|.cr Z (λh42=>?_) (λh42=>?_)
  ·have qb:op=12:=aQ.1 (by have:=aH h42;show op.toNat=12;omega);exact .sk<|.tN<|.me _ ⟨Z,Jt⟩ ⟨Z,Jt⟩ (λ_ s=>s) (by first | (rw [qb];rfl) | (simp only [qb11,qb12,qb13,qb14,false_or];exact k8 (m:=15) (by decide)))
  have qb12:¬ op=12:=λe=>aN h42 (by rw [e];rfl);refine .sr<|.yw (.eql Z Z)<|.aq Z<|.cr Z (λh42=>?_) (λh42=>?_)
  ·have qb:op=13:=aQ.1 (by have:=aH h42;show op.toNat=13;omega);exact .sk<|.tN<|.me _ ⟨Z,Jt⟩ ⟨Z,Jt⟩ (λ_ s=>s) (by first | (rw [qb];rfl) | (simp only [qb11,qb12,qb13,qb14,false_or];exact k8 (m:=15) (by decide)))
  have qb13:¬ op=13:=λe=>aN h42 (by rw [e];rfl);refine .sr<|.yw (.eql Z Z)<|.aq Z<|.cr Z (λh42=>?_) (λh42=>?_)
  ·have qb:op=14:=aQ.1 (by have:=aH h42;show op.toNat=14;omega);exact .sk<|.tN<|.me _ ⟨Z,Jt⟩ ⟨Z,Jt⟩ (λ_ s=>s) (by first | (rw [qb];rfl) | (simp only [qb11,qb12,qb13,qb14,false_or];exact k8 (m:=15) (by decide)))
  have qb14:¬ op=14:=λe=>aN h42 (by rw [e];rfl);exact .rg<|.yw (.eql Z Z)<|.aq Z<|.me _ ⟨Z,Jt⟩ ⟨Z,Jt⟩ (λ_ s=>s) (by first | (rw [qb];rfl) | (simp only [qb11,qb12,qb13,qb14,false_or];exact k8 (m:=15) (by decide)))
 have eqB:=hC;refine .cr Z (λh42=>?_) (λh42=>?_)
 ·have qB:(op=11\/op=12\/op=13\/op=14\/op=15):=by rw [h42] at eqB;exact aH eqB.symm
  obtain ⟨hla,hta⟩:=WJ qB (hok.resolve_right (by rintro (h:op=0);rw [h] at qB;revert qB;decide));have h0:0<args.length:=by omega
  have h1:1<args.length:=by omega
  obtain ⟨b0,o0,c0,hp0,r0,l0,m0⟩:=hs.elem (kN h0);cases hp0;obtain ⟨b1,o1,c1,hp1,r1,l1,m1⟩:=hs.elem (kN h1);cases hp1;rw [tmb qB h0 h1] at hl;simp only [aF,aJ,aM] at hl;have pl:=kY (decide (tlv args[0].op<tlv op)) (tmT args[0]);have pl1:=kY (decide (tlv args[1].op<tlv op+1)) (tmT args[1]);have psy:=yG op;have htl:=GU op;have hop:op.toNat<=15:=by rcases qB with rfl | rfl | rfl | rfl | rfl <;> decide
  refine .sr<|.fA Z gQ<|.lD Z jR Hm Z<|.yw (.call LY Z (λW s=>YY H op W s.agr))<|.aq Z<|.sq<|.fL 21 [(0,0),(1,0),(2,0),(3,0),(4,0),(5,0),(6,0),(7,0),(8,0),(9,0),(10,0),(11,0),(12,0),(13,0),(14,0),(15,0),(16,0),(17,0),(18,0),(19,0),(20,0)]<|.fA Z eA<|.lD Z dE Hm Z<|.yw (.indexSl dO Z Z (i:=0) Z (by omega) (q:=o0+0 * 4) Z)<|.yw (.loadMW Z dP m0 l0)<|.mv Z<|.yw (.call EG Z (λW s=>uW H _ (tlv op) (ih _ (bU h0)) _ W r0 (.inl (hta _ (bU h0))) (by omega) s.agr))<|.yw (.app Z Z (by (try simp only [aF,aJ,aM]);omega))<|.fA Z gQ<|.lD Z jR Hm Z<|.yw (.indexArr HW Z Z Z (by omega) (q:=op.toNat) (by omega))<|.yw (.loadM (k:=op.toNat) (v:=cH (xE op)) Z cZ G.syms (by omega) (by show _=some (cH (lT.getD op.toNat []));exact zI (by show op.toNat<22;omega) []))<|.yw (.app Z Z (by (try simp only [aF,aJ,aM]);omega))<|.yw (.app Z Z (by (try simp only [aF,aJ,aM]);omega))<|.fA Z eA<|.lD Z dE Hm Z<|.yw (.indexSl dO Z Z (i:=1) Z (by omega) (q:=o0+1 * 4) Z)<|.yw (.loadMW Z dP m1 l1)<|.mv Z<|.yw (.add Z Z w7)<|.yw (.call EG Z (λW s=>uW H _ (tlv op+1) (ih _ (bU h1)) _ W r1 (.inl (hta _ (bU h1))) (by omega) s.agr))<|.yw (.app Z Z (by (try simp only [aF,aJ,aM]);omega))<|.fn (tl:=[_]) Z<|.az Z<|.bR<|.tR<|?_
  refine y9 Z Z λW s=>⟨?_,s.ext⟩
  first
   | (rw [tm1 q1])
   | (rw [tm4 q4];rfl)
   | (rw [tm5 q5])
   | (rw [tm6 q6 h0];rfl)
   | (rw [tm8 q8];rfl)
   | (rw [tm9 q9 h0];rfl)
   | (rw [tmb qB h0 h1];rfl)
   | (rw [tmn q1 q4 q5 q6 q8 q9 qB];rfl)
 have qB:¬ (op=11\/op=12\/op=13\/op=14\/op=15):=by rw [h42] at eqB;exact aN eqB.symm
 refine .sk<|.bN<|.tN<|.sr<|.az Z<|?_
 refine y9 Z Z λW s=>⟨?_,s.ext⟩
 first
  | (rw [tm1 q1])
  | (rw [tm4 q4];rfl)
  | (rw [tm5 q5])
  | (rw [tm6 q6 h0];rfl)
  | (rw [tm8 q8];rfl)
  | (rw [tm9 q9 h0];rfl)
  | (rw [tmb qB h0 h1];rfl)
  | (rw [tmn q1 q4 q5 q6 q8 q9 qB];rfl)
theorem KZ (sep:Str):∀ l:List Str,Lib.join l sep=wP sep l
 | []=>rfl
 | [x]=>Lib.join_one x sep
 | x::y::r=>by
  show _=x++sep++wP sep (y::r);rw [<-KZ sep (y::r),Lib.join_cons,Lib.join_cons];simp [Lib.joinTail,aZ]
theorem RE (sep:Str):∀ l:List Str,(wP sep l).length<=(l.map List.length).sum+l.length * sep.length
 | []=>aO _
 | [x]=>by show x.length<=x.length+0+1 * sep.length;omega
 | x::y::r=>by
  have h:=RE sep (y::r);show (x++sep++wP sep (y::r)).length<=_;rw [aF,aF,dG,List.sum_cons,aJ (a:=x),tI];omega
theorem aT1 (sep:Str):∀ (l:List Str),∀ x∈l,x.length<=(wP sep l).length
 | [y],x,h=>by rw [bQ.1 h];exact aX _
 | y::z::r,x,h=>by
  show _<=(y++sep++wP sep (z::r)).length;rw [aF,aF];rcases bM.1 h with rfl | h
  ·omega
  ·have:=aT1 sep (z::r) x h;omega
section
variable {op:UInt8} {nm fd:Str} {a b:Int64} {ex:List Ex} {args:List Fm} {e0:Ex}
theorem wR (h:Fm.all jX (.mk op nm fd a b ex args)=true):jX (.mk op nm fd a b ex args)=true/\∀ g∈args,Fm.all jX g=true:=by
 rw [oN,aE,aW] at h;exact h
theorem kB (h:jX (.mk op nm fd a b ex args)=true):¬ (cJ op).lv=0/\args.length=(cJ op).ar/\CT (.mk op nm fd a b ex args)=true/\GE (.mk op nm fd a b ex args)=true:=by
 unfold jX at h;rw [aE,aE,aE,aE,aE,aD,aD] at h;exact ⟨h.1.1.1.1.1,h.1.1.2,h.2,h.1.2⟩
theorem aA0 (h:jX (.mk op nm fd a b ex args)=true):op.toNat<=18:=by
 have h1:=(kB h).1;exact Classical.byContradiction λe=>h1 (by unfold cJ;rw [List.getD_eq_getElem?_getD,List.getElem?_eq_none (by show 19<=op.toNat;omega)];rfl)
theorem aU3 (h:jX (.mk op nm fd a b ex args)=true) (q:op=7):ex.length<=4/\∀ e∈ex,eP e=true\/e.op=0:=by
 have h1:=(kB h).2.2.1;subst q;unfold CT at h1;rw [aL (show (Fm.mk 7 nm fd a b ex args).op=7 from rfl),aE,aD,aW] at h1;refine ⟨h1.1,λe he=>?_⟩;have h2:=h1.2 e he;rw [bC] at h2;rcases h2 with h2 | h2
 ·obtain ⟨o,n,m,al⟩:=e;unfold HS at h2;simp only [aE,aD] at h2;exact .inr h2.1.1.1
 ·exact .inl h2
theorem US (h:jX (.mk op nm fd a b ex args)=true) (q:¬ op=7):ex.length=(cJ op).ex/\(if op=3 then IU (ex.headD (.mk 0 [] 0 [])) else if op=5 then eP (ex.headD (.mk 0 [] 0 [])) else if op=18 then decide ((ex.headD (.mk 0 [] 0 [])).op=1) && eP (ex.headD (.mk 0 [] 0 [])) && decide ((ex.headD (.mk 0 [] 0 [])).n.toInt<=32) else true)=true:=by
 have h1:=(kB h).2.2.1;unfold CT at h1;rw [aG (show ¬ (Fm.mk op nm fd a b ex args).op=7 from q),aE,aD] at h1;exact h1
theorem UT (h:jX (.mk op nm fd a b ex args)=true) (q:op=5\/op=18):∃ e0,ex=[e0]/\eP e0=true:=by
 have h1:=US h (by rcases q with rfl | rfl <;> decide);have hl:ex.length=1:=h1.1.trans (by rcases q with rfl | rfl <;> rfl);obtain ⟨e0,rfl⟩:=List.length_eq_one_iff.1 hl;refine ⟨e0,Z,?_⟩;have h2:=h1.2;rcases q with rfl | rfl
 ·exact h2
 ·rw [aG (by decide),aG (by decide),aL rfl,aE,aE] at h2;exact h2.1.2
theorem aU4 (h:jX (.mk op nm fd a b ex args)=true) (q:op=3):∃ op0 nm0 m0 args0,ex=[.mk op0 nm0 m0 args0]/\(16<=op0.toNat/\op0.toNat<=21)/\args0.length=2/\∀ a∈args0,eP a=true:=by
 have h1:=US h (by subst q;decide);have hl:ex.length=1:=h1.1.trans (by subst q;rfl);obtain ⟨⟨op0,nm0,m0,args0⟩,rfl⟩:=List.length_eq_one_iff.1 hl;refine ⟨op0,nm0,m0,args0,Z,?_⟩;have h2:=h1.2;rw [aL q] at h2;change IU (.mk op0 nm0 m0 args0)=true at h2;unfold IU at h2;simp only [aE,aD] at h2;rw [sB,aW] at h2;exact ⟨⟨h2.1.1.1.1,h2.1.1.1.2⟩,h2.2.2,h2.2.1⟩
theorem fx3 {op0:UInt8} {nm0:Str} {m0:Int64} {args0:List Ex} (h:op=3) (he:ex=[.mk op0 nm0 m0 args0]) (h0:0<args0.length) (h1:1<args0.length):fmT (.mk op nm fd a b ex args)=(tmT args0[0]++([32]:Str)++xE op0++([32]:Str)++tmT args0[1]:Str):=by
 match args0,h1 with
 | x::y::r,_=>rw [AK];subst h he;rfl
theorem fx4 (h:op=4):fmT (.mk op nm fd a b ex args)=(nm++([46]:Str)++fd:Str):=by rw [AK];subst h;rfl
theorem fx5 (h:op=5) (he:ex=[e0]):fmT (.mk op nm fd a b ex args)=(gA op++([32]:Str)++nm++([46]:Str)++fd++([91]:Str)++tmT e0++([93]:Str):Str):=by rw [AK];subst h he;rfl
theorem fx6 (h:op=6):fmT (.mk op nm fd a b ex args)=(gA op++([32]:Str)++nm:Str):=by rw [AK];subst h;rfl
theorem fx7 (h:op=7):fmT (.mk op nm fd a b ex args)=(gA op++([32]:Str)++nm++([46]:Str)++fd++([40]:Str)++wP ([44,32]:Str) (ex.map tmT)++([41]:Str):Str):=by rw [AK];subst h;rfl
def pfW (k:Nat) (f:Fm):Str:=yM (decide ((cJ f.op).lv<k)) (fmT f)
theorem fxu (h:op=8\/op=12\/op=13\/op=14) (h0:0<args.length):fmT (.mk op nm fd a b ex args)=(gA op++rO (.mk op nm fd a b ex args)++([32]:Str)++pfW 5 args[0]:Str):=by
 rw [AK];unfold LK pfW;rw [hd0 h0];rcases h with rfl | rfl | rfl | rfl <;> rfl
theorem fxq (h:op=16\/op=17) (h0:0<args.length):fmT (.mk op nm fd a b ex args)=(gA op++GF (.mk op nm fd a b ex args)++([32]:Str)++pfW 5 args[0]:Str):=by
 rw [AK];unfold LK pfW;rw [hd0 h0];rcases h with rfl | rfl <;> rfl
theorem IT (h:op=18) (he:ex=[e0]) (h0:0<args.length):fmT (.mk op nm fd a b ex args)=(gA op++GF (.mk op nm fd a b ex args)++([32,40]:Str)++fmT args[0]++([41,32,62,61,32]:Str)++tmT e0:Str):=by
 rw [AK];unfold LK;rw [hd0 h0];subst h he;rfl
theorem fxb (h:op=15\/op=9\/op=10\/op=11) (h0:0<args.length) (h1:1<args.length):fmT (.mk op nm fd a b ex args)=(pfW (cJ op).lv args[0]++([32]:Str)++gA op++rO (.mk op nm fd a b ex args)++([32]:Str)++pfW ((cJ op).lv+1) args[1]:Str):=by
 rw [AK];unfold LK pfW;rw [hd0 h0,hd1 h1];rcases h with rfl | rfl | rfl | rfl <;> rfl
theorem fxn (h3:¬ op=3) (h4:¬ op=4) (h5:¬ op=5) (h6:¬ op=6) (h7:¬ op=7) (hu:¬ (op=8\/op=12\/op=13\/op=14)) (hq:¬ (op=16\/op=17)) (h18:¬ op=18) (hb:¬ (op=15\/op=9\/op=10\/op=11)):fmT (.mk op nm fd a b ex args)=gA op:=by
 rw [AK];unfold LK;rw [aG (show ¬ (Fm.mk op nm fd a b ex args).op=3 from h3),aG (show ¬ (Fm.mk op nm fd a b ex args).op=4 from h4),aG (show ¬ (Fm.mk op nm fd a b ex args).op=5 from h5),aG (show ¬ (Fm.mk op nm fd a b ex args).op=6 from h6),aG (show ¬ (Fm.mk op nm fd a b ex args).op=7 from h7),aG (show ¬ ((Fm.mk op nm fd a b ex args).op=8\/(Fm.mk op nm fd a b ex args).op=12\/(Fm.mk op nm fd a b ex args).op=13\/(Fm.mk op nm fd a b ex args).op=14) from hu),aG (show ¬ ((Fm.mk op nm fd a b ex args).op=16\/(Fm.mk op nm fd a b ex args).op=17) from hq),aG (show ¬ (Fm.mk op nm fd a b ex args).op=18 from h18),aG (show ¬ ((Fm.mk op nm fd a b ex args).op=15\/(Fm.mk op nm fd a b ex args).op=9\/(Fm.mk op nm fd a b ex args).op=10\/(Fm.mk op nm fd a b ex args).op=11) from hb)]
 rfl
theorem ar1 (h:op=8\/op=12\/op=13\/op=14\/op=16\/op=17\/op=18):(cJ op).ar=1:=by rcases h with rfl | rfl | rfl | rfl | rfl | rfl | rfl <;> rfl
theorem ar2 (h:op=15\/op=9\/op=10\/op=11):(cJ op).ar=2:=by rcases h with rfl | rfl | rfl | rfl <;> rfl
theorem PD:(rO (.mk op nm fd a b ex args)).length<=46:=by
 unfold rO
 split
 ·exact aO _
 ·have h1:=rR (Fm.mk op nm fd a b ex args).a;have h2:=rR (Fm.mk op nm fd a b ex args).b;simp only [aF,aJ,aM];omega
theorem RT:(GF (.mk op nm fd a b ex args)).length<=nm.length+49:=by
 have h1:=rR (Fm.mk op nm fd a b ex args).a;have h2:=rR (Fm.mk op nm fd a b ex args).b;show (([32]:Str)++nm++_++_++_++_).length<=_;simp only [aF,aJ,aM];omega
theorem JF (k:Nat) (f:Fm):(fmT f).length<=(pfW k f).length/\(pfW k f).length<=(fmT f).length+2:=kY _ _
end
def nlF (f:Fm):Bool:=Fm.all (λf=>decide (f.nm.length<=1000000) && decide (f.fd.length<=1000000) && f.ex.all nlE) f
theorem SP:∀ l:List Ex,(∀ e∈l,nlE e=true)->((l.map tmT).map List.length).sum<=1000100 * Ex.counts l
 | [],_=>aO _
 | e::r,h=>by
  rw [dG,dG,List.sum_cons,Ex.counts];have h1:=EO e (h e (aY ..));have h2:=SP r λx hx=>h x (bT _ hx);omega
theorem aM9 (e:Ex) (h:nlE e=true):(tmT (ex0 e)).length+(tmT (ex1 e)).length<=1000100 * e.count:=by
 obtain ⟨op,nm,n,args⟩:=e;unfold nlE at h;rw [nT,mN,aE,aW] at h;rw [lU];have hz:tmT zE=[95]:=wD
 match args,h.2 with
 | [],_=>show (tmT zE).length+(tmT zE).length<=_;rw [hz,Ex.counts];decide
 | [x],h =>
  have:=EO x (h x (aY ..));show (tmT x).length+(tmT zE).length<=_;rw [hz,Ex.counts,Ex.counts];show _+1<=_;omega
 | x::y::r,h =>
  have h1:=EO x (h x (aY ..));have h2:=EO y (h y (bT _ (aY ..)));show (tmT x).length+(tmT y).length<=_;rw [Ex.counts,Ex.counts];omega
theorem aU8 (F:Fm) (l:List (UInt8 × Str)) (C D:Nat) (h1:F.nm.length<=1000000) (h2:F.fd.length<=1000000) (he:(tmT (exH F)).length+(tmT (ex0 (exH F))).length+(tmT (ex1 (exH F))).length<=2000200 * D+3)
 (hj:(wP ([44,32]:Str) (F.ex.map tmT)).length<=1000102 * D) (hx:(l.headD (0,[])).2.length+((l.drop 1).headD (0,[])).2.length<=3000200 * C) (w1:(rO F).length<=46) (w2:(GF F).length<=F.nm.length+49):(LK F l).length<=3000200 * (D+C+1):=by
 have w3:=GO F.op;have w4:=yG (exH F).op;have p1:=(kY (decide ((cJ (l.headD (0,[])).1).lv<5)) (l.headD (0,[])).2).2;have p2:=(kY (decide ((cJ (l.headD (0,[])).1).lv<(cJ F.op).lv)) (l.headD (0,[])).2).2;have p3:=(kY (decide ((cJ ((l.drop 1).headD (0,[])).1).lv<(cJ F.op).lv+1)) ((l.drop 1).headD (0,[])).2).2;unfold LK
 repeat' split
 all_goals (try simp only [aF,aJ,aM]);omega
theorem bH3 (f:Fm) (hn:nlF f=true):(fmT f).length<=3000200 * f.count:=by
 induction f using Fm.ind with | _ op nm fd a b ex args ih
 unfold nlF at hn;rw [oN,aE,aE,aE,aD,aD,aW,aW] at hn;obtain ⟨⟨⟨hn,hf⟩,he⟩,ha⟩:=hn;have hn':nm.length<=1000000:=hn;have hf':fd.length<=1000000:=hf;have he':∀ e∈ex,nlE e=true:=he
 have hx:∀ (l:List (UInt8 × Str)),l=args.map (λf=>(f.op,fmT f))->(l.headD (0,[])).2.length+((l.drop 1).headD (0,[])).2.length<=3000200 * Fm.counts args:=by
  rintro l rfl
  match args,ih,ha with
  | [],_,_=>exact aO _
  | [a],ih,ha =>
   have:=ih a (aY ..) (ha a (aY ..));rw [Fm.counts,Fm.counts];show (fmT a).length+0<=_;omega
  | a::b::r,ih,ha =>
   have h1:=ih a (aY ..) (ha a (aY ..));have h2:=ih b (bT _ (aY ..)) (ha b (bT _ (aY ..)));rw [Fm.counts,Fm.counts];show (fmT a).length+(fmT b).length<=_;omega
 have hx:=hx _ rfl
 have he0:(tmT (exH (.mk op nm fd a b ex args))).length+(tmT (ex0 (exH (.mk op nm fd a b ex args)))).length+(tmT (ex1 (exH (.mk op nm fd a b ex args)))).length<=2000200 * Ex.counts ex+3:=by
  have hz:tmT zE=[95]:=wD
  match ex,he' with
  | [],_ =>
   show (tmT zE).length+(tmT zE).length+(tmT zE).length<=_;rw [hz];show 3<=_;omega
  | e::r,h =>
   have h1:=EO e (h e (aY ..));have h2:=aM9 e (h e (aY ..));show (tmT e).length+(tmT (ex0 e)).length+(tmT (ex1 e)).length<=_;rw [Ex.counts];omega
 have hj:=RE ([44,32]:Str) (ex.map tmT);have hs:=SP ex he';have hl2:=XT ex;rw [bJ] at hj;rw [nS,AK];have e2:([44,32]:Str).length=2:=rfl;rw [e2] at hj;exact aU8 _ _ _ _ hn' hf' he0 (bD hj (by omega)) hx PD RT
theorem aU9 (s:Fs):∀ W,(Instr.field 157 (.agg (fsC s).toArray) 0).run prg W=.ok (.int .u8 (s.lv:Nat)) W:=λ_=>by kernel_rfl
theorem bR1 (s:Fs):∀ W,(Instr.field 157 (.agg (fsC s).toArray) 3).run prg W=.ok (.bool s.wn) W:=λ_=>by kernel_rfl
section
variable {op:UInt8} {nm fd:Str} {a b:Int64} {ex:List Ex} {args:List Fm}
theorem aM0 (h:(!(cJ op).wn)=true):rO (.mk op nm fd a b ex args)=[]:=by
 unfold rO;exact aL (show (!(cJ op).wn || decide (b.toInt<0))=true by rw [h];rfl)
theorem aL9 (h:(!(cJ op).wn)=false) (h2:decide (b.toInt<0)=true):rO (.mk op nm fd a b ex args)=[]:=by
 unfold rO;exact aL (show (!(cJ op).wn || decide (b.toInt<0))=true by rw [h,h2];rfl)
theorem aL8 (h:(!(cJ op).wn)=false) (h2:decide (b.toInt<0)=false):rO (.mk op nm fd a b ex args)=([91]:Str)++Lib.itoa a.toInt++([44,32]:Str)++Lib.itoa b.toInt++([93]:Str):=by
 unfold rO;exact aG (show ¬ (!(cJ op).wn || decide (b.toInt<0))=true by rw [h,h2];decide)
end
theorem JR (H:Hp) (G:Gf H) (gq:Gq H) (f:Fm) (cs:List Value) (w:World) (h:Rep H (dFm .u8 f) cs) (hA:Agr H w):Calls prg 91 #[.agg cs.toArray] w λr w'=>r=.returned (cH (rO f))/\Ext w w':=by
 obtain ⟨op,nm,fd,a,b,ex,args⟩:=f;obtain ⟨p1,c1,p2,c2,rfl,hs1,hs2,hnm,hfd⟩:=iB h;have hi1:=rR a;have hi2:=rR b;refine Sx.enter (H:=H) func91 rfl ntmps91 rfl hA ?_;refine .sr<|.bx Z Z Z λb1=>.aq Z<|.sq<|.sr<|.fA Z eH<|.lD Z iA Hm Z<|.yw (.call (v:=.agg (fsC (cJ op)).toArray) qV Z (λW s=>oM H G op W s.agr))<|.yw (.fld Z (bR1 _))<|.yw (.not Z)<|.mv Z<|.b2 (λh8=>?_) (λh8=>?_)
 ·try simp only [dt] at h8
  refine .gG<|.gG<|.gG<|.yw (.pickT Z Z)<|.nt<|.cT Z<|.sr<|.az Z<|.tR<|?_
  refine y9 Z Z λW s=>⟨?_,s.ext⟩
  first
   | (rw [aL9 h8 h12];rfl)
   | (rw [aL8 h8 h12];rfl)
   | (rw [aM0 h8];rfl)
 try simp only [df] at h8
 refine .gy (.fieldAddr Z eS)<|.gy (.load Z cS Hm Z)<|.gy (.lss Z Z)<|.yw (.pickF Z Z)<|.nt<|.cd Z (λh12=>?_) (λh12=>?_)
 ·refine .sr<|.az Z<|.tR<|?_
  refine y9 Z Z λW s=>⟨?_,s.ext⟩
  first
   | (rw [aL9 h8 h12];rfl)
   | (rw [aL8 h8 h12];rfl)
   | (rw [aM0 h8];rfl)
 refine .sk<|.tN<|.sq<|.fL 10 [(0,0),(1,0),(2,0),(3,0),(4,0),(5,0),(6,0),(7,0),(8,0),(9,0)]<|.fA Z eX<|.lD Z cS Hm Z<|.yw (.call AD Z (λW s=>FN H gq a W s.agr))<|.yw (.app Z Z (by (try simp only [aF,aJ,aM]);omega))<|.yw (.app Z Z (by (try simp only [aF,aJ,aM]);omega))<|.fA Z eS<|.lD Z cS Hm Z<|.yw (.call AD Z (λW s=>FN H gq b W s.agr))<|.yw (.app Z Z (by (try simp only [aF,aJ,aM]);omega))<|.yw (.app Z Z (by (try simp only [aF,aJ,aM]);omega))<|.fn (tl:=[_]) Z<|.az Z<|?_
 refine y9 Z Z λW s=>⟨?_,s.ext⟩
 first
  | (rw [aL9 h8 h12];rfl)
  | (rw [aL8 h8 h12];rfl)
  | (rw [aM0 h8];rfl)
theorem OJ (H:Hp) (gq:Gq H) (f:Fm) (cs:List Value) (w:World) (h:Rep H (dFm .u8 f) cs) (hA:Agr H w):Calls prg 93 #[.agg cs.toArray] w λr w'=>r=.returned (cH (GF f))/\Ext w w':=by
 obtain ⟨op,nm,fd,a,b,ex,args⟩:=f;obtain ⟨p1,c1,p2,c2,rfl,hs1,hs2,hnm,hfd⟩:=iB h;have hi1:=rR a;have hi2:=rR b;refine Sx.enter (H:=H) func93 rfl ntmps93 rfl hA ?_;refine .sr<|.bx Z Z Z λb1=>.aq Z<|.sq<|.fL 13 [(0,0),(1,0),(2,0),(3,0),(4,0),(5,0),(6,0),(7,0),(8,0),(9,0),(10,0),(11,0),(12,0)]<|.fA Z fX<|.lD Z cZ Hm Z<|.yw (.app Z Z (by (try simp only [aF,aJ,aM]);omega))<|.yw (.app Z Z (by (try simp only [aF,aJ,aM]);omega))<|.fA Z eX<|.lD Z cS Hm Z<|.yw (.call AD Z (λW s=>FN H gq a W s.agr))<|.yw (.app Z Z (by (try simp only [aF,aJ,aM]);omega))<|.yw (.app Z Z (by (try simp only [aF,aJ,aM]);omega))<|.fA Z eS<|.lD Z cS Hm Z<|.yw (.call AD Z (λW s=>FN H gq b W s.agr))<|.yw (.app Z Z (by (try simp only [aF,aJ,aM]);omega))<|.fn (tl:=[_]) Z<|.az Z<|?_
 refine y9 Z Z λW s=>⟨?_,s.ext⟩
 first
  | (rfl)
variable {a:Int64}
theorem vR (H:Hp) (G:Gf H) {op:UInt8} {nm fd:Str} {b:Int64} {ex:List Ex} {args:List Fm} (i k:Nat) (hk:i<args.length) (ht:(∀ (cs:List Value) (W:World),Rep H (dFm .u8 args[i]) cs->Fm.all jX args[i]=true->(fmT args[i]).length<=1000000000->Agr H W->Calls prg 48 #[.agg cs.toArray] W λr W'=>r=.returned (cH (fmT args[i]))/\Ext W W')) (cs:List Value) (w:World) (h:Rep H (dFm .u8 (.mk op nm fd a b ex args)) cs) (hok:Fm.all jX args[i]=true) (hl:(fmT args[i]).length<=1000000000) (hA:Agr H w) :
 Calls prg 92 #[.agg cs.toArray,iN i,.int .u8 (k:Nat)] w λr w'=>r=.returned (cH (pfW k args[i]))/\Ext w w':=by
 obtain ⟨p1,c1,p2,c2,rfl,hs1,hs2,hnm,hfd⟩:=iB h;have hcap:=hs2.cap;obtain ⟨bE,oE,cE,hpE,rE,lE,mE⟩:=hs2.elem (kN (f:=dFm .u8) hk);cases hpE;generalize ef:args[i]=g at rE ht hok hl|-;obtain ⟨op0,nm0,fd0,a0,b0,ex0,args0⟩:=g;obtain ⟨q1,d1,q2,d2,rfl,g1,g2,gn,gf⟩:=iB rE;clear ef;have ef:=@id True trivial;refine Sx.enter (H:=H) func92 rfl ntmps92 rfl hA ?_;refine .sr<|.bx Z Z Z λb3=>.a Z Z<|.ns<|.fA Z cU<|.lD Z eU Hm Z<|.mv Z<|.yw (.indexSl eG Z Z (i:=i) Z hk (q:=oE+i * 7) Z)<|.yw (.loadMW Z bZ mE lE)<|.al dX Z λb7=>.sX .head Z Z cV Z<|.nt<|.sq<|.sr<|.fA Z eH<|.lD Z iA Hm Z<|.yw (.call (v:=.agg (fsC (cJ _)).toArray) qV Z (λW s=>oM H G _ W s.agr))<|.yw (.fld Z (aU9 _))<|.mv Z<|.yw (.lss Z Z)<|.nt<|.cd Z (λh18=>?_) (λh18=>?_)
 ·have h18:(cJ op0).lv<k:=by have:=aH h18;omega
  refine .sr<|.yw (.loadW Z bZ Hm Z)<|.yw (.call CM Z (λW s=>ht _ W rE hok hl s.agr))<|.yw (.app Z Z (by (try simp only [aF,aJ,aM]);omega))<|.yw (.app Z Z (by (try simp only [aF,aJ,aM]);omega))<|.az Z<|.tR<|?_
  refine y9 Z Z λW s=>⟨?_,s.ext⟩
  first
   | (unfold pfW;rw [show decide ((cJ (Fm.op (.mk op0 nm0 fd0 a0 b0 ex0 args0))).lv<k)=true from aR h18];rfl)
   | (unfold pfW;rw [show decide ((cJ (Fm.op (.mk op0 nm0 fd0 a0 b0 ex0 args0))).lv<k)=false from aP h18];rfl)
 have h18:¬ (cJ op0).lv<k:=λe=>aN h18 (by omega);refine .sk<|.tN<|.sr<|.yw (.loadW Z bZ Hm Z)<|.yw (.call CM Z (λW s=>ht _ W rE hok hl s.agr))<|.az Z<|?_
 refine y9 Z Z λW s=>⟨?_,s.ext⟩
 first
  | (unfold pfW;rw [show decide ((cJ (Fm.op (.mk op0 nm0 fd0 a0 b0 ex0 args0))).lv<k)=true from aR h18];rfl)
  | (unfold pfW;rw [show decide ((cJ (Fm.op (.mk op0 nm0 fd0 a0 b0 ex0 args0))).lv<k)=false from aP h18];rfl)
variable {n:Nat}
theorem wu8 (h:n<255):IntKind.u8.wrap ((n:Int)+1)=((n+1:Nat):Int):=by
 have key:∀ i∈List.range 256,IntKind.u8.wrap (i:Int)=(i:Int):=by decide +kernel
 exact key (n+1) (bY.2 (by omega))
variable {k:Nat}
theorem WL {l:List Ex} (h:k<l.length):l.take (k+1)=l.take k++[l[k]]:=by rw [List.take_succ,List.getElem?_eq_getElem h];rfl
theorem bP4 (W:World) (b o c:Nat) (xs:List Str) (h:∀ (j:Nat) x,xs[j]? = some x->W.cell? ⟨b,o+j,none⟩=some (cH x)) (hb:b<W.heap.size) (hN:xs.length<=140737488355328) (hc:xs.length<=c) (hl:(wP ([44,32]:Str) xs).length<=140737488355328) :
 Calls prg 90 #[.slice (some ⟨b,o,none⟩) xs.length c,cH [44,32]] W λe w'=>e=.returned (cH (wP ([44,32]:Str) xs))/\Ext W w':=by
 have e1:((xs.map λl=>(⟨l.toArray⟩:ByteArray)).map (·.data.toList))=xs:=by simp [Function.comp_def]
 have h2:=Tryz.strings_Join b o c (xs.map λl=>(⟨l.toArray⟩:ByteArray)) ⟨#[44,32]⟩ W (λj x e=>by
  rw [List.getElem?_map] at e;cases e2:xs[j]? with
  | none=>rw [e2] at e;cases e
  | some y=>rw [e2] at e;cases e;exact h j y e2) hb (by simpa using hN) (by simpa using hc) (by rw [e1,KZ];exact hl)
 rw [e1,bJ,KZ] at h2;exact h2.mono λe w' ⟨a,k⟩=>⟨a,Ext.of_below k⟩
variable {w0 W:World} {bs:List Res} {T:TypeId}
theorem aS9 {r:Value} (xs:List Str) (hn:xs.length=n) (s:St H w0 bs W) (hm:Res.row T 1 r n (xs.map cH)∈bs) (hN:xs.length<=1000) (hl:(wP ([44,32]:Str) xs).length<=140737488355328) :
 Calls prg 90 #[r,cH [44,32]] W λe w'=>e=.returned (cH (wP ([44,32]:Str) xs))/\Ext W w':=by
 have ho:W.ownsRow w0.heap.size T 1 r n (xs.map cH):=(s.own _ hm).1;subst hn;rcases ho.2 with ⟨hr,h0⟩ | ⟨g,cap,cur,hr,_,hg,hc,_⟩
 ·obtain rfl:=bI h0;subst hr;exact (Tryz.strings_Join_none none 0 ⟨#[44,32]⟩ W).mono λe w' ⟨h1,h2⟩=>⟨h1,h2 ▸ Ext.refl W⟩
 ·subst hr;refine bP4 W g 0 cap xs (λj x e=>?_) ?_ (by omega) hc hl
  ·have:=World.ownsRow.cells ho (g:=g) rfl j (cH x) (by rw [List.getElem?_map,e];rfl);rw [Addr.add_lit,dL] at this;rw [dL];exact this
  ·exact (Array.getElem?_eq_some_iff.1 hg).1
set_option maxHeartbeats 4000000 in
theorem aG3 (H:Hp) (G:Gf H) (gq:Gq H) (f:Fm):(∀ (cs:List Value) (W:World),Rep H (dFm .u8 f) cs->Fm.all jX f=true->(fmT f).length<=1000000000->Agr H W->Calls prg 48 #[.agg cs.toArray] W λr W'=>r=.returned (cH (fmT f))/\Ext W W'):=by
 induction f using Fm.ind with | _ op nm fd a b ex args ih
 intro cs w h hok hl hA;obtain ⟨p1,c1,p2,c2,rfl,hs1,hs2,hnm,hfd⟩:=iB h;have hcap1:=hs1.cap;have hcap2:=hs2.cap;obtain ⟨hF,hG⟩:=wR hok;have hop:=aA0 hF;have hwl:=GO op;have hwn:=PD (op:=op) (nm:=nm) (fd:=fd) (a:=a) (b:=b) (ex:=ex) (args:=args);have ham:=RT (op:=op) (nm:=nm) (fd:=fd) (a:=a) (b:=b) (ex:=ex) (args:=args);refine Sx.enter (H:=H) func48 rfl ntmps48 rfl hA ?_;refine .sr<|.bx Z Z Z λb1=>.a Z Z<|.ns<|.fA Z eH<|.lD Z iA Hm Z<|.yw (.indexArr aL0 Z Z Z (by omega) (q:=op.toNat) (by omega))<|.yw (.loadM (k:=op.toNat) (v:=cH (gA op)) Z cZ G.words (by omega) (by show _=some (cH (RH.getD op.toNat []));exact zI (by show op.toNat<19;omega) []))<|.aq Z<|.sq<|.sr<|.fA Z eH<|.lD Z iA Hm Z<|.nt<|.bk<|.sr<|.yw (.eql Z Z)<|.aq Z<|.cd Z (λh15=>?_) (λh15=>?_)
 ·have q3:op=3:=aQ.1 (by have:=aH h15;show op.toNat=3;omega);obtain ⟨op0,nm0,m0,args0,he,ho0,hla,hta⟩:=aU4 hF q3;have h0:0<args0.length:=by omega
  have h1:1<args0.length:=by omega
  rw [fx3 q3 he h0 h1] at hl;simp only [aF,aJ,aM] at hl;subst he;obtain ⟨bX,oX,cX,hpX,rX,lX,mX⟩:=hs1.elem (i:=0) (d:=dEx .u8 (.mk op0 nm0 m0 args0)) rfl;cases hpX;obtain ⟨p0,c0,rfl,hs0,hn0⟩:=iM rX;have hcap0:=hs0.cap;obtain ⟨bA,oA,cA,hpA,rA,lA,mA⟩:=hs0.elem (kN (f:=dEx .u8) h0);cases hpA;obtain ⟨bB,oB,cB,hpB,rB,lB,mB⟩:=hs0.elem (kN (f:=dEx .u8) h1);cases hpB;have psy:=yG op0;refine .sr<|.fA Z cK<|.lD Z dE Hm Z<|.yw (.indexSl dO Z Z (i:=0) Z (by first | omega | exact Nat.succ_pos _) (q:=oX+0 * 4) Z)<|.yw (.loadMW Z dP mX Z)<|.al jT Z λb4=>.sX .head Z Z gC Z<|.nt<|.sq<|.fL 18 [(0,0),(1,0),(2,0),(3,0),(4,0),(5,0),(6,0),(7,0),(8,0),(9,0),(10,0),(11,0),(12,0),(13,0),(14,0),(15,0),(16,0),(17,0)]<|.fA Z eA<|.lD Z dE Hm Z<|.yw (.indexSl dO Z Z (i:=0) Z (by first | omega | exact Nat.succ_pos _) (q:=oA+0 * 4) Z)<|.yw (.loadMW Z dP mA lA)<|.yw (.call sN Z (λW s=>sT H G gq _ _ W rA (.inl (hta _ (bU h0))) (by omega) s.agr))<|.yw (.app Z Z (by (try simp only [aF,aJ,aM]);omega))<|.fA Z gQ<|.lD Z jR Hm Z<|.yw (.indexArr HW Z Z Z (by omega) (q:=op0.toNat) (by omega))<|.yw (.loadM (k:=op0.toNat) (v:=cH (xE op0)) Z cZ G.syms (by omega) (by show _=some (cH (lT.getD op0.toNat []));exact zI (by show op0.toNat<22;omega) []))<|.yw (.app Z Z (by (try simp only [aF,aJ,aM]);omega))<|.yw (.app Z Z (by (try simp only [aF,aJ,aM]);omega))<|.fA Z eA<|.lD Z dE Hm Z<|.yw (.indexSl dO Z Z (i:=1) Z (by first | omega | exact Nat.succ_pos _) (q:=oA+1 * 4) Z)<|.yw (.loadMW Z dP mB lB)<|.yw (.call sN Z (λW s=>sT H G gq _ _ W rB (.inl (hta _ (bU h1))) (by omega) s.agr))<|.yw (.app Z Z (by (try simp only [aF,aJ,aM]);omega))<|.fn (tl:=[_]) Z<|.az Z<|.bR<|.tR<|?_
  refine y9 Z Z λW s=>⟨?_,s.ext⟩
  first
   | (rw [fx3 q3 rfl h0 h1];rfl)
   | (rw [fx4 q4];rfl)
   | (rw [fx5 q5 rfl];rfl)
   | (rw [fx6 q6];rfl)
   | (rw [fx7 q7];rfl)
   | (rw [fxu qU h0];rfl)
   | (rw [fxq qQ h0];rfl)
   | (rw [IT q18 rfl h0];rfl)
   | (rw [fxb qB h0 h1];rfl)
   | (rw [fxn q3 q4 q5 q6 q7 qU qQ q18 qB])
 have q3:¬ op=3:=λe=>aN h15 (by rw [e];rfl);refine .sr<|.yw (.eql Z Z)<|.aq Z<|.cd Z (λh39=>?_) (λh39=>?_)
 ·have q4:op=4:=aQ.1 (by have:=aH h39;show op.toNat=4;omega);refine .sr<|.fA Z fX<|.lD Z cZ Hm Z<|.yw (.app Z Z (by (try simp only [aF,aJ,aM]);omega))<|.fA Z fW<|.lD Z cZ Hm Z<|.yw (.app Z Z (by (try simp only [aF,aJ,aM]);omega))<|.az Z<|.bR<|.tR<|?_
  refine y9 Z Z λW s=>⟨?_,s.ext⟩
  first
   | (rw [fx3 q3 rfl h0 h1];rfl)
   | (rw [fx4 q4];rfl)
   | (rw [fx5 q5 rfl];rfl)
   | (rw [fx6 q6];rfl)
   | (rw [fx7 q7];rfl)
   | (rw [fxu qU h0];rfl)
   | (rw [fxq qQ h0];rfl)
   | (rw [IT q18 rfl h0];rfl)
   | (rw [fxb qB h0 h1];rfl)
   | (rw [fxn q3 q4 q5 q6 q7 qU qQ q18 qB])
 have q4:¬ op=4:=λe=>aN h39 (by rw [e];rfl);refine .sr<|.yw (.eql Z Z)<|.aq Z<|.cd Z (λh47=>?_) (λh47=>?_)
 ·have q5:op=5:=aQ.1 (by have:=aH h47;show op.toNat=5;omega);obtain ⟨e0,he,hte⟩:=UT hF (.inl q5);rw [fx5 q5 he] at hl;simp only [aF,aJ,aM] at hl;subst he;obtain ⟨bX,oX,cX,hpX,rX,lX,mX⟩:=hs1.elem (i:=0) (d:=dEx .u8 e0) rfl;cases hpX

  refine .sq<|.fL 17 [(0,0),(1,0),(2,0),(3,0),(4,0),(5,0),(6,0),(7,0),(8,0),(9,0),(10,0),(11,0),(12,0),(13,0),(14,0),(15,0),(16,0)]<|.mv Z<|.yw (.app Z Z (by (try simp only [aF,aJ,aM]);omega))<|.fA Z fX<|.lD Z cZ Hm Z<|.yw (.app Z Z (by (try simp only [aF,aJ,aM]);omega))<|.yw (.app Z Z (by (try simp only [aF,aJ,aM]);omega))<|.fA Z fW<|.lD Z cZ Hm Z<|.yw (.app Z Z (by (try simp only [aF,aJ,aM]);omega))<|.yw (.app Z Z (by (try simp only [aF,aJ,aM]);omega))<|.fA Z cK<|.lD Z dE Hm Z<|.yw (.indexSl dO Z Z (i:=0) Z (by first | omega | exact Nat.succ_pos _) (q:=oX+0 * 4) Z)<|.yw (.loadMW Z dP mX lX)<|.yw (.call sN Z (λW s=>sT H G gq _ _ W rX (.inl hte) (by omega) s.agr))<|.yw (.app Z Z (by (try simp only [aF,aJ,aM]);omega))<|.yw (.app Z Z (by (try simp only [aF,aJ,aM]);omega))<|.fn (tl:=[_]) Z<|.az Z<|.bR<|.tR<|?_
  refine y9 Z Z λW s=>⟨?_,s.ext⟩
  first
   | (rw [fx3 q3 rfl h0 h1];rfl)
   | (rw [fx4 q4];rfl)
   | (rw [fx5 q5 rfl];rfl)
   | (rw [fx6 q6];rfl)
   | (rw [fx7 q7];rfl)
   | (rw [fxu qU h0];rfl)
   | (rw [fxq qQ h0];rfl)
   | (rw [IT q18 rfl h0];rfl)
   | (rw [fxb qB h0 h1];rfl)
   | (rw [fxn q3 q4 q5 q6 q7 qU qQ q18 qB])
 have q5:¬ op=5:=λe=>aN h47 (by rw [e];rfl);refine .sr<|.yw (.eql Z Z)<|.aq Z<|.cd Z (λh66=>?_) (λh66=>?_)
 ·have q6:op=6:=aQ.1 (by have:=aH h66;show op.toNat=6;omega);refine .sm Z<|.yw (.app Z Z (by (try simp only [aF,aJ,aM]);omega))<|.fA Z fX<|.lD Z cZ Hm Z<|.yw (.app Z Z (by (try simp only [aF,aJ,aM]);omega))<|.az Z<|.bR<|.tR<|?_
  refine y9 Z Z λW s=>⟨?_,s.ext⟩
  first
   | (rw [fx3 q3 rfl h0 h1];rfl)
   | (rw [fx4 q4];rfl)
   | (rw [fx5 q5 rfl];rfl)
   | (rw [fx6 q6];rfl)
   | (rw [fx7 q7];rfl)
   | (rw [fxu qU h0];rfl)
   | (rw [fxq qQ h0];rfl)
   | (rw [IT q18 rfl h0];rfl)
   | (rw [fxb qB h0 h1];rfl)
   | (rw [fxn q3 q4 q5 q6 q7 qU qQ q18 qB])
 have q6:¬ op=6:=λe=>aN h66 (by rw [e];rfl);refine .sr<|.yw (.eql Z Z)<|.aq Z<|.cd Z (λh73=>?_) (λh73=>?_)
 ·have q7:op=7:=aQ.1 (by have:=aH h73;show op.toNat=7;omega);obtain ⟨hle,hte⟩:=aU3 hF q7;rw [fx7 q7] at hl;simp only [aF,aJ,aM] at hl

  refine .sq<|?_
  refine Sx.row0 9 1 ?_;refine .rg<|.aq Z<|.sq<|.sr<|.fA Z cK<|.lD Z dE cP Z<|.yw (.lenSl dO Z)<|.mv Z<|.nt<|.bk<|.lp (X:=Nat × Value × List Value) [(1,_),(3,_),(76,_),(77,_)] ⟨Z,Z,Z,Z,Jt⟩ [_] (λz=>[(5,z.2.1),(78,iN z.1)]) (λz=>H) (λz=>[.row 9 1 z.2.1 z.1 z.2.2]) (λz=>z.1<=ex.length/\z.2.2=((ex.take z.1).map tmT).map cH) (λz=>ex.length - z.1) (0,.slice none 0 0,[]) (λ_ s=>s) ⟨Z,Z,Jt⟩ ⟨aO _,Z⟩ λz hC=>?_
  obtain ⟨k,rv,xs⟩:=z;obtain ⟨hk0,hxs⟩:=hC;dsimp only at hk0 hxs|-;subst hxs;refine .sr<|.yw (.lss Z Z)<|.nt<|.sq<|.ce Z (λh79=>?_) (λh79=>?_)
  ·have hk:k<ex.length:=by omega
   obtain ⟨bX,oX,cX,hpX,rX,lX,mX⟩:=hs1.elem (kN (f:=dEx .u8) hk);cases hpX;have hj:=aT1 ([44,32]:Str) (ex.map tmT) (tmT ex[k]) (kW.2 ⟨_,bU hk,Z⟩);exact .sk<|.tN<|.sq<|.bk<|.sr<|.yw (.indexSl dO Z Z (i:=k) Z hk (q:=oX+k * 4) Z)<|.yw (.loadMW Z dP mX lX)<|.al jT Z λb7=>.sV .head Z Z gC lX rX.one Z<|.nt<|.rg<|.mv Z<|.yw (.loadW Z dP Hm lX)<|.yw (.call sN Z (λW s=>sT H G gq _ _ W rX (hte _ (bU hk)) (by omega) s.agr))<|.bl Z (YQ _) Z λb85=>.ap (news:=[cH (tmT ex[k])]) bA3 Z (λ_=>mD) Z (.box Hm z0) Z (by simp [Value.oneCell',cH]) (by simp [maxLen];omega) (by omega) Z λr86 _=>.a Z Z<|.nl<|.bN<|.tN<|.rg<|.yw (.add Z Z w7)<|.mv Z<|.nt<|.ag (x:=(k,rv,((ex.take k).map tmT).map cH)) (k+1,r86,(((ex.take k).map tmT).map cH)++[cH (tmT ex[k])]) ⟨Z,Z,Jt⟩ ⟨Z,Z,Z,Z,Jt⟩ (λ_ s=>s.pick [2,3] [_,_] Z Z) ⟨hk,by rw [WL hk,bV,bV];rfl⟩ (by omega)
  obtain rfl:k=ex.length:=by omega
  rw [dD];refine .ex<|.eb<|.sq<|.fL 14 [(0,0),(1,0),(2,0),(3,0),(4,0),(5,0),(6,0),(7,0),(8,0),(9,0),(10,0),(11,0),(12,0),(13,0)]<|.mv Z<|.yw (.app Z Z (by (try simp only [aF,aJ,aM]);omega))<|.fA Z fX<|.lD Z cZ cP Z<|.yw (.app Z Z (by (try simp only [aF,aJ,aM]);omega))<|.yw (.app Z Z (by (try simp only [aF,aJ,aM]);omega))<|.fA Z fW<|.lD Z cZ cP Z<|.yw (.app Z Z (by (try simp only [aF,aJ,aM]);omega))<|.yw (.app Z Z (by (try simp only [aF,aJ,aM]);omega))<|.mv Z<|.yw (.call aJ1 Z (λW s=>aS9 (ex.map tmT) (bJ ..) s Hm (by rw [bJ];omega) (by omega)))<|.yw (.app Z Z (by (try simp only [aF,aJ,aM]);omega))<|.yw (.app Z Z (by (try simp only [aF,aJ,aM]);omega))<|.fn (tl:=[_]) Z<|.az Z<|.bR<|.tR<|?_
  refine y9 Z Z λW s=>⟨?_,s.ext⟩
  first
   | (rw [fx3 q3 rfl h0 h1];rfl)
   | (rw [fx4 q4];rfl)
   | (rw [fx5 q5 rfl];rfl)
   | (rw [fx6 q6];rfl)
   | (rw [fx7 q7];rfl)
   | (rw [fxu qU h0];rfl)
   | (rw [fxq qQ h0];rfl)
   | (rw [IT q18 rfl h0];rfl)
   | (rw [fxb qB h0 h1];rfl)
   | (rw [fxn q3 q4 q5 q6 q7 qU qQ q18 qB])
 have q7:¬ op=7:=λe=>aN h73 (by rw [e];rfl);refine .cu (X:=Bool) [(1,_),(3,_),(14,_)] ⟨Z,Z,Z,Jt⟩ (λz=>[(102,.bool z)]) (λz=>H) (λz=>[.box b1 [.int .u8 op.toNat,cH nm,cH fd,.int .i64 a.toInt,.int .i64 b.toInt,.slice p1 ex.length c1,.slice p2 args.length c2] 35]) (λz=>z=decide (op=8\/op=12\/op=13\/op=14)) ?_ λz hC=>?_
 ·
  refine .sr<|.yw (.eql Z Z)<|.aq Z<|.cr Z (λh102=>?_) (λh102=>?_)
  ·have qu:op=8:=aQ.1 (by have:=aH h102;show op.toNat=8;omega);exact .sk<|.tN<|.me _ ⟨Z,Jt⟩ ⟨Z,Z,Z,Jt⟩ (λ_ s=>s) (by first | (rw [qu];rfl) | (simp only [qu8,qu12,qu13,false_or];exact k8 (m:=14) (by decide)))
  have qu8:¬ op=8:=λe=>aN h102 (by rw [e];rfl);refine .sr<|.yw (.eql Z Z)<|.aq Z<|.cr Z (λh102=>?_) (λh102=>?_)
  ·have qu:op=12:=aQ.1 (by have:=aH h102;show op.toNat=12;omega);exact .sk<|.tN<|.me _ ⟨Z,Jt⟩ ⟨Z,Z,Z,Jt⟩ (λ_ s=>s) (by first | (rw [qu];rfl) | (simp only [qu8,qu12,qu13,false_or];exact k8 (m:=14) (by decide)))
  have qu12:¬ op=12:=λe=>aN h102 (by rw [e];rfl);refine .sr<|.yw (.eql Z Z)<|.aq Z<|.cr Z (λh102=>?_) (λh102=>?_)
  ·have qu:op=13:=aQ.1 (by have:=aH h102;show op.toNat=13;omega);exact .sk<|.tN<|.me _ ⟨Z,Jt⟩ ⟨Z,Z,Z,Jt⟩ (λ_ s=>s) (by first | (rw [qu];rfl) | (simp only [qu8,qu12,qu13,false_or];exact k8 (m:=14) (by decide)))
  have qu13:¬ op=13:=λe=>aN h102 (by rw [e];rfl);exact .rg<|.yw (.eql Z Z)<|.aq Z<|.me _ ⟨Z,Jt⟩ ⟨Z,Z,Z,Jt⟩ (λ_ s=>s) (by first | (rw [qu];rfl) | (simp only [qu8,qu12,qu13,false_or];exact k8 (m:=14) (by decide)))
 have eqU:=hC;refine .cr Z (λh102=>?_) (λh102=>?_)
 ·have qU:(op=8\/op=12\/op=13\/op=14):=by rw [h102] at eqU;exact aH eqU.symm
  have har:=(kB hF).2.1;rw [ar1 ((by rcases qU with h | h | h | h <;> simp [h]))] at har;have h0:0<args.length:=by omega
  have hok0:=hG _ (bU h0);rw [fxu qU h0] at hl;simp only [aF,aJ,aM] at hl;have pl:=JF 5 args[0]

  refine .sq<|.fL 8 [(0,0),(1,0),(2,0),(3,0),(4,0),(5,0),(6,0),(7,0)]<|.mv Z<|.yw (.loadW Z bZ Hm Z)<|.yw (.call OS Z (λW s=>JR H G gq _ _ W h s.agr))<|.yw (.app Z Z (by (try simp only [aF,aJ,aM]);omega))<|.yw (.app Z Z (by (try simp only [aF,aJ,aM]);omega))<|.yw (.loadW Z bZ Hm Z)<|.yw (.call CK Z (λW s=>vR H G 0 5 h0 (ih _ (bU h0)) _ W h hok0 (by omega) s.agr))<|.yw (.app Z Z (by (try simp only [aF,aJ,aM]);omega))<|.fn (tl:=[_]) Z<|.az Z<|.bR<|.tR<|?_
  refine y9 Z Z λW s=>⟨?_,s.ext⟩
  first
   | (rw [fx3 q3 rfl h0 h1];rfl)
   | (rw [fx4 q4];rfl)
   | (rw [fx5 q5 rfl];rfl)
   | (rw [fx6 q6];rfl)
   | (rw [fx7 q7];rfl)
   | (rw [fxu qU h0];rfl)
   | (rw [fxq qQ h0];rfl)
   | (rw [IT q18 rfl h0];rfl)
   | (rw [fxb qB h0 h1];rfl)
   | (rw [fxn q3 q4 q5 q6 q7 qU qQ q18 qB])
 have qU:¬ (op=8\/op=12\/op=13\/op=14):=by rw [h102] at eqU;exact aN eqU.symm
 refine .cu (X:=Bool) [(1,_),(3,_),(14,_)] ⟨Z,Z,Z,Jt⟩ (λz=>[(115,.bool z)]) (λz=>H) (λz=>[.box b1 [.int .u8 op.toNat,cH nm,cH fd,.int .i64 a.toInt,.int .i64 b.toInt,.slice p1 ex.length c1,.slice p2 args.length c2] 35]) (λz=>z=decide (op=16\/op=17)) ?_ λz hC=>?_
 ·
  refine .sr<|.yw (.eql Z Z)<|.aq Z<|.cr Z (λh115=>?_) (λh115=>?_)
  ·have qq:op=16:=aQ.1 (by have:=aH h115;show op.toNat=16;omega);exact .sk<|.tN<|.me _ ⟨Z,Jt⟩ ⟨Z,Z,Z,Jt⟩ (λ_ s=>s) (by first | (rw [qq];rfl) | (simp only [qq16,false_or];exact k8 (m:=17) (by decide)))
  have qq16:¬ op=16:=λe=>aN h115 (by rw [e];rfl);exact .rg<|.yw (.eql Z Z)<|.aq Z<|.me _ ⟨Z,Jt⟩ ⟨Z,Z,Z,Jt⟩ (λ_ s=>s) (by first | (rw [qq];rfl) | (simp only [qq16,false_or];exact k8 (m:=17) (by decide)))
 have eqQ:=hC;refine .cr Z (λh115=>?_) (λh115=>?_)
 ·have qQ:(op=16\/op=17):=by rw [h115] at eqQ;exact aH eqQ.symm
  have har:=(kB hF).2.1;rw [ar1 ((by rcases qQ with h | h <;> simp [h]))] at har;have h0:0<args.length:=by omega
  have hok0:=hG _ (bU h0);rw [fxq qQ h0] at hl;simp only [aF,aJ,aM] at hl;have pl:=JF 5 args[0]

  refine .sq<|.fL 8 [(0,0),(1,0),(2,0),(3,0),(4,0),(5,0),(6,0),(7,0)]<|.mv Z<|.yw (.loadW Z bZ Hm Z)<|.yw (.call OQ Z (λW s=>OJ H gq _ _ W h s.agr))<|.yw (.app Z Z (by (try simp only [aF,aJ,aM]);omega))<|.yw (.app Z Z (by (try simp only [aF,aJ,aM]);omega))<|.yw (.loadW Z bZ Hm Z)<|.yw (.call CK Z (λW s=>vR H G 0 5 h0 (ih _ (bU h0)) _ W h hok0 (by omega) s.agr))<|.yw (.app Z Z (by (try simp only [aF,aJ,aM]);omega))<|.fn (tl:=[_]) Z<|.az Z<|.bR<|.tR<|?_
  refine y9 Z Z λW s=>⟨?_,s.ext⟩
  first
   | (rw [fx3 q3 rfl h0 h1];rfl)
   | (rw [fx4 q4];rfl)
   | (rw [fx5 q5 rfl];rfl)
   | (rw [fx6 q6];rfl)
   | (rw [fx7 q7];rfl)
   | (rw [fxu qU h0];rfl)
   | (rw [fxq qQ h0];rfl)
   | (rw [IT q18 rfl h0];rfl)
   | (rw [fxb qB h0 h1];rfl)
   | (rw [fxn q3 q4 q5 q6 q7 qU qQ q18 qB])
 have qQ:¬ (op=16\/op=17):=by rw [h115] at eqQ;exact aN eqQ.symm
 refine .sr<|.yw (.eql Z Z)<|.aq Z<|.cd Z (λh126=>?_) (λh126=>?_)
 ·have q18:op=18:=aQ.1 (by have:=aH h126;show op.toNat=18;omega);obtain ⟨e0,he,hte⟩:=UT hF (.inr q18);have har:=(kB hF).2.1;rw [ar1 ((by simp [q18]))] at har;have h0:0<args.length:=by omega
  have hok0:=hG _ (bU h0);rw [IT q18 he h0] at hl;simp only [aF,aJ,aM] at hl;obtain ⟨bE,oE,cE,hpE,rE,lE,mE⟩:=hs2.elem (kN (f:=dFm .u8) h0);cases hpE;subst he;obtain ⟨bX,oX,cX,hpX,rX,lX,mX⟩:=hs1.elem (i:=0) (d:=dEx .u8 e0) rfl;cases hpX

  refine .sq<|.fL 18 [(0,0),(1,0),(2,0),(3,0),(4,0),(5,0),(6,0),(7,0),(8,0),(9,0),(10,0),(11,0),(12,0),(13,0),(14,0),(15,0),(16,0),(17,0)]<|.mv Z<|.yw (.loadW Z bZ Hm Z)<|.yw (.call OQ Z (λW s=>OJ H gq _ _ W h s.agr))<|.yw (.app Z Z (by (try simp only [aF,aJ,aM]);omega))<|.yw (.app Z Z (by (try simp only [aF,aJ,aM]);omega))<|.fA Z cU<|.lD Z eU Hm Z<|.yw (.indexSl eG Z Z (i:=0) Z (by omega) (q:=oE+0 * 7) Z)<|.yw (.loadMW Z bZ mE lE)<|.yw (.call CM Z (λW s=>ih _ (bU h0) _ W rE hok0 (by omega) s.agr))<|.yw (.app Z Z (by (try simp only [aF,aJ,aM]);omega))<|.yw (.app Z Z (by (try simp only [aF,aJ,aM]);omega))<|.fA Z cK<|.lD Z dE Hm Z<|.yw (.indexSl dO Z Z (i:=0) Z (by first | omega | exact Nat.succ_pos _) (q:=oX+0 * 4) Z)<|.yw (.loadMW Z dP mX lX)<|.yw (.call sN Z (λW s=>sT H G gq _ _ W rX (.inl hte) (by omega) s.agr))<|.yw (.app Z Z (by (try simp only [aF,aJ,aM]);omega))<|.fn (tl:=[_]) Z<|.az Z<|.bR<|.tR<|?_
  refine y9 Z Z λW s=>⟨?_,s.ext⟩
  first
   | (rw [fx3 q3 rfl h0 h1];rfl)
   | (rw [fx4 q4];rfl)
   | (rw [fx5 q5 rfl];rfl)
   | (rw [fx6 q6];rfl)
   | (rw [fx7 q7];rfl)
   | (rw [fxu qU h0];rfl)
   | (rw [fxq qQ h0];rfl)
   | (rw [IT q18 rfl h0];rfl)
   | (rw [fxb qB h0 h1];rfl)
   | (rw [fxn q3 q4 q5 q6 q7 qU qQ q18 qB])
 have q18:¬ op=18:=λe=>aN h126 (by rw [e];rfl);refine .cu (X:=Bool) [(1,_),(3,_)] ⟨Z,Z,Jt⟩ (λz=>[(146,.bool z)]) (λz=>H) (λz=>[.box b1 [.int .u8 op.toNat,cH nm,cH fd,.int .i64 a.toInt,.int .i64 b.toInt,.slice p1 ex.length c1,.slice p2 args.length c2] 35]) (λz=>z=decide (op=15\/op=9\/op=10\/op=11)) ?_ λz hC=>?_
 ·
  refine .sr<|.yw (.eql Z Z)<|.aq Z<|.cr Z (λh146=>?_) (λh146=>?_)
  ·have qb:op=15:=aQ.1 (by have:=aH h146;show op.toNat=15;omega);exact .sk<|.tN<|.me _ ⟨Z,Jt⟩ ⟨Z,Z,Jt⟩ (λ_ s=>s) (by first | (rw [qb];rfl) | (simp only [qb15,qb9,qb10,false_or];exact k8 (m:=11) (by decide)))
  have qb15:¬ op=15:=λe=>aN h146 (by rw [e];rfl);refine .sr<|.yw (.eql Z Z)<|.aq Z<|.cr Z (λh146=>?_) (λh146=>?_)
  ·have qb:op=9:=aQ.1 (by have:=aH h146;show op.toNat=9;omega);exact .sk<|.tN<|.me _ ⟨Z,Jt⟩ ⟨Z,Z,Jt⟩ (λ_ s=>s) (by first | (rw [qb];rfl) | (simp only [qb15,qb9,qb10,false_or];exact k8 (m:=11) (by decide)))
  have qb9:¬ op=9:=λe=>aN h146 (by rw [e];rfl);refine .sr<|.yw (.eql Z Z)<|.aq Z<|.cr Z (λh146=>?_) (λh146=>?_)
  ·have qb:op=10:=aQ.1 (by have:=aH h146;show op.toNat=10;omega);exact .sk<|.tN<|.me _ ⟨Z,Jt⟩ ⟨Z,Z,Jt⟩ (λ_ s=>s) (by first | (rw [qb];rfl) | (simp only [qb15,qb9,qb10,false_or];exact k8 (m:=11) (by decide)))
  have qb10:¬ op=10:=λe=>aN h146 (by rw [e];rfl);exact .rg<|.yw (.eql Z Z)<|.aq Z<|.me _ ⟨Z,Jt⟩ ⟨Z,Z,Jt⟩ (λ_ s=>s) (by first | (rw [qb];rfl) | (simp only [qb15,qb9,qb10,false_or];exact k8 (m:=11) (by decide)))
 have eqB:=hC;refine .cr Z (λh146=>?_) (λh146=>?_)
 ·have qB:(op=15\/op=9\/op=10\/op=11):=by rw [h146] at eqB;exact aH eqB.symm
  have har:=(kB hF).2.1;rw [ar2 qB] at har;have h0:0<args.length:=by omega
  have h1:1<args.length:=by omega
  have hok0:=hG _ (bU h0);have hok1:=hG _ (bU h1);rw [fxb qB h0 h1] at hl;simp only [aF,aJ,aM] at hl;have pl:=JF (cJ op).lv args[0];have pl1:=JF ((cJ op).lv+1) args[1];have hlv:(cJ op).lv<=4:=by rcases qB with rfl | rfl | rfl | rfl <;> decide
  refine .sr<|.fA Z eH<|.lD Z iA Hm Z<|.yw (.call (v:=.agg (fsC (cJ op)).toArray) qV Z (λW s=>oM H G op W s.agr))<|.yw (.fld Z (aU9 _))<|.aq Z<|.sq<|.fL 15 [(0,0),(1,0),(2,0),(3,0),(4,0),(5,0),(6,0),(7,0),(8,0),(9,0),(10,0),(11,0),(12,0),(13,0),(14,0)]<|.yw (.loadW Z bZ Hm Z)<|.mv Z<|.yw (.call CK Z (λW s=>vR H G 0 (cJ op).lv h0 (ih _ (bU h0)) _ W h hok0 (by omega) s.agr))<|.yw (.app Z Z (by (try simp only [aF,aJ,aM]);omega))<|.mv Z<|.yw (.app Z Z (by (try simp only [aF,aJ,aM]);omega))<|.yw (.loadW Z bZ Hm Z)<|.yw (.call OS Z (λW s=>JR H G gq _ _ W h s.agr))<|.yw (.app Z Z (by (try simp only [aF,aJ,aM]);omega))<|.yw (.app Z Z (by (try simp only [aF,aJ,aM]);omega))<|.yw (.loadW Z bZ Hm Z)<|.mv Z<|.yw (.add Z Z (c:=(((cJ op).lv+1:Nat):Int)) (wu8 (by omega)))<|.yw (.call CK Z (λW s=>vR H G 1 ((cJ op).lv+1) h1 (ih _ (bU h1)) _ W h hok1 (by omega) s.agr))<|.yw (.app Z Z (by (try simp only [aF,aJ,aM]);omega))<|.fn (tl:=[_]) Z<|.az Z<|.bR<|.tR<|?_
  refine y9 Z Z λW s=>⟨?_,s.ext⟩
  first
   | (rw [fx3 q3 rfl h0 h1];rfl)
   | (rw [fx4 q4];rfl)
   | (rw [fx5 q5 rfl];rfl)
   | (rw [fx6 q6];rfl)
   | (rw [fx7 q7];rfl)
   | (rw [fxu qU h0];rfl)
   | (rw [fxq qQ h0];rfl)
   | (rw [IT q18 rfl h0];rfl)
   | (rw [fxb qB h0 h1];rfl)
   | (rw [fxn q3 q4 q5 q6 q7 qU qQ q18 qB])
 have qB:¬ (op=15\/op=9\/op=10\/op=11):=by rw [h146] at eqB;exact aN eqB.symm
 refine .sk<|.bN<|.tN<|.sm Z<|.az Z<|?_
 refine y9 Z Z λW s=>⟨?_,s.ext⟩
 first
  | (rw [fx3 q3 rfl h0 h1];rfl)
  | (rw [fx4 q4];rfl)
  | (rw [fx5 q5 rfl];rfl)
  | (rw [fx6 q6];rfl)
  | (rw [fx7 q7];rfl)
  | (rw [fxu qU h0];rfl)
  | (rw [fxq qQ h0];rfl)
  | (rw [IT q18 rfl h0];rfl)
  | (rw [fxb qB h0 h1];rfl)
  | (rw [fxn q3 q4 q5 q6 q7 qU qQ q18 qB])
theorem bE1 {e:Ex} :∀ {cs:List Value},Rep H (dEx .u8 e) cs->nlE e=true:=by
 induction e using Ex.ind with | _ op nm n args ih
 intro cs h;obtain ⟨p,c,rfl,hs,hn⟩:=iM h;unfold nlE;rw [nT,mN,aE,aD,aW];refine ⟨hn,λa ha=>?_⟩;obtain ⟨i,hi,rfl⟩:=List.getElem_of_mem ha;obtain ⟨bE,oE,cE,hpE,rE,lE,mE⟩:=hs.elem (kN (f:=dEx .u8) hi);exact ih _ (bU hi) rE
variable {f:Fm}
theorem bE0:∀ {cs:List Value},Rep H (dFm .u8 f) cs->nlF f=true:=by
 induction f using Fm.ind with | _ op nm fd a b ex args ih
 intro cs h;obtain ⟨p1,c1,p2,c2,rfl,hs1,hs2,hnm,hfd⟩:=iB h;unfold nlF;rw [oN,aE,aE,aE,aD,aD,aW,aW];refine ⟨⟨⟨hnm,hfd⟩,λe he=>?_⟩,λg hg=>?_⟩
 ·obtain ⟨i,hi,rfl⟩:=List.getElem_of_mem he;obtain ⟨bE,oE,cE,hpE,rE,lE,mE⟩:=hs1.elem (kN (f:=dEx .u8) hi);exact bE1 rE
 ·obtain ⟨i,hi,rfl⟩:=List.getElem_of_mem hg;obtain ⟨bE,oE,cE,hpE,rE,lE,mE⟩:=hs2.elem (kN (f:=dFm .u8) hi);exact ih _ (bU hi) rE
theorem bR4 (h:fN f=0):f.count<=60/\Fm.all jX f=true:=by
 unfold fN at h
 split at h
 ·cases h
 ·rename_i h1
  split at h
  ·cases h
  ·split at h
   ·cases h
   ·rename_i h3;exact ⟨Nat.le_of_not_lt λe=>h1 (.inl e),by simpa using h3⟩
theorem HF (H:Hp) (GL:Gl H) (G:Gf H) (gq:Gq H) (f:Fm) (hb:blF 600000 f=true) (cs:List Value) (w:World) (h:Rep H (dFm .u8 f) cs) (hA:Agr H w):Calls prg 19 #[.agg cs.toArray] w λr w'=>r=.returned (cH (JY f))/\Ext w w':=by
 obtain ⟨op,nm,fd,a,b,ex,args⟩:=f;obtain ⟨p1,c1,p2,c2,rfl,hs1,hs2,hnm,hfd⟩:=iB h;refine Sx.enter (H:=H) func19 rfl ntmps19 rfl hA ?_;refine .sr<|.bx Z Z Z λb1=>.aq Z<|.sq<|.sr<|.yw (.loadW Z bZ Hm Z)<|.yw (.call yS Z (λW s=>wS H GL G (.mk op nm fd a b ex args) hb _ W h s.agr))<|.yw (.neq Z Z)<|.nt<|.cd Z (λh5=>?_) (λh5=>?_)
 ·have hc:¬ fN (.mk op nm fd a b ex args)=0:=λe=>aH h5 (by rw [e];rfl);refine .sr<|.az Z<|.tR<|?_
  refine y9 Z Z λW s=>⟨?_,s.ext⟩
  first
   | (unfold JY;rw [aG hc];rfl)
   | (unfold JY;rw [aL hc])
 have hc:fN (.mk op nm fd a b ex args)=0:=by have:=aN h5;omega
 obtain ⟨hk,hF⟩:=bR4 hc;refine .sk<|.tN<|.sr<|.yw (.loadW Z bZ Hm Z)<|.yw (.call CM Z (λW s=>aG3 H G gq (.mk op nm fd a b ex args) _ W h hF (bD (bH3 _ (bE0 h)) (by omega)) s.agr))<|.az Z<|?_
 refine y9 Z Z λW s=>⟨?_,s.ext⟩
 first
  | (unfold JY;rw [aG hc];rfl)
  | (unfold JY;rw [aL hc])
theorem u8d (c k:UInt8):decide (((c.toNat:Nat):Int)=(k.toNat:Nat))=decide (c=k):=by
 rw [bH,aD,aD];exact ⟨λh=>aQ.1 (by omega),λh=>by rw [h]⟩
theorem aH2 (c:UInt8) (w:World):Calls prg 147 #[IP c] w λr w'=>r=.returned (.bool (mH c))/\Ext w w':=by
 refine y6 func147 Z ntmps147 Z ?_;refine .sr<|.a Z Z<|.ns<|.mv Z<|.yw (.cast (.eql Z Z) (congrArg Value.bool (u8d c 32)))<|.mv Z<|.b2 (λh5=>?_) (λh5=>?_)
 ·refine .gG<|.gG<|.yw (.pickT Z Z)<|.mv Z<|.gG<|.gG<|.yw (.pickT Z Z)<|.mv Z<|.gG<|.gG<|.yw (.pickT Z Z)<|.az Z<|?_
  refine y9 Z Z λW s=>⟨?_,s.ext⟩
  first
   | (unfold mH;rw [h5];rfl)
   | (unfold mH;rw [h5,h9];rfl)
   | (unfold mH;rw [h5,h9,h13];rfl)
 refine .gy (.move Z)<|.gy (.cast (.eql Z Z) (congrArg Value.bool (u8d c 9)))<|.yw (.pickF Z Z)<|.mv Z<|.b2 (λh9=>?_) (λh9=>?_)
 ·refine .gG<|.gG<|.yw (.pickT Z Z)<|.mv Z<|.gG<|.gG<|.yw (.pickT Z Z)<|.az Z<|?_
  refine y9 Z Z λW s=>⟨?_,s.ext⟩
  first
   | (unfold mH;rw [h5];rfl)
   | (unfold mH;rw [h5,h9];rfl)
   | (unfold mH;rw [h5,h9,h13];rfl)
 refine .gy (.move Z)<|.gy (.cast (.eql Z Z) (congrArg Value.bool (u8d c 10)))<|.yw (.pickF Z Z)<|.mv Z<|.b2 (λh13=>?_) (λh13=>?_)
 ·refine .gG<|.gG<|.yw (.pickT Z Z)<|.az Z<|?_
  refine y9 Z Z λW s=>⟨?_,s.ext⟩
  first
   | (unfold mH;rw [h5];rfl)
   | (unfold mH;rw [h5,h9];rfl)
   | (unfold mH;rw [h5,h9,h13];rfl)
 refine .gy (.move Z)<|.gy (.cast (.eql Z Z) (congrArg Value.bool (u8d c 13)))<|.yw (.pickF Z Z)<|.az Z<|?_
 refine y9 Z Z λW s=>⟨?_,s.ext⟩
 first
  | (unfold mH;rw [h5];rfl)
  | (unfold mH;rw [h5,h9];rfl)
  | (unfold mH;rw [h5,h9,h13];rfl)
def AZ (c:UInt8):Bool:=!decide (c=10)
theorem u8n (c k:UInt8):decide (¬ ((c.toNat:Nat):Int)=(k.toNat:Nat))=!decide (c=k):=by rw [<-u8d,decide_not]
theorem aD7 (c:UInt8) (w:World):Calls prg 149 #[IP c] w λr w'=>r=.returned (.bool (AZ c))/\Ext w w':=by
 refine y6 func149 Z ntmps149 Z ?_;refine .sr<|.a Z Z<|.ns<|.mv Z<|.yw (.cast (.neq Z Z) (congrArg Value.bool (u8n c 10)))<|.az Z<|?_
 exact y9 Z Z λW s=>⟨Z,s.ext⟩
theorem FF (q:UInt8->Bool) (c:UInt8) (r:Str):pre q (c::r)=if q c then pre q r+1 else 0:=by
 unfold pre;rw [dT]
 split <;> simp
theorem WQ:∀ (m:Str),gD false (m.drop (pre mH m))=gD false m
 | []=>rfl
 | c::r=>by
  rw [FF]
  split
  ·rename_i h;rw [oR,WQ r,NK h]
  ·rfl
theorem aO1:∀ (m:Str),gD false (m.drop (pre AZ m))=gD true m
 | []=>by rw [List.drop_nil,yI,yI]
 | c::r=>by
  rw [FF]
  split
  ·rename_i h;unfold AZ at h;rw [oR,aO1 r,aD6 (by simpa using h)]
  ·rename_i h;have e:c=10:=by unfold AZ at h;simpa using h
   subst e;rw [pV,aD5]
theorem aP9 (q:UInt8->Bool):∀ (m:Str) (c:UInt8) (r:Str),m.drop (pre q m)=c::r->q c=false
 | [],c,r,h=>by cases h
 | x::m,c,r,h=>by
  rw [FF] at h
  split at h
  ·exact aP9 q m c r (by simpa using h)
  ·rename_i hx;rw [pV] at h;injection h with h1 _
   subst h1;simpa using hx
variable {m:Str}
theorem aO0 (h:AP m [47,47]=true):gD false (m.drop (pre AZ m))=gD false m/\1<=pre AZ m:=by
 rw [BC] at h;obtain ⟨r,rfl⟩:=jB.1 h;refine ⟨?_,?_⟩
 ·rw [aO1];exact (aD4 r).symm
 ·show 1<=pre AZ (47::47::r);rw [FF,aL (by decide)];omega
theorem aD3 (h:AP (m.drop (pre mH m)) [47,47]=false):gD false m=m.drop (pre mH m):=by
 rw [<-WQ];cases e:m.drop (pre mH m) with
 | nil=>rw [yI]
 | cons c r =>
  refine pZ (aP9 _ _ _ _ e) ?_;rintro ⟨rfl,h2⟩;rw [e] at h;cases r with
  | nil=>cases h2
  | cons d r =>
   obtain rfl:d=47:=bK h2;rw [BC] at h;rw [show ([47,47]:Str).isPrefixOf (47::47::r)=true by simp [List.isPrefixOf]] at h;cases h
theorem aO2 {t:Str} {o:Nat} (ho:o<=t.length) (h:gD false t=t.drop o):vI t=o:=by
 unfold vI;rw [h,cW];omega
theorem NS (t:Str) (hl:t.length<=9223372036854775807) (w:World):Calls prg 96 #[cH t] w λr w'=>r=.returned (iN (vI t))/\Ext w w':=by
 refine y6 func96 Z ntmps96 Z ?_;refine .sr<|.a Z Z<|.ns<|.aq Z<|.bk<|.lp (X:=Nat) [(0,_)] ⟨Z,Jt⟩ [] (λo=>[(3,iN o)]) (λo=>(⟨λ_=>none,0⟩:Hp)) (λo=>[]) (λo=>o<=t.length/\gD false (t.drop o)=gD false t) (λo=>t.length - o) 0 (λ_ s=>s) ⟨Z,Jt⟩ ⟨aO _,Z⟩ λo hC=>?_
 obtain ⟨ho,hs⟩:=hC;have hp1:=AW mH (t.drop o);rw [cW] at hp1;replace hp1:(o+(pre mH (t.drop o)))<=t.length:=by omega
 refine .bk<|.sm Z<|.mv Z<|.mv Z<|.yw (.dropS iO Z Z (lo:=o) Z ho)<|.yw (.call wY Z (λW s=>wJ 147 mH YK aH2 _ (by rw [cW];omega) W))<|.yw (.add Z Z (c:=(((o+(pre mH (t.drop o))):Nat):Int)) ((w6 (by omega)).trans (by omega)))<|.aq Z<|.sq<|.sm Z<|.mv Z<|.yw (.dropS iO Z Z (lo:=(o+(pre mH (t.drop o)))) Z hp1)<|.yw (.call LX Z (λW s=>DB _ [47,47] W))<|.yw (.not Z)<|.nt<|.cd Z (λh14=>?_) (λh14=>?_)
 ·have hh:AP (t.drop (o+(pre mH (t.drop o)))) [47,47]=false:=by simpa using h14
  refine .sm Z<|.az Z<|.tR<|.bR<|.tR<|.bR<|?_
  exact y9 Z Z λW s=>⟨by rw [aO2 hp1 (by rw [<-hs,<-gW];exact aD3 (by rw [gW];exact hh))],s.ext⟩
 have hh:AP (t.drop (o+(pre mH (t.drop o)))) [47,47]=true:=by simpa using h14
 obtain ⟨hs2,hg2⟩:=aO0 hh;have hp2:=AW AZ (t.drop (o+(pre mH (t.drop o))));rw [cW] at hp2;exact .sk<|.tN<|.rg<|.mv Z<|.mv Z<|.mv Z<|.yw (.dropS iO Z Z (lo:=(o+(pre mH (t.drop o)))) Z hp1)<|.yw (.call wY Z (λW s=>wJ 149 AZ YJ aD7 _ (by rw [cW];omega) W))<|.yw (.add Z Z (c:=(((o+(pre mH (t.drop o)))+(pre AZ (t.drop (o+(pre mH (t.drop o))))):Nat):Int)) ((w6 (by omega)).trans (by omega)))<|.a Z Z<|.nl<|.bN<|.tN<|.ag ((o+(pre mH (t.drop o)))+(pre AZ (t.drop (o+(pre mH (t.drop o)))))) ⟨Z,Jt⟩ ⟨Z,Jt⟩ (λ_ s=>s) ⟨by omega,by rw [<-gW,hs2,<-gW,WQ,hs]⟩ (by omega)
theorem bG5 (H:Hp) (t:Str) (w:World) (hA:Agr H w):Calls prg 54 #[cH t] w λr w'=>∃ (b:Nat) (H':Hp),kZ H' b 0 [cH t]/\r=.returned (.func (.func 95) #[] #[.pointer (some ⟨b,0,none⟩)])/\xF H w H' w':=by
 refine Sx.enter (H:=H) func54 rfl ntmps54 rfl hA ?_;refine .sr<|.bx Z Z Z λb1=>.a Z Z<|.ns<|.yw (.mkF Z Z)<|.az Z<|?_
 refine CA λH1 u1 m1=>?_;exact y9 Z Z λW s=>⟨b1,H1,m1,Z,u1.grow s⟩
abbrev TkS:={x:Tk // x.t.length<=1000000}
theorem bG4 (H:Hp) (G:Gl H) (t:Str) (hl:t.length<=1000000000000000000) (hs:∀ x∈wM t,x.t.length<=1000000) (b:Nat) (hm:kZ H b 0 [cH t]) (w:World) (hA:Agr H w) :
 SeqStopsK Fence.wide 8 prg 95 #[.pointer (some ⟨b,0,none⟩)] (λx:TkS=>#[.agg (cTk .u8 x.1).toArray]) (KpH H) (λxs=>xs.map (·.1)=wM t) (λ_=>True) (t.length+1) w:=by
 refine Sx.seqStops (lb:=[.pointer (some ⟨b,0,none⟩)]) func95 rfl ntmps95 rfl (λW hW=>hA.ext hW) ?_;intro l Jg Jx W hJs hJxs hY hJ0;refine .sr<|.yw (.loadM Z cZ hm (k:=0) Z Z)<|.yw (.call OP Z (λW s=>NS t (by omega) W))<|.aq Z<|.bk<|.lj (X:=Nat × List TkS) (λz=>[(0,.func (.yield l) #[] #[]),(1,.pointer (some ⟨b,0,none⟩)),(3,iN z.1)]) (λz=>Jg z.2) (λz=>z.1<=t.length/\z.2.length<=z.1/\z.2.map (·.1)++toks z.1 (t.drop z.1)=wM t) (λz=>t.length - z.1) (vI t,[]) ⟨SY t,aO _,(aF6 t).symm⟩ ⟨Z,Z,Z,Jt⟩ hJ0 λz w1 hC hJ1=>?_
 obtain ⟨o,pre1⟩:=z;obtain ⟨ho,hpl,htk⟩:=hC;dsimp only at ho hpl htk hJ1|-;refine .sq<|.sm Z<|.yw (.loadM Z cZ hm (k:=0) Z Z)<|.yw (.lenS iO Z)<|.yw (.lss Z Z)<|.nt<|.ce Z (λh11=>?_) (λh11=>?_)
 ·have hlt:o<t.length:=by omega
  have hm0:t.drop o≠[]:=by intro e;have:=congrArg List.length e;rw [cW] at this;simp at this;omega
  have hrk:=vW hm0;rw [cW] at hrk;have hx5:((t.drop o).take (cI (t.drop o)).2).length<=1000000:=hs ⟨(cI (t.drop o)).1,(t.drop o).take (cI (t.drop o)).2,o⟩ (by rw [<-htk,NF hm0];simp);refine .sk<|.tN<|.sq<|.bk<|.sr<|.yw (.loadM Z cZ hm (k:=0) Z Z)<|.mv Z<|.yw (.dropS iO Z Z (lo:=o) Z (by omega))<|.yw (.call OO Z (λW s=>TE H G (t.drop o) (by rw [cW];omega) hm0 W s.agr))<|.mv Z<|.yw (.extract Z Z)<|.yw (.extract Z Z)<|.a Z Z<|.aq Z<|.sq<|.sq<|.rgW 8<|.mI Z Z<|.mI Z Z<|.yvI (.loadM Z cZ hm (k:=0) Z Z) Z<|.mI Z Z<|.mI Z Z<|.mI Z Z<|.yvI (.add Z Z (c:=((o+(cI (t.drop o)).2:Nat):Int)) ((w6 (by omega)).trans (by omega))) Z<|.yvI (.cast (.midS iO Z Z Z (lo:=o) (hi:=o+(cI (t.drop o)).2) Z Z (by omega) (by omega)) (by rw [xT,jS])) Z<|.mI Z Z<|.yvI (.build Z (IW _ _ _)) Z<|.yd Z Z Z (λW s=>hY pre1 ⟨⟨(cI (t.drop o)).1,(t.drop o).take (cI (t.drop o)).2,o⟩,hx5⟩ W (hJs _ _ _ hJ1 s.ext) (by omega)) (λw2 hj2=>?_) (λw2 hj2=>?_)
  ·have hsd:=SY ((t.drop o).drop (cI (t.drop o)).2);rw [cW,cW] at hsd;exact .yvI (.not Z) Z<|.nlI<|.tN<|.cF Z<|.sk<|.tN<|.rg<|.mv Z<|.mv Z<|.yw (.add Z Z (c:=((o+(cI (t.drop o)).2:Nat):Int)) ((w6 (by omega)).trans (by omega)))<|.a Z Z<|.nl<|.bN<|.tN<|.rg<|.mv Z<|.yw (.loadM Z cZ hm (k:=0) Z Z)<|.mv Z<|.yw (.cast (.dropS iO Z Z (lo:=o+(cI (t.drop o)).2) Z (by omega)) (by rw [<-gW];rfl))<|.yw (.call OP Z (λW s=>NS ((t.drop o).drop (cI (t.drop o)).2) (by rw [cW,cW];omega) W))<|.yw (.add Z Z (c:=((o+(cI (t.drop o)).2+vI ((t.drop o).drop (cI (t.drop o)).2):Nat):Int)) ((w6 (by omega)).trans (by omega)))<|.aq Z<|.aj (x:=(o,pre1)) (o+(cI (t.drop o)).2+vI ((t.drop o).drop (cI (t.drop o)).2),pre1++[⟨⟨(cI (t.drop o)).1,(t.drop o).take (cI (t.drop o)).2,o⟩,hx5⟩]) ⟨by dsimp only;omega,by dsimp only;rw [aF];simp;omega,by dsimp only;rw [<-htk,bV,aZ];congr 1;rw [NF hm0,show (t.drop o).drop ((cI (t.drop o)).2+vI ((t.drop o).drop (cI (t.drop o)).2))=t.drop (o+(cI (t.drop o)).2+vI ((t.drop o).drop (cI (t.drop o)).2)) by rw [dN];exact gW];rfl⟩ (by dsimp only;omega) hj2 ⟨Z,Z,Z,Jt⟩
  refine .yvI (.not Z) Z<|.nlI<|.tN<|.cT Z<|.rt<|.tR<|.bR<|.tR<|.tR<|.bR<|?_
  refine y7 Z .nil rfl λW s=>⟨⟨_,Z⟩,.inr ⟨_,Jt,hJxs _ _ _ hj2 s.ext⟩⟩
 have hoe:o=t.length:=by omega
 refine .ex<|.tE<|.tE<|.bE<|?_
 refine jA (.inr Z) rfl .nil rfl λW s=>⟨⟨_,Z⟩,.inl ⟨pre1,?_,hJs _ _ _ hJ1 s.ext⟩⟩;rw [<-htk,hoe,List.drop_length,aM3,eK]
theorem JJ (a b c d e f g:Value):∀ W,(Instr.field 157 (.agg [a,b,c,d,e,f,g].toArray) 0).run prg W=.ok a W:=λ_=>by kernel_rfl
variable {b tc:Nat} {tp:Option Addr} {ro rv:Value} {xo xv:List Value} {AR:List Res} {q:Rq}
set_option maxHeartbeats 1000000 in
theorem aT0 {l:Tks} {op:List Ov} {x:Vb} {dn:Bool} (K:Tkf H l tp tc) (Wq:Fwf l ⟨q,op,x,true,dn⟩) (S:Sq H ⟨q,op,x,true,dn⟩ xo xv AR) (G:Gf H) (h0:q.er=0) (hw:q.wrd l=true) (s:St H w0 (.box b [.slice tp l.length tc,iN q.i,ro,rv,.bool true,.bool dn,.bool x.2,iN q.off,iN q.er] 102::.row 97 11 (ro) (op.length) (xo)::.row 179 13 (rv) (x.1.length) (xv)::(AR++bs)) W) :
 Calls prg 101 #[.pointer (some ⟨b,0,none⟩)] W (Get w0 bs b l tp tc H (wQ l ⟨q,op,x,true,dn⟩)):=by
 have hq:q.i<l.length:=Wq.i;have hcap:=K.rep.cap;obtain ⟨hn1,hn2⟩:=oJ Wq K.few;dsimp only at hn1 hn2;have hne:op≠[]:=Wq.ne;refine kC func101 rfl ntmps101 rfl s ?_;obtain ⟨o,r,rfl⟩:=BA (l:=op) (by cases op with | nil=>exact (hne rfl).elim | cons a t=>exact Nat.succ_pos _);dsimp only [List.length_cons] at hn1;obtain ⟨xr,s1,s2,e2,hlo,ho1,ho2⟩:=Ops.top S.ops;try dsimp only at e2
 subst e2;refine Sx.rowCase (size:=11) (r:=ro) (e:=97) cP (Nat.succ_pos _) λg c e hkc=>?_;subst e;refine .sq<|.sm Z<|.cs (X:=Unit) lW Z (λW s=>AQ K hq (g:=g) (k:=r.length) (c:=c) (by omega) (s.pickT (hd:=[_,_,_]) (tl:=(AR++bs)) (hd':=[_,_,_]) [0,1,2] Z Z)) Z λ_ _=>.nC Z<|.fA Z tG<|.yw (.loadR1 Z jI cP (kD hlo Z))<|.nt<|.cd Z (λh8=>?_) (λh8=>?_)
 ·refine .sm Z<|.cs (X:=Unit) iR Z (λW s=>qD K hq 8 (s.pickT (hd:=[_,_,_]) (tl:=(AR++bs)) (hd':=[_,_,_]) [0,1,2] Z Z)) Z λ_ _=>.nt<|.rt<|.tR<|?_
  refine y7 Z .nil rfl λW s=>?_;have e0:wQ l (⟨q,o::r,x,true,dn⟩:Ps)=(⟨q,o::r,x,true,dn⟩:Ps).at (q.fail l 8):=by unfold wQ;rw [aL (show (dM (⟨q,o::r,x,true,dn⟩:Ps)).tm=true from h8)]
  rw [e0];exact ⟨(_,_,_,_,_,AR),⟨.refl,⟨S.ops,S.vls⟩⟩,Z,s.pickT (hd:=[_,_,_]) (tl:=(AR++bs)) (hd':=[_,_,_]) [0,1,2] rfl rfl⟩
 refine .sk<|.tN<|.sr<|.al dX Z λb2=>.nt<|.sq<|.bk<|.sm Z<|.cs (X:=Unit) dH Z (λW s=>eI K hq [115,105,110,99,101] (s.pickT (hd:=[_,_,_,_]) (tl:=(AR++bs)) (hd':=[_,_,_,_]) [1,0,2,3] Z Z)) Z λ_ _=>.aq Z<|.cd Z (λh11=>?_) (λh11=>?_)
 ·have a11:Rq.ac l [115,105,110,99,101] q=true:=h11;rw [kO a11];refine .rg<|.mv Z<|.cs (X:=Unit) EF Z (λW s=>JQ K (dC K.gd.last hq a11) 15 (s.pickT (hd:=[_,_,_,_]) (tl:=(AR++bs)) (hd':=[_,_,_,_]) [0,1,2,3] Z Z)) Z λ_ _=>.sX kP Z Z cV Z<|.nl<|.bN<|.tN<|.sr<|.fA Z eH<|.lD Z iA cP Z<|.yw (.call (v:=.agg (fsC (cJ 15)).toArray) qV Z λW s=>oM H G 15 W s.agr)<|.yw (.fld Z (JJ _ _ _ _ _ _ _))<|.yw (.conv Z kU lI (c:=((4:Nat):Int)) (by decide +kernel))<|?_
  have Wj:Fwf l ⟨(Rq.wiS l q.nx),o::r,x,true,dn⟩:=JU (q:=⟨q,o::r,x,true,dn⟩) (c:=(Rq.wiS l q.nx)) Wq (JS K.gd.last (dC K.gd.last hq a11)) (bD (Nat.le_succ _) (Mq.wiS (q:=q.nx)).i);refine .a Z Z<|.ns<|.mv Z<|.mv Z<|.cs (X:=Hp × Value × Value × List Value × List Value × List Res) oP Z (λW s=>tB K Wj S.at 4 (by omega) (St.mid (a:=[_,_,_]) (d:=[_]) (s.pickT (hd:=[_,_,_,_]) (tl:=(AR++bs)) (hd':=[_,_,_,_]) [0,2,3,1] Z Z))) Z λz9 hz9=>?_
  obtain ⟨H1,ro,rv,xo,xv,AR⟩:=z9;obtain ⟨u1,S⟩:=hz9;dsimp only at u1 S|-;refine Sx.reSt (λW s=>St.mid (a:=[_,_,_]) (d:=AR) (c:=[_]) s) ?_;obtain ⟨op7,x7,e7⟩:∃ op7 x7,jP 4 (⟨(Rq.wiS l q.nx),o::r,x,true,dn⟩:Ps)=⟨(Rq.wiS l q.nx),op7,x7,true,dn⟩:=⟨_,_,Z⟩;rw [e7] at S|-;dsimp only at S|-;have W7:Fwf l ⟨(Rq.wiS l q.nx),op7,x7,true,dn⟩:=by rw [<-e7];exact tQ (by omega) Wj rfl
  obtain ⟨hm1,hm2⟩:=oJ W7 K.few;dsimp only at hm1 hm2;have hne7:op7≠[]:=W7.ne;refine .nt<|.rg<|.mv Z<|.mv Z<|.yw (.loadW Z bZ pY Z)<|.yw (.build Z (jG _ _ _ _ _ _ _ _ _))<|.cs (X:=Option Addr × Nat) fZ Z (λW s=>mK (K.up u1.up) (JS K.gd.last (dC K.gd.last hq a11)) (by simp [Value.oneCell',cH]) (bD hm1 (by decide)) (λ_=>S.ops.tm hne7) (s.pickT (hd:=[_,_,_,_]) (tl:=(AR++bs)) (hd':=[_,_,_,_]) [0,1,2,3] Z Z)) Z λp9 _=>.nl<|?_
  refine jA (.inr Z) rfl .nil rfl λW s=>?_
  have e0:wQ l (⟨q,o::r,x,true,dn⟩:Ps)=fK ⟨6,4,false,0,q.jnF l 4⟩ (⟨(Rq.wiS l q.nx),op7,x7,true,dn⟩:Ps):=by
   obtain ⟨j1,j2,j3,_,_⟩:=UH (l:=l) (r:=q) (k:=4) (by decide) a11;unfold wQ;rw [aG (show ¬ (dM (⟨q,o::r,x,true,dn⟩:Ps)).tm=true by rw [show (dM (⟨q,o::r,x,true,dn⟩:Ps)).tm=false from h8];decide),j1,j2,j3,<-e7]
   rfl
  rw [e0];exact ⟨(_,_,_,_,_,AR),⟨u1,⟨.cons S.ops (by show ¬ (6:UInt8)=5;decide) (FmR.zero rfl rfl (aO _) (aO _)),S.vls⟩⟩,Z,s.pickT (hd:=[_,_,_,_]) (tl:=(AR++bs)) (hd':=[_,_,_]) [0,1,2] rfl rfl⟩
 have a11:Rq.ac l [115,105,110,99,101] q=false:=h11;rw [kT a11];refine .sm Z<|.cs (X:=Unit) dH Z (λW s=>eI K hq [97,110,100] (s.pickT (hd:=[_,_,_,_]) (tl:=(AR++bs)) (hd':=[_,_,_,_]) [0,1,2,3] Z Z)) Z λ_ _=>.aq Z<|.cd Z (λh16=>?_) (λh16=>?_)
 ·have a16:Rq.ac l [97,110,100] q=true:=h16;rw [kO a16];refine .rg<|.yw (.build Z (oQ _))<|.sX kP Z Z cV Z<|.nl<|.bN<|.tN<|.sr<|.fA Z eH<|.lD Z iA cP Z<|.yw (.call (v:=.agg (fsC (cJ 9)).toArray) qV Z λW s=>oM H G 9 W s.agr)<|.yw (.fld Z (JJ _ _ _ _ _ _ _))<|.yw (.conv Z kU lI (c:=((3:Nat):Int)) (by decide +kernel))<|?_
  have Wj:Fwf l ⟨q.nx,o::r,x,true,dn⟩:=JU (q:=⟨q,o::r,x,true,dn⟩) (c:=q.nx) Wq (dC K.gd.last hq a16) (Nat.le_succ _);refine .a Z Z<|.ns<|.mv Z<|.mv Z<|.cs (X:=Hp × Value × Value × List Value × List Value × List Res) oP Z (λW s=>tB K Wj S.at 3 (by omega) (St.mid (a:=[_,_,_]) (d:=[_]) (s.pickT (hd:=[_,_,_,_]) (tl:=(AR++bs)) (hd':=[_,_,_,_]) [0,2,3,1] Z Z))) Z λz9 hz9=>?_
  obtain ⟨H1,ro,rv,xo,xv,AR⟩:=z9;obtain ⟨u1,S⟩:=hz9;dsimp only at u1 S|-;refine Sx.reSt (λW s=>St.mid (a:=[_,_,_]) (d:=AR) (c:=[_]) s) ?_;obtain ⟨op7,x7,e7⟩:∃ op7 x7,jP 3 (⟨q.nx,o::r,x,true,dn⟩:Ps)=⟨q.nx,op7,x7,true,dn⟩:=⟨_,_,Z⟩;rw [e7] at S|-;dsimp only at S|-;have W7:Fwf l ⟨q.nx,op7,x7,true,dn⟩:=by rw [<-e7];exact tQ (by omega) Wj rfl
  obtain ⟨hm1,hm2⟩:=oJ W7 K.few;dsimp only at hm1 hm2;have hne7:op7≠[]:=W7.ne;refine .nt<|.rg<|.mv Z<|.mv Z<|.yw (.loadW Z bZ pY Z)<|.yw (.build Z (jG _ _ _ _ _ _ _ _ _))<|.cs (X:=Option Addr × Nat) fZ Z (λW s=>mK (K.up u1.up) (dC K.gd.last hq a16) (by simp [Value.oneCell',cH]) (bD hm1 (by decide)) (λ_=>S.ops.tm hne7) (s.pickT (hd:=[_,_,_,_]) (tl:=(AR++bs)) (hd':=[_,_,_,_]) [0,1,2,3] Z Z)) Z λp9 _=>.nl<|?_
  refine jA (.inr Z) rfl .nil rfl λW s=>?_
  have e0:wQ l (⟨q,o::r,x,true,dn⟩:Ps)=fK ⟨6,3,false,0,q.jnF l 3⟩ (⟨q.nx,op7,x7,true,dn⟩:Ps):=by
   obtain ⟨j1,j2,j3,_,_⟩:=UH (l:=l) (r:=q) (k:=3) (by decide) a16;unfold wQ;rw [aG (show ¬ (dM (⟨q,o::r,x,true,dn⟩:Ps)).tm=true by rw [show (dM (⟨q,o::r,x,true,dn⟩:Ps)).tm=false from h8];decide),j1,j2,j3,<-e7]
   rfl
  rw [e0];exact ⟨(_,_,_,_,_,AR),⟨u1,⟨.cons S.ops (by show ¬ (6:UInt8)=5;decide) (FmR.zero rfl rfl (aO _) (aO _)),S.vls⟩⟩,Z,s.pickT (hd:=[_,_,_,_]) (tl:=(AR++bs)) (hd':=[_,_,_]) [0,1,2] rfl rfl⟩
 have a16:Rq.ac l [97,110,100] q=false:=h16;rw [kT a16];refine .sm Z<|.cs (X:=Unit) dH Z (λW s=>eI K hq [111,114] (s.pickT (hd:=[_,_,_,_]) (tl:=(AR++bs)) (hd':=[_,_,_,_]) [0,1,2,3] Z Z)) Z λ_ _=>.aq Z<|.cd Z (λh20=>?_) (λh20=>?_)
 ·have a20:Rq.ac l [111,114] q=true:=h20;rw [kO a20];refine .rg<|.yw (.build Z (oQ _))<|.sX kP Z Z cV Z<|.nl<|.bN<|.tN<|.sr<|.fA Z eH<|.lD Z iA cP Z<|.yw (.call (v:=.agg (fsC (cJ 10)).toArray) qV Z λW s=>oM H G 10 W s.agr)<|.yw (.fld Z (JJ _ _ _ _ _ _ _))<|.yw (.conv Z kU lI (c:=((2:Nat):Int)) (by decide +kernel))<|?_
  have Wj:Fwf l ⟨q.nx,o::r,x,true,dn⟩:=JU (q:=⟨q,o::r,x,true,dn⟩) (c:=q.nx) Wq (dC K.gd.last hq a20) (Nat.le_succ _);refine .a Z Z<|.ns<|.mv Z<|.mv Z<|.cs (X:=Hp × Value × Value × List Value × List Value × List Res) oP Z (λW s=>tB K Wj S.at 2 (by omega) (St.mid (a:=[_,_,_]) (d:=[_]) (s.pickT (hd:=[_,_,_,_]) (tl:=(AR++bs)) (hd':=[_,_,_,_]) [0,2,3,1] Z Z))) Z λz9 hz9=>?_
  obtain ⟨H1,ro,rv,xo,xv,AR⟩:=z9;obtain ⟨u1,S⟩:=hz9;dsimp only at u1 S|-;refine Sx.reSt (λW s=>St.mid (a:=[_,_,_]) (d:=AR) (c:=[_]) s) ?_;obtain ⟨op7,x7,e7⟩:∃ op7 x7,jP 2 (⟨q.nx,o::r,x,true,dn⟩:Ps)=⟨q.nx,op7,x7,true,dn⟩:=⟨_,_,Z⟩;rw [e7] at S|-;dsimp only at S|-;have W7:Fwf l ⟨q.nx,op7,x7,true,dn⟩:=by rw [<-e7];exact tQ (by omega) Wj rfl
  obtain ⟨hm1,hm2⟩:=oJ W7 K.few;dsimp only at hm1 hm2;have hne7:op7≠[]:=W7.ne;refine .nt<|.rg<|.mv Z<|.mv Z<|.yw (.loadW Z bZ pY Z)<|.yw (.build Z (jG _ _ _ _ _ _ _ _ _))<|.cs (X:=Option Addr × Nat) fZ Z (λW s=>mK (K.up u1.up) (dC K.gd.last hq a20) (by simp [Value.oneCell',cH]) (bD hm1 (by decide)) (λ_=>S.ops.tm hne7) (s.pickT (hd:=[_,_,_,_]) (tl:=(AR++bs)) (hd':=[_,_,_,_]) [0,1,2,3] Z Z)) Z λp9 _=>.nl<|?_
  refine jA (.inr Z) rfl .nil rfl λW s=>?_
  have e0:wQ l (⟨q,o::r,x,true,dn⟩:Ps)=fK ⟨6,2,false,0,q.jnF l 2⟩ (⟨q.nx,op7,x7,true,dn⟩:Ps):=by
   obtain ⟨j1,j2,j3,_,_⟩:=UH (l:=l) (r:=q) (k:=2) (by decide) a20;unfold wQ;rw [aG (show ¬ (dM (⟨q,o::r,x,true,dn⟩:Ps)).tm=true by rw [show (dM (⟨q,o::r,x,true,dn⟩:Ps)).tm=false from h8];decide),j1,j2,j3,<-e7]
   rfl
  rw [e0];exact ⟨(_,_,_,_,_,AR),⟨u1,⟨.cons S.ops (by show ¬ (6:UInt8)=5;decide) (FmR.zero rfl rfl (aO _) (aO _)),S.vls⟩⟩,Z,s.pickT (hd:=[_,_,_,_]) (tl:=(AR++bs)) (hd':=[_,_,_]) [0,1,2] rfl rfl⟩
 have a20:Rq.ac l [111,114] q=false:=h20;rw [kT a20];refine .sm Z<|.cs (X:=Unit) dH Z (λW s=>eI K hq [105,109,112,108,105,101,115] (s.pickT (hd:=[_,_,_,_]) (tl:=(AR++bs)) (hd':=[_,_,_,_]) [0,1,2,3] Z Z)) Z λ_ _=>.aq Z<|.cd Z (λh24=>?_) (λh24=>?_)
 ·have a24:Rq.ac l [105,109,112,108,105,101,115] q=true:=h24;rw [kO a24];refine .rg<|.yw (.build Z (oQ _))<|.sX kP Z Z cV Z<|.nl<|.bN<|.tN<|.sr<|.fA Z eH<|.lD Z iA cP Z<|.yw (.call (v:=.agg (fsC (cJ 11)).toArray) qV Z λW s=>oM H G 11 W s.agr)<|.yw (.fld Z (JJ _ _ _ _ _ _ _))<|.yw (.conv Z kU lI (c:=((1:Nat):Int)) (by decide +kernel))<|?_
  have Wj:Fwf l ⟨q.nx,o::r,x,true,dn⟩:=JU (q:=⟨q,o::r,x,true,dn⟩) (c:=q.nx) Wq (dC K.gd.last hq a24) (Nat.le_succ _);refine .a Z Z<|.ns<|.mv Z<|.mv Z<|.cs (X:=Hp × Value × Value × List Value × List Value × List Res) oP Z (λW s=>tB K Wj S.at 1 (by omega) (St.mid (a:=[_,_,_]) (d:=[_]) (s.pickT (hd:=[_,_,_,_]) (tl:=(AR++bs)) (hd':=[_,_,_,_]) [0,2,3,1] Z Z))) Z λz9 hz9=>?_
  obtain ⟨H1,ro,rv,xo,xv,AR⟩:=z9;obtain ⟨u1,S⟩:=hz9;dsimp only at u1 S|-;refine Sx.reSt (λW s=>St.mid (a:=[_,_,_]) (d:=AR) (c:=[_]) s) ?_;obtain ⟨op7,x7,e7⟩:∃ op7 x7,jP 1 (⟨q.nx,o::r,x,true,dn⟩:Ps)=⟨q.nx,op7,x7,true,dn⟩:=⟨_,_,Z⟩;rw [e7] at S|-;dsimp only at S|-;have W7:Fwf l ⟨q.nx,op7,x7,true,dn⟩:=by rw [<-e7];exact tQ (by omega) Wj rfl
  obtain ⟨hm1,hm2⟩:=oJ W7 K.few;dsimp only at hm1 hm2;have hne7:op7≠[]:=W7.ne;refine .nt<|.rg<|.mv Z<|.mv Z<|.yw (.loadW Z bZ pY Z)<|.yw (.build Z (jG _ _ _ _ _ _ _ _ _))<|.cs (X:=Option Addr × Nat) fZ Z (λW s=>mK (K.up u1.up) (dC K.gd.last hq a24) (by simp [Value.oneCell',cH]) (bD hm1 (by decide)) (λ_=>S.ops.tm hne7) (s.pickT (hd:=[_,_,_,_]) (tl:=(AR++bs)) (hd':=[_,_,_,_]) [0,1,2,3] Z Z)) Z λp9 _=>.nl<|?_
  refine jA (.inr Z) rfl .nil rfl λW s=>?_
  have e0:wQ l (⟨q,o::r,x,true,dn⟩:Ps)=fK ⟨6,1,false,0,q.jnF l 1⟩ (⟨q.nx,op7,x7,true,dn⟩:Ps):=by
   obtain ⟨j1,j2,j3,_,_⟩:=UH (l:=l) (r:=q) (k:=1) (by decide) a24;unfold wQ;rw [aG (show ¬ (dM (⟨q,o::r,x,true,dn⟩:Ps)).tm=true by rw [show (dM (⟨q,o::r,x,true,dn⟩:Ps)).tm=false from h8];decide),j1,j2,j3,<-e7]
   rfl
  rw [e0];exact ⟨(_,_,_,_,_,AR),⟨u1,⟨.cons S.ops (by show ¬ (6:UInt8)=5;decide) (FmR.zero rfl rfl (aO _) (aO _)),S.vls⟩⟩,Z,s.pickT (hd:=[_,_,_,_]) (tl:=(AR++bs)) (hd':=[_,_,_]) [0,1,2] rfl rfl⟩
 have a24:Rq.ac l [105,109,112,108,105,101,115] q=false:=h24;exact absurd hw (by unfold Rq.wrd;rw [DX h0,DX h0,DX h0,DX h0,a11,a16,a20,a24];decide)
variable {xr:List Value} {j:Nat}
theorem zT {cs:List Value} {u:Value} (hl:xr.length=n) (h:cs[4+j]? = some u):(xr++cs)[n+4+j]? = some u:=by rw [dN];exact kD hl h
variable {s1 s2:Value}
theorem Ops.inv5 {o:Ov} {r:List Ov} (h:Ops H (o::r) (xr++oC o s1 s2) AR) (hk:o.kd=5):∃ AR1 xe,AR=.row 76 4 s1 o.f.ex.length xe::AR1/\Ops H r xr AR1/\s2=.slice none 0 0/\eD H 4 (o.f.ex.map (dEx .u8)) xe/\o.f.args=[]/\o.f.nm.length<=1000000/\o.f.fd.length<=1000000:=by
 generalize hx:xr++oC o s1 s2=xo at h;cases h with
 | cons h k f=>exact absurd hk k
 | arg h k a b c z s =>
  obtain ⟨e1,e2⟩:=List.append_inj' hx rfl;subst e1;simp only [fT,oH,true_and] at e2;obtain ⟨rfl,rfl⟩:=e2;exact ⟨_,_,Z,h,Z,z,a,b,c⟩
theorem PC (H:Hp):Rep H (dEx .u8 zE) [.int .u8 0,.string ⟨#[]⟩,.int .i64 0,.slice none 0 0]:=qP (op:=0) (nm:=[]) (n:=0) (args:=[]) (by decide) (Rep.empty (p:=none) (c:=0) (by decide))
variable {z:Nat} {xs news:List Value}
theorem xK {ds:List D} {d0 d:D} {vs:List Value} (hz:eD H z ds xs) (hn:eD H z [d0] news) (hd:Rep H d vs) (hl:vs.length=z) (hk:ds.length=k):eD H z (ds++[d]) (nK (xs++news) (k * z) vs):=by
 subst hk;have h:=eD.put hd hl (hz.app hn) (i:=ds.length) (by simp)
 rwa [kK _ _ (aX _),iW,pP] at h
set_option maxHeartbeats 4000000 in
theorem OG {l:Tks} {op:List Ov} {x:Vb} {dn:Bool} (K:Tkf H l tp tc) (Wq:Fwf l ⟨q,op,x,true,dn⟩) (S:Sq H ⟨q,op,x,true,dn⟩ xo xv AR) (hfew:∀ o∈op,o.f.ex.length<=600000) (s:St H w0 (.box b [.slice tp l.length tc,iN q.i,ro,rv,.bool true,.bool dn,.bool x.2,iN q.off,iN q.er] 102::.row 97 11 (ro) (op.length) (xo)::.row 179 13 (rv) (x.1.length) (xv)::(AR++bs)) W) :
 Calls prg 103 #[.pointer (some ⟨b,0,none⟩)] W (Get w0 bs b l tp tc H (lV l ⟨q,op,x,true,dn⟩)):=by
 have hq:q.i<l.length:=Wq.i;have hcap:=K.rep.cap;obtain ⟨hn1,hn2⟩:=oJ Wq K.few;dsimp only at hn1 hn2;have hne:op≠[]:=Wq.ne;obtain ⟨o,r,rfl⟩:=BA (l:=op) (by cases op with | nil=>exact (hne rfl).elim | cons a t=>exact Nat.succ_pos _);dsimp only [List.length_cons] at hn1;have hfx:=hfew o (aY ..);have hv1:1<=x.1.length:=by have:=Wq.vs;dsimp only at this;rw [this];exact Nat.le_add_left _ _
 obtain ⟨vs,bd⟩:=x;dsimp only at hv1 hn2;obtain ⟨v,V,rfl⟩:=BA hv1;dsimp only [List.length_cons] at hn2;obtain ⟨yr,t0,t1,t2,e4,VS1,V1⟩:=VR.inv S.vls;try dsimp only at e4
 subst e4;have l1:=VS1.len;refine kC func103 rfl ntmps103 rfl s ?_;obtain ⟨xr,s1,s2,e2,hlo,ho1,ho2⟩:=Ops.top S.ops;try dsimp only at e2
 subst e2;refine Sx.rowCase (size:=11) (r:=ro) (e:=97) cP (Nat.succ_pos _) λg c e hkc=>?_;subst e;refine .sm Z<|.cs (X:=Unit) lW Z (λW s=>AQ K hq (g:=g) (k:=r.length) (c:=c) (by omega) (s.pickT (hd:=[_,_,_]) (tl:=(AR++bs)) (hd':=[_,_,_]) [0,1,2] Z Z)) Z λ_ _=>.aq Z<|.bk<|.cu (X:=Bool) [(0,_),(2,_)] ⟨Z,Z,Jt⟩ (λz=>[(9,.bool z)]) (λz=>H) (λz=>(.box b [.slice tp l.length tc,iN q.i,(.slice (some ⟨g,0,none⟩) (o::r).length c),rv,.bool true,.bool dn,.bool bd,iN q.off,iN q.er] 102::.row 97 11 ((.slice (some ⟨g,0,none⟩) (o::r).length c)) ((o::r).length) ((xr++oC o s1 s2))::.row 179 13 (rv) (V.length+1) ((yr++vC v t0 t1 t2))::(AR++bs))) (λz=>z=(decide (o.kd=1) && decide ((tkf l q.i).k=0))) ?_ λz hC=>?_
 ·
  refine .rg<|.mv Z<|.nC Z<|.fA Z gP<|.yw (.loadR1 Z lY cP (kD hlo Z))<|.yw (.eql Z Z)<|.mv Z<|.b2 (λh15=>?_) (λh15=>?_)
  ·have hg:o.kd=1:=aQ.1 (by have:=aH h15;show o.kd.toNat=1;omega);exact .gy (.move Z)<|.gd Z Z<|.cs (X:=Unit) sM Z (λW s=>xI K hq  (s.pickT (hd:=[_,_,_]) (tl:=(AR++bs)) (hd':=[_,_,_]) [0,1,2] Z Z)) Z λ_ _=>.gy (.fld Z (XP _ _ _))<|.gy (.eql Z Z)<|.yw (.pickT Z Z)<|.aq Z<|.me _ ⟨Z,Jt⟩ ⟨Z,Z,Jt⟩ (λ_ s=>s) (by first | (rw [aR hg,aA];exact k80) | (rw [aP hg];rfl))
  have hg:¬ o.kd=1:=λe=>aN h15 (by rw [e];rfl);exact .gG<|.gG<|.gG<|.gG<|.yw (.pickF Z Z)<|.aq Z<|.me _ ⟨Z,Jt⟩ ⟨Z,Z,Jt⟩ (λ_ s=>s) (by first | (rw [aR hg,aA];exact k80) | (rw [aP hg];rfl))
 have e9:=hC;refine .cd Z (λh9=>?_) (λh9=>?_)
 ·rw [h9] at e9;have y9:=aE _ _ |>.mp e9.symm
  refine .rg<|.mv Z<|.nC Z<|.fA Z DK<|.st .head Z Z mU Z (nb Z) Z<|.nl<|.bN<|?_
  refine jA (.inr Z) rfl .nil rfl λW s=>?_;have e0:lV l (⟨q,o::r,(v::V,bd),true,dn⟩:Ps)=⟨q,o::r,(v::V,bd),true,true⟩:=by unfold lV;exact aL ⟨aH y9.1,aH y9.2⟩
  rw [e0];exact ⟨(_,_,_,_,_,AR),⟨.refl,⟨S.ops,S.vls⟩⟩,Z,s.pickT (hd:=[_,_,_]) (tl:=(AR++bs)) (hd':=[_,_,_]) [0,1,2] rfl rfl⟩
 rw [h9] at e9;refine .cu (X:=Bool) [(0,_),(2,_)] ⟨Z,Z,Jt⟩ (λz=>[(24,.bool z)]) (λz=>H) (λz=>(.box b [.slice tp l.length tc,iN ((if z then Rq.nx q else q).i),(.slice (some ⟨g,0,none⟩) (o::r).length c),rv,.bool true,.bool dn,.bool bd,iN ((if z then Rq.nx q else q).off),iN ((if z then Rq.nx q else q).er)] 102::.row 97 11 ((.slice (some ⟨g,0,none⟩) (o::r).length c)) ((o::r).length) ((xr++oC o s1 s2))::.row 179 13 (rv) (V.length+1) ((yr++vC v t0 t1 t2))::(AR++bs))) (λz=>z=(decide (o.kd=2) && Rq.ac l [41] q)) ?_ λz hC=>?_
 ·
  refine .rg<|.mv Z<|.nC Z<|.fA Z gP<|.yw (.loadR1 Z lY cP (kD hlo Z))<|.yw (.eql Z Z)<|.mv Z<|.b2 (λh30=>?_) (λh30=>?_)
  ·have hg:o.kd=2:=aQ.1 (by have:=aH h30;show o.kd.toNat=2;omega);exact .gy (.move Z)<|.gd Z Z<|.cs (X:=Unit) dH Z (λW s=>eI K hq [41] (s.pickT (hd:=[_,_,_]) (tl:=(AR++bs)) (hd':=[_,_,_]) [0,1,2] Z Z)) Z λ_ _=>.yw (.pickT Z Z)<|.aq Z<|.me _ ⟨Z,Jt⟩ ⟨Z,Z,Jt⟩ (λ_ s=>s) (by first | rw [aR hg,aA] | (rw [aP hg];rfl))
  have hg:¬ o.kd=2:=λe=>aN h30 (by rw [e];rfl);exact .gG<|.gG<|.yw (.pickF Z Z)<|.aq Z<|.me _ ⟨Z,Jt⟩ ⟨Z,Z,Jt⟩ (λ_ s=>s) (by first | rw [aR hg,aA] | (rw [aP hg];rfl))
 have e24:=hC;refine .cd Z (λh24=>?_) (λh24=>?_)
 ·rw [h24] at e24;have y24:=aE _ _ |>.mp e24.symm
  have hk:o.kd=2:=aH y24.1;rw [aL h24];have hk5:o.kd≠5:=by rw [hk];decide
  obtain ⟨SO,FO⟩:=Ops.inv2 S.ops hk5;refine .sm Z<|.cs (X:=Nat × Nat) EH Z (λW s=>aQ0 K (dC K.gd.last hq y24.2) V1.one (by omega) l1 (s.pickT (hd:=[_,_,_]) (tl:=(AR++bs)) (hd':=[_,_,_]) [0,2,1] Z Z)) Z λp1 _=>.al wU Z λb3=>.sW .head Z Z wW V1.one Z<|.ns<|.fA Z uH<|.st .head Z Z mU Z (nb Z) Z<|.nt<|.rg<|.mv Z<|.yw (.loadW Z wB Hm Z)<|.cs (X:=(Nat × Nat) × (Option Addr × Nat)) qF Z (λW s=>xO K (dC K.gd.last hq y24.2) (VlR.one (v:=(⟨v.tm,false,v.e,v.f⟩:Vl)) ⟨V1.e,V1.f⟩) (by omega) (by omega) hlo (s.pickT (hd:=[_,_,_,_]) (tl:=(AR++bs)) (hd':=[_,_,_,_]) [1,3,2,0] Z Z)) Z λp9 _=>.nl<|.bN<|?_
  refine jA (.inr Z) rfl .nil rfl λW s=>?_;have e0:lV l (⟨q,o::r,(v::V,bd),true,dn⟩:Ps)=⟨q.nx,r,((⟨v.tm,false,v.e,v.f⟩:Vl)::V,bd),true,dn⟩:=aB0 rfl hk y24.2;rw [e0];exact ⟨(_,_,_,_,_,AR),⟨.refl,⟨SO,.cons VS1 (v:=(⟨v.tm,false,v.e,v.f⟩:Vl)) ⟨V1.e,V1.f⟩⟩⟩,Z,s.pickT (hd:=[_,_,_,_]) (tl:=(AR++bs)) (hd':=[_,_,_]) [0,1,2] rfl rfl⟩
 rw [h24] at e24;rw [aG (by rw [h24];decide)];refine .cu (X:=Bool) [(0,_),(2,_)] ⟨Z,Z,Jt⟩ (λz=>[(40,.bool z)]) (λz=>H) (λz=>(.box b [.slice tp l.length tc,iN ((if z then Rq.nx q else q).i),(.slice (some ⟨g,0,none⟩) (o::r).length c),rv,.bool true,.bool dn,.bool bd,iN ((if z then Rq.nx q else q).off),iN ((if z then Rq.nx q else q).er)] 102::.row 97 11 ((.slice (some ⟨g,0,none⟩) (o::r).length c)) ((o::r).length) ((xr++oC o s1 s2))::.row 179 13 (rv) (V.length+1) ((yr++vC v t0 t1 t2))::(AR++bs))) (λz=>z=(decide (o.kd=3) && Rq.ac l [41] q)) ?_ λz hC=>?_
 ·
  refine .rg<|.mv Z<|.nC Z<|.fA Z gP<|.yw (.loadR1 Z lY cP (kD hlo Z))<|.yw (.eql Z Z)<|.mv Z<|.b2 (λh46=>?_) (λh46=>?_)
  ·have hg:o.kd=3:=aQ.1 (by have:=aH h46;show o.kd.toNat=3;omega);exact .gy (.move Z)<|.gd Z Z<|.cs (X:=Unit) dH Z (λW s=>eI K hq [41] (s.pickT (hd:=[_,_,_]) (tl:=(AR++bs)) (hd':=[_,_,_]) [0,1,2] Z Z)) Z λ_ _=>.yw (.pickT Z Z)<|.aq Z<|.me _ ⟨Z,Jt⟩ ⟨Z,Z,Jt⟩ (λ_ s=>s) (by first | rw [aR hg,aA] | (rw [aP hg];rfl))
  have hg:¬ o.kd=3:=λe=>aN h46 (by rw [e];rfl);exact .gG<|.gG<|.yw (.pickF Z Z)<|.aq Z<|.me _ ⟨Z,Jt⟩ ⟨Z,Z,Jt⟩ (λ_ s=>s) (by first | rw [aR hg,aA] | (rw [aP hg];rfl))
 have e40:=hC;refine .cd Z (λh40=>?_) (λh40=>?_)
 ·rw [h40] at e40;have y40:=aE _ _ |>.mp e40.symm
  have hk:o.kd=3:=aH y40.1;rw [aL h40];have hk5:o.kd≠5:=by rw [hk];decide
  obtain ⟨SO,FO⟩:=Ops.inv2 S.ops hk5;refine .sm Z<|.cs (X:=Unit) nD Z (λW s=>rU K (dC K.gd.last hq y40.2) [62,61] (s.pickT (hd:=[_,_,_]) (tl:=(AR++bs)) (hd':=[_,_,_]) [0,1,2] Z Z)) Z λ_ _=>.ns<|.mv Z<|.mv Z<|.cs (X:=Unit) sE Z (λW s=>wK K (kL K.gd.last (dC K.gd.last hq y40.2))  (s.pickT (hd:=[_,_,_]) (tl:=(AR++bs)) (hd':=[_,_,_]) [0,1,2] Z Z)) Z λ_ _=>.yw (.build Z (AG _ _))<|.bl Z (nE _ _ _ _) Z λb56=>?_
  refine Sx.freezeBoxN λH2 u2 m2=>?_;refine .nC Z<|.fA Z dK<|.fA Z cK<|.s1Q (sZ (n:=r.length * 11) (j:=9) (cs':=oC o (.slice (some ⟨b56,0,none⟩) 1 1) s2) hlo Z) Z Z mO Z kP (by rw [aF,hlo];show r.length * 11+9<r.length * 11+11;omega)<|.ns<|.mv Z<|.mv Z<|.cs (X:=Nat × Nat) wA Z (λW s=>vX (K.up u2.up) (xH K.gd.last (kL K.gd.last (dC K.gd.last hq y40.2))) V1.one V1.e.nm (by omega) l1 (s.pickT (hd:=[_,_,_]) (tl:=(AR++bs)) (hd':=[_,_,_]) [0,2,1] Z Z)) Z λp1 _=>?_
  obtain ⟨q1,q2,ef,FR⟩:=HC V1;rw [ef];refine .bl Z (qH _ _ _ _ _ _ _) Z λb63=>?_;refine Sx.freezeBoxN λH3 u3 m3=>?_;refine .nC Z<|.fA Z dK<|.fA Z cU<|.s1Q (sZ (n:=r.length * 11) (j:=10) (cs':=oC o (.slice (some ⟨b56,0,none⟩) 1 1) (.slice (some ⟨b63,0,none⟩) 1 1)) hlo Z) Z Z CJ Z mD (by rw [aF,hlo];show r.length * 11+10<r.length * 11+11;omega)<|.nt<|.rg<|.mv Z<|.mv Z<|.nC Z<|.fA Z dK<|.yw (.loadR (vs:=(cFm .u8 o.f.op o.f.nm o.f.fd o.f.a o.f.b (.slice (some ⟨b56,0,none⟩) 1 1) (.slice (some ⟨b63,0,none⟩) 1 1))) Z bZ lR Z (λj u h=>by rw [dN];exact kD hlo (by rw [Nat.add_comm 4 j];exact h)))<|.yw (.build Z (NE _ _ _ _ _ _ _ _))<|?_
  have VN:VlR H3 (⟨false,true,zE,(o.f.wEx [(.mk 1 [] ((q.nx.exS l [62,61]).nbV l) [])]).wAr [v.fm]⟩:Vl) (.slice none 0 0) (.slice (some ⟨b56,0,none⟩) 1 1) (.slice (some ⟨b63,0,none⟩) 1 1):=⟨ExR.zero rfl (aO _),⟨(Rep.mk (n:=1) (c:=1) m2 (.single (ExR.zero (e:=(.mk 1 [] ((q.nx.exS l [62,61]).nbV l) [])) rfl (aO _)).rep rfl) rfl (aX _) (by decide)).up u3.up,(Rep.mk m3 (.single ((FR.up u2.up).up u3.up).rep rfl) rfl (aX _) (by decide)),FO.nm,FO.fd⟩⟩;refine .cs (X:=(Nat × Nat) × (Option Addr × Nat)) qF Z (λW s=>xO ((K.up u2.up).up u3.up) (xH K.gd.last (kL K.gd.last (dC K.gd.last hq y40.2))) VN.one (by omega) (by omega) hlo (s.pickT (hd:=[_,_,_]) (tl:=(AR++bs)) (hd':=[_,_,_]) [0,2,1] Z Z)) Z λp9 _=>.nl<|.bN<|?_
  refine jA (.inr Z) rfl .nil rfl λW s=>?_;have e0:lV l (⟨q,o::r,(v::V,bd),true,dn⟩:Ps)=⟨((q.nx.exS l [62,61]).nbS l),r,((⟨false,true,zE,(o.f.wEx [(.mk 1 [] ((q.nx.exS l [62,61]).nbV l) [])]).wAr [v.fm]⟩:Vl)::V,bd || v.noF),true,dn⟩:=aB3 rfl hk y40.2;rw [e0];exact ⟨(_,_,_,_,_,AR),⟨(u2.trans u3),⟨(SO.up u2.up).up u3.up,.cons ((VS1.up u2.up).up u3.up) VN⟩⟩,Z,s.pickT (hd:=[_,_,_]) (tl:=(AR++bs)) (hd':=[_,_,_]) [0,1,2] rfl rfl⟩
 rw [h40] at e40;rw [aG (by rw [h40];decide)];refine .cu (X:=Bool) [(0,_),(2,_)] ⟨Z,Z,Jt⟩ (λz=>[(74,.bool z)]) (λz=>H) (λz=>(.box b [.slice tp l.length tc,iN ((if z then Rq.nx q else q).i),(.slice (some ⟨g,0,none⟩) (o::r).length c),rv,.bool true,.bool dn,.bool bd,iN ((if z then Rq.nx q else q).off),iN ((if z then Rq.nx q else q).er)] 102::.row 97 11 ((.slice (some ⟨g,0,none⟩) (o::r).length c)) ((o::r).length) ((xr++oC o s1 s2))::.row 179 13 (rv) (V.length+1) ((yr++vC v t0 t1 t2))::(AR++bs))) (λz=>z=(decide (o.kd=4) && Rq.ac l [93] q)) ?_ λz hC=>?_
 ·
  refine .rg<|.mv Z<|.nC Z<|.fA Z gP<|.yw (.loadR1 Z lY cP (kD hlo Z))<|.yw (.eql Z Z)<|.mv Z<|.b2 (λh80=>?_) (λh80=>?_)
  ·have hg:o.kd=4:=aQ.1 (by have:=aH h80;show o.kd.toNat=4;omega);exact .gy (.move Z)<|.gd Z Z<|.cs (X:=Unit) dH Z (λW s=>eI K hq [93] (s.pickT (hd:=[_,_,_]) (tl:=(AR++bs)) (hd':=[_,_,_]) [0,1,2] Z Z)) Z λ_ _=>.yw (.pickT Z Z)<|.aq Z<|.me _ ⟨Z,Jt⟩ ⟨Z,Z,Jt⟩ (λ_ s=>s) (by first | rw [aR hg,aA] | (rw [aP hg];rfl))
  have hg:¬ o.kd=4:=λe=>aN h80 (by rw [e];rfl);exact .gG<|.gG<|.yw (.pickF Z Z)<|.aq Z<|.me _ ⟨Z,Jt⟩ ⟨Z,Z,Jt⟩ (λ_ s=>s) (by first | rw [aR hg,aA] | (rw [aP hg];rfl))
 have e74:=hC;refine .cd Z (λh74=>?_) (λh74=>?_)
 ·rw [h74] at e74;have y74:=aE _ _ |>.mp e74.symm
  have hk:o.kd=4:=aH y74.1;rw [aL h74];have hk5:o.kd≠5:=by rw [hk];decide
  obtain ⟨SO,FO⟩:=Ops.inv2 S.ops hk5;refine .sm Z<|.cs (X:=Nat × Nat) nB Z (λW s=>xW K (dC K.gd.last hq y74.2) V1.one (by omega) l1 (s.pickT (hd:=[_,_,_]) (tl:=(AR++bs)) (hd':=[_,_,_]) [0,2,1] Z Z)) Z λp1 _=>.bl Z (nE _ _ _ _) Z λb86=>?_
  refine Sx.freezeBoxN λH2 u2 m2=>?_;refine .aq Z<|.sq<|.sm Z<|.nC Z<|.fA Z zW<|.yw (.loadR1 Z jR lR (kD hlo Z))<|.yw (.eql Z Z)<|.nt<|.cd Z (λh91=>?_) (λh91=>?_)
  ·have ho6:o.op=6:=aQ.1 (by have:=aH h91;show o.op.toNat=6;omega);refine .sm Z<|.mv Z<|.nC Z<|.fA Z dK<|.fA Z fX<|.yw (.loadR1 Z cZ lR (zT (j:=1) hlo Z))<|.mv Z<|.yw (.build Z (MJ _ _ _ _ _))<|.yw (.build Z (jH _ _ _ _ _))<|?_
   have VN:VlR H2 (tmv (.mk 6 o.f.nm 0 [v.e])) (.slice (some ⟨b86,0,none⟩) 1 1) (.slice none 0 0) (.slice none 0 0):=⟨⟨(Rep.mk m2 (.single (V1.e.up u2.up).rep rfl) rfl (aX _) (by decide)),FO.nm⟩,FmR.zero rfl rfl (aO _) (aO _)⟩;refine .cs (X:=(Nat × Nat) × (Option Addr × Nat)) qF Z (λW s=>xO (K.up u2.up) (dC K.gd.last hq y74.2) VN.one (by omega) (by omega) hlo (s.pickT (hd:=[_,_,_]) (tl:=(AR++bs)) (hd':=[_,_,_]) [0,2,1] Z Z)) Z λp9 _=>.nt<|.rt<|.tR<|.bR<|?_
   refine y7 Z .nil rfl λW s=>?_;have e0:lV l (⟨q,o::r,(v::V,bd),true,dn⟩:Ps)=⟨q.nx,r,((tmv (.mk 6 o.f.nm 0 [v.e]))::V,bd || !v.tm),true,dn⟩:=aB2 rfl hk ho6 y74.2;rw [e0];exact ⟨(_,_,_,_,_,AR),⟨u2,⟨SO.up u2.up,.cons (VS1.up u2.up) VN⟩⟩,Z,s.pickT (hd:=[_,_,_]) (tl:=(AR++bs)) (hd':=[_,_,_]) [0,1,2] rfl rfl⟩
  have ho6:¬ o.op=6:=λe=>aN h91 (by rw [e];rfl);refine .sk<|.tN<|.sm Z<|.mv Z<|.nC Z<|.fA Z dK<|.fA Z cK<|.s1Q (sZ (n:=r.length * 11) (j:=9) (cs':=oC o (.slice (some ⟨b86,0,none⟩) 1 1) s2) hlo Z) Z Z mO Z mD (by rw [aF,hlo];show r.length * 11+9<r.length * 11+11;omega)<|.nt<|.rg<|.mv Z<|.mv Z<|.nC Z<|.fA Z dK<|.yw (.loadR (vs:=(cFm .u8 o.f.op o.f.nm o.f.fd o.f.a o.f.b (.slice (some ⟨b86,0,none⟩) 1 1) s2)) Z bZ lR Z (λj u h=>by rw [dN];exact kD hlo (by rw [Nat.add_comm 4 j];exact h)))<|.yw (.build Z (iS _ _ _ _ _ _ _))<|?_
  have VN:VlR H2 (fmv (o.f.wEx [v.e])) (.slice none 0 0) (.slice (some ⟨b86,0,none⟩) 1 1) s2:=⟨ExR.zero rfl (aO _),⟨(Rep.mk m2 (.single (V1.e.up u2.up).rep rfl) rfl (aX _) (by decide)),FO.ar.up u2.up,FO.nm,FO.fd⟩⟩;refine .cs (X:=(Nat × Nat) × (Option Addr × Nat)) qF Z (λW s=>xO (K.up u2.up) (dC K.gd.last hq y74.2) VN.one (by omega) (by omega) hlo (s.pickT (hd:=[_,_,_]) (tl:=(AR++bs)) (hd':=[_,_,_]) [0,2,1] Z Z)) Z λp9 _=>.nl<|.bN<|?_
  refine jA (.inr Z) rfl .nil rfl λW s=>?_;have e0:lV l (⟨q,o::r,(v::V,bd),true,dn⟩:Ps)=⟨q.nx,r,((fmv (o.f.wEx [v.e]))::V,bd || !v.tm),true,dn⟩:=aB1 rfl hk ho6 y74.2;rw [e0];exact ⟨(_,_,_,_,_,AR),⟨u2,⟨SO.up u2.up,.cons (VS1.up u2.up) VN⟩⟩,Z,s.pickT (hd:=[_,_,_]) (tl:=(AR++bs)) (hd':=[_,_,_]) [0,1,2] rfl rfl⟩
 rw [h74] at e74;rw [aG (by rw [h74];decide)];refine .cu (X:=Bool) [(0,_),(2,_)] ⟨Z,Z,Jt⟩ (λz=>[(114,.bool z)]) (λz=>H) (λz=>(.box b [.slice tp l.length tc,iN ((if z then Rq.nx q else q).i),(.slice (some ⟨g,0,none⟩) (o::r).length c),rv,.bool true,.bool dn,.bool bd,iN ((if z then Rq.nx q else q).off),iN ((if z then Rq.nx q else q).er)] 102::.row 97 11 ((.slice (some ⟨g,0,none⟩) (o::r).length c)) ((o::r).length) ((xr++oC o s1 s2))::.row 179 13 (rv) (V.length+1) ((yr++vC v t0 t1 t2))::(AR++bs))) (λz=>z=(decide (o.kd=5) && Rq.ac l [44] q)) ?_ λz hC=>?_
 ·
  refine .rg<|.mv Z<|.nC Z<|.fA Z gP<|.yw (.loadR1 Z lY cP (kD hlo Z))<|.yw (.eql Z Z)<|.mv Z<|.b2 (λh120=>?_) (λh120=>?_)
  ·have hg:o.kd=5:=aQ.1 (by have:=aH h120;show o.kd.toNat=5;omega);exact .gy (.move Z)<|.gd Z Z<|.cs (X:=Unit) dH Z (λW s=>eI K hq [44] (s.pickT (hd:=[_,_,_]) (tl:=(AR++bs)) (hd':=[_,_,_]) [0,1,2] Z Z)) Z λ_ _=>.yw (.pickT Z Z)<|.aq Z<|.me _ ⟨Z,Jt⟩ ⟨Z,Z,Jt⟩ (λ_ s=>s) (by first | rw [aR hg,aA] | (rw [aP hg];rfl))
  have hg:¬ o.kd=5:=λe=>aN h120 (by rw [e];rfl);exact .gG<|.gG<|.yw (.pickF Z Z)<|.aq Z<|.me _ ⟨Z,Jt⟩ ⟨Z,Z,Jt⟩ (λ_ s=>s) (by first | rw [aR hg,aA] | (rw [aP hg];rfl))
 have e114:=hC;refine .cd Z (λh114=>?_) (λh114=>?_)
 ·rw [h114] at e114;have y114:=aE _ _ |>.mp e114.symm
  have hk:o.kd=5:=aH y114.1;rw [aL h114];obtain ⟨AR1,xe,rfl,SO,rfl,hze,har,hnm,hfd⟩:=Ops.inv5 S.ops hk;refine Sx.reSt (λW s=>(s:St _ _ (_::_::_::_::(AR1++bs)) W)) ?_;obtain ⟨AR,rfl⟩:∃ A,A=AR1:=⟨_,Z⟩;refine Sx.At.ra (size:=4) (r:=s1) (e:=76) pY λpA cA e=>?_;subst e;refine .sq<|.fx (p:=.light _ _ (.light _ _ (.light _ _ (.light _ _ (.light _ _ (.light _ _ (.light _ _ (.alt _ _ _ (.alt _ _ _ (.alt _ _ _ (.light _ _ (.light _ _ (.light _ _ (.light _ _ (.alt _ _ _ (.alt _ _ _ (.done) (.no)) (.alt _ _ _ (.alt _ _ _ (.done) (.no)) (.no))))))) (.no)) (.no)) (.alt _ _ _ (.alt _ _ _ (.alt _ _ _ (.light _ _ (.light _ _ (.light _ _ (.light _ _ (.alt _ _ _ (.alt _ _ _ (.done) (.no)) (.alt _ _ _ (.alt _ _ _ (.done) (.no)) (.no))))))) (.no)) (.no)) (.no)))))))))) 16 (.light 0 (.light 1 (.light 2 (.light 3 (.light 4 (.light 5 (.light 7 (.alt 6 2 (.alt 8 0 (.alt 9 2 (.light 10 (.light 12 (.light 13 (.light 14 (.alt 11 2 (.alt 15 2 (.done) (.no)) (.alt 15 2 (.alt 11 2 (.done) (.no)) (.no))))))) (.no)) (.no)) (.alt 8 0 (.alt 6 2 (.alt 9 2 (.light 10 (.light 12 (.light 13 (.light 14 (.alt 11 2 (.alt 15 2 (.done) (.no)) (.alt 15 2 (.alt 11 2 (.done) (.no)) (.no))))))) (.no)) (.no)) (.no)))))))))) (by kernel_rfl) (by kernel_rfl) Z<|.mv Z<|.nC Z<|.fA Z dK<|.fA Z cK<|.yw (.loadR1 Z dE cP (zT (j:=5) hlo Z))<|.mv Z<|.yw (.lenSl dO Z)<|.h ?_ (.h ?_ .nn)
  ·
   refine .c3 (X:=Nat × Nat) nB Z (λW s=>xW K (dC K.gd.last hq y114.2) V1.one (by omega) l1 (s.pickT (hd:=[_,_,_,_]) (tl:=(AR++bs)) (hd':=[_,_,_,_]) [0,2,1,3] Z Z)) Z (λ_ _=>(.yv (.lenSl dO Z)<|.dn<|.yv (.loadR1 Z dE lR (zT (j:=5) hlo Z))<|.yv (.fieldAddr Z cK)<|.yv (.fieldAddr Z dK)<|.yv (.nilCheck Z)<|.yv (.move Z)<|.nl)) λp1 _=>.h1<|.blF Z (nE _ _ _ _) Z λb132 H3 u3 m3=>.h1<|.apE uS Z (λ_ _=>mP) Z (Rep.mk (n:=1) (c:=1) (ds:=[dEx .u8 zE]) m3 (.single (PC _) Z) Z (aX _) (by decide)) (Nat.succ_pos _) (by simp only [maxLen];omega) (by omega) Z (λ_ _=>(.d4<|.d3<|.nl)) λnews gE cE hn=>.yw (.indexSl dO Z Z (i:=o.f.ex.length) Z (by omega) (q:=o.f.ex.length * 4) (by omega))<|.nC Z<|.fA Z dK<|.fA Z cK<|.h ?_ (.h ?_ .nn)
   ·
    refine .sR Z Z gC (Rep.one V1.e.rep) mP (by have:=hn.len;have:=hze.len;simp only [aF,aJ,aM,bJ] at * <;> omega) (.yv (.fieldAddr Z cK)<|.yv (.fieldAddr Z dK)<|.yv (.nilCheck Z)<|.d4<|.d4<|.nl) <|.h1<|.s1Q (sZ (n:=r.length * 11) (j:=9) (cs':=oC o (.slice (some ⟨gE,0,none⟩) (o.f.ex.length+1) cE) (.slice none 0 0)) hlo Z) Z Z mO Z mD (by rw [aF,hlo];show r.length * 11+9<r.length * 11+11;omega) (.d3<|.yv (.indexSl dO Z Z (i:=o.f.ex.length) Z (by omega) (q:=o.f.ex.length * 4) (by omega))<|.d4<|.d3<|.nl) <|.fe<|.tN<|.rg<|.mv Z<|.nC Z<|.fA Z lM<|.st .head Z Z mU Z (nb Z) Z<|.nl<|.bN<|?_
    refine jA (.inr Z) rfl .nil rfl λW s=>?_;have e0:lV l (⟨q,o::r,(v::V,bd),true,dn⟩:Ps)=⟨q.nx,⟨o.kd,o.lv,o.tm,o.op,o.f.wEx (o.f.ex++[v.e])⟩::r,(V,bd || !v.tm),false,dn⟩:=GB rfl hk y114.2;rw [e0];have hz:=xK (ds:=o.f.ex.map (dEx .u8)) (hze.up u3.up) hn (V1.e.up u3.up).rep rfl (bJ ..);have ha:=Ops.arg (o:=⟨o.kd,o.lv,o.tm,o.op,o.f.wEx (o.f.ex++[v.e])⟩) (SO.up u3.up) hk har hnm hfd (by rw [show (⟨o.kd,o.lv,o.tm,o.op,o.f.wEx (o.f.ex++[v.e])⟩:Ov).f.ex=o.f.ex++[v.e] from rfl,bV];exact hz) (s1:=(.slice (some ⟨gE,0,none⟩) (o.f.ex.length+1) cE)) rfl;rw [show (⟨o.kd,o.lv,o.tm,o.op,o.f.wEx (o.f.ex++[v.e])⟩:Ov).f.ex.length=o.f.ex.length+1 from by show (o.f.ex++[v.e]).length=_;rw [aF];rfl] at ha;exact ⟨(H3,(.slice (some ⟨g,0,none⟩) (o::r).length c),.slice (some ⟨p1.1,0,none⟩) V.length p1.2,xr++oC ⟨o.kd,o.lv,o.tm,o.op,o.f.wEx (o.f.ex++[v.e])⟩ (.slice (some ⟨gE,0,none⟩) (o.f.ex.length+1) cE) (.slice none 0 0),yr,.row 76 4 (.slice (some ⟨gE,0,none⟩) (o.f.ex.length+1) cE) (o.f.ex.length+1) (nK (xe++news) (o.f.ex.length * 4) [.int .u8 v.e.op.toNat,cH v.e.nm,.int .i64 v.e.n.toInt,t0])::AR),⟨u3,⟨ha,(VS1.up u3.up)⟩⟩,Z,s.pickT (hd:=[_,_,_,_]) (tl:=(AR++bs)) (hd':=[_,_,_,_]) [0,2,1,3] rfl rfl⟩
   refine .s1Q (sZ (n:=r.length * 11) (j:=9) (cs':=oC o (.slice (some ⟨gE,0,none⟩) (o.f.ex.length+1) cE) (.slice none 0 0)) hlo Z) Z Z mO Z mD (by rw [aF,hlo];show r.length * 11+9<r.length * 11+11;omega) (.d3<|.yv (.indexSl dO Z Z (i:=o.f.ex.length) Z (by omega) (q:=o.f.ex.length * 4) (by omega))<|.d4<|.d3<|.nl) <|.h1<|.sR Z Z gC (Rep.one V1.e.rep) mP (by have:=hn.len;have:=hze.len;simp only [aF,aJ,aM,bJ] at * <;> omega) (.yv (.fieldAddr Z cK)<|.yv (.fieldAddr Z dK)<|.yv (.nilCheck Z)<|.d4<|.d4<|.nl) <|.fe<|.tN<|.rg<|.mv Z<|.nC Z<|.fA Z lM<|.st .head Z Z mU Z (nb Z) Z<|.nl<|.bN<|?_
   refine jA (.inr Z) rfl .nil rfl λW s=>?_;have e0:lV l (⟨q,o::r,(v::V,bd),true,dn⟩:Ps)=⟨q.nx,⟨o.kd,o.lv,o.tm,o.op,o.f.wEx (o.f.ex++[v.e])⟩::r,(V,bd || !v.tm),false,dn⟩:=GB rfl hk y114.2;rw [e0];have hz:=xK (ds:=o.f.ex.map (dEx .u8)) (hze.up u3.up) hn (V1.e.up u3.up).rep rfl (bJ ..);have ha:=Ops.arg (o:=⟨o.kd,o.lv,o.tm,o.op,o.f.wEx (o.f.ex++[v.e])⟩) (SO.up u3.up) hk har hnm hfd (by rw [show (⟨o.kd,o.lv,o.tm,o.op,o.f.wEx (o.f.ex++[v.e])⟩:Ov).f.ex=o.f.ex++[v.e] from rfl,bV];exact hz) (s1:=(.slice (some ⟨gE,0,none⟩) (o.f.ex.length+1) cE)) rfl;rw [show (⟨o.kd,o.lv,o.tm,o.op,o.f.wEx (o.f.ex++[v.e])⟩:Ov).f.ex.length=o.f.ex.length+1 from by show (o.f.ex++[v.e]).length=_;rw [aF];rfl] at ha;exact ⟨(H3,(.slice (some ⟨g,0,none⟩) (o::r).length c),.slice (some ⟨p1.1,0,none⟩) V.length p1.2,xr++oC ⟨o.kd,o.lv,o.tm,o.op,o.f.wEx (o.f.ex++[v.e])⟩ (.slice (some ⟨gE,0,none⟩) (o.f.ex.length+1) cE) (.slice none 0 0),yr,.row 76 4 (.slice (some ⟨gE,0,none⟩) (o.f.ex.length+1) cE) (o.f.ex.length+1) (nK (xe++news) (o.f.ex.length * 4) [.int .u8 v.e.op.toNat,cH v.e.nm,.int .i64 v.e.n.toInt,t0])::AR),⟨u3,⟨ha,(VS1.up u3.up)⟩⟩,Z,s.pickT (hd:=[_,_,_,_]) (tl:=(AR++bs)) (hd':=[_,_,_,_]) [0,2,1,3] rfl rfl⟩
  refine .blF Z (nE _ _ _ _) Z λb132 H3 u3 m3=>.h1<|.c3 (X:=Nat × Nat) nB Z (λW s=>xW (K.up u3.up) (dC K.gd.last hq y114.2) V1.one (by omega) l1 (s.pickT (hd:=[_,_,_,_]) (tl:=(AR++bs)) (hd':=[_,_,_,_]) [0,2,1,3] Z Z)) Z (λ_ _=>(.yv (.lenSl dO Z)<|.dn<|.yv (.loadR1 Z dE lR (zT (j:=5) hlo Z))<|.yv (.fieldAddr Z cK)<|.yv (.fieldAddr Z dK)<|.yv (.nilCheck Z)<|.yv (.move Z)<|.nl)) λp1 _=>.h1<|.apE uS Z (λ_ _=>mP) Z (Rep.mk (n:=1) (c:=1) (ds:=[dEx .u8 zE]) m3 (.single (PC _) Z) Z (aX _) (by decide)) (Nat.succ_pos _) (by simp only [maxLen];omega) (by omega) Z (λ_ _=>(.d4<|.d3<|.nl)) λnews gE cE hn=>.yw (.indexSl dO Z Z (i:=o.f.ex.length) Z (by omega) (q:=o.f.ex.length * 4) (by omega))<|.nC Z<|.fA Z dK<|.fA Z cK<|.h ?_ (.h ?_ .nn)
  ·
   refine .sR Z Z gC (Rep.one V1.e.rep) mP (by have:=hn.len;have:=hze.len;simp only [aF,aJ,aM,bJ] at * <;> omega) (.yv (.fieldAddr Z cK)<|.yv (.fieldAddr Z dK)<|.yv (.nilCheck Z)<|.d4<|.d4<|.nl) <|.h1<|.s1Q (sZ (n:=r.length * 11) (j:=9) (cs':=oC o (.slice (some ⟨gE,0,none⟩) (o.f.ex.length+1) cE) (.slice none 0 0)) hlo Z) Z Z mO Z mD (by rw [aF,hlo];show r.length * 11+9<r.length * 11+11;omega) (.d3<|.yv (.indexSl dO Z Z (i:=o.f.ex.length) Z (by omega) (q:=o.f.ex.length * 4) (by omega))<|.d4<|.d3<|.nl) <|.fe<|.tN<|.rg<|.mv Z<|.nC Z<|.fA Z lM<|.st .head Z Z mU Z (nb Z) Z<|.nl<|.bN<|?_
   refine jA (.inr Z) rfl .nil rfl λW s=>?_;have e0:lV l (⟨q,o::r,(v::V,bd),true,dn⟩:Ps)=⟨q.nx,⟨o.kd,o.lv,o.tm,o.op,o.f.wEx (o.f.ex++[v.e])⟩::r,(V,bd || !v.tm),false,dn⟩:=GB rfl hk y114.2;rw [e0];have hz:=xK (ds:=o.f.ex.map (dEx .u8)) (hze.up u3.up) hn (V1.e.up u3.up).rep rfl (bJ ..);have ha:=Ops.arg (o:=⟨o.kd,o.lv,o.tm,o.op,o.f.wEx (o.f.ex++[v.e])⟩) (SO.up u3.up) hk har hnm hfd (by rw [show (⟨o.kd,o.lv,o.tm,o.op,o.f.wEx (o.f.ex++[v.e])⟩:Ov).f.ex=o.f.ex++[v.e] from rfl,bV];exact hz) (s1:=(.slice (some ⟨gE,0,none⟩) (o.f.ex.length+1) cE)) rfl;rw [show (⟨o.kd,o.lv,o.tm,o.op,o.f.wEx (o.f.ex++[v.e])⟩:Ov).f.ex.length=o.f.ex.length+1 from by show (o.f.ex++[v.e]).length=_;rw [aF];rfl] at ha;exact ⟨(H3,(.slice (some ⟨g,0,none⟩) (o::r).length c),.slice (some ⟨p1.1,0,none⟩) V.length p1.2,xr++oC ⟨o.kd,o.lv,o.tm,o.op,o.f.wEx (o.f.ex++[v.e])⟩ (.slice (some ⟨gE,0,none⟩) (o.f.ex.length+1) cE) (.slice none 0 0),yr,.row 76 4 (.slice (some ⟨gE,0,none⟩) (o.f.ex.length+1) cE) (o.f.ex.length+1) (nK (xe++news) (o.f.ex.length * 4) [.int .u8 v.e.op.toNat,cH v.e.nm,.int .i64 v.e.n.toInt,t0])::AR),⟨u3,⟨ha,(VS1.up u3.up)⟩⟩,Z,s.pickT (hd:=[_,_,_,_]) (tl:=(AR++bs)) (hd':=[_,_,_,_]) [0,2,1,3] rfl rfl⟩
  refine .s1Q (sZ (n:=r.length * 11) (j:=9) (cs':=oC o (.slice (some ⟨gE,0,none⟩) (o.f.ex.length+1) cE) (.slice none 0 0)) hlo Z) Z Z mO Z mD (by rw [aF,hlo];show r.length * 11+9<r.length * 11+11;omega) (.d3<|.yv (.indexSl dO Z Z (i:=o.f.ex.length) Z (by omega) (q:=o.f.ex.length * 4) (by omega))<|.d4<|.d3<|.nl) <|.h1<|.sR Z Z gC (Rep.one V1.e.rep) mP (by have:=hn.len;have:=hze.len;simp only [aF,aJ,aM,bJ] at * <;> omega) (.yv (.fieldAddr Z cK)<|.yv (.fieldAddr Z dK)<|.yv (.nilCheck Z)<|.d4<|.d4<|.nl) <|.fe<|.tN<|.rg<|.mv Z<|.nC Z<|.fA Z lM<|.st .head Z Z mU Z (nb Z) Z<|.nl<|.bN<|?_
  refine jA (.inr Z) rfl .nil rfl λW s=>?_;have e0:lV l (⟨q,o::r,(v::V,bd),true,dn⟩:Ps)=⟨q.nx,⟨o.kd,o.lv,o.tm,o.op,o.f.wEx (o.f.ex++[v.e])⟩::r,(V,bd || !v.tm),false,dn⟩:=GB rfl hk y114.2;rw [e0];have hz:=xK (ds:=o.f.ex.map (dEx .u8)) (hze.up u3.up) hn (V1.e.up u3.up).rep rfl (bJ ..);have ha:=Ops.arg (o:=⟨o.kd,o.lv,o.tm,o.op,o.f.wEx (o.f.ex++[v.e])⟩) (SO.up u3.up) hk har hnm hfd (by rw [show (⟨o.kd,o.lv,o.tm,o.op,o.f.wEx (o.f.ex++[v.e])⟩:Ov).f.ex=o.f.ex++[v.e] from rfl,bV];exact hz) (s1:=(.slice (some ⟨gE,0,none⟩) (o.f.ex.length+1) cE)) rfl;rw [show (⟨o.kd,o.lv,o.tm,o.op,o.f.wEx (o.f.ex++[v.e])⟩:Ov).f.ex.length=o.f.ex.length+1 from by show (o.f.ex++[v.e]).length=_;rw [aF];rfl] at ha;exact ⟨(H3,(.slice (some ⟨g,0,none⟩) (o::r).length c),.slice (some ⟨p1.1,0,none⟩) V.length p1.2,xr++oC ⟨o.kd,o.lv,o.tm,o.op,o.f.wEx (o.f.ex++[v.e])⟩ (.slice (some ⟨gE,0,none⟩) (o.f.ex.length+1) cE) (.slice none 0 0),yr,.row 76 4 (.slice (some ⟨gE,0,none⟩) (o.f.ex.length+1) cE) (o.f.ex.length+1) (nK (xe++news) (o.f.ex.length * 4) [.int .u8 v.e.op.toNat,cH v.e.nm,.int .i64 v.e.n.toInt,t0])::AR),⟨u3,⟨ha,(VS1.up u3.up)⟩⟩,Z,s.pickT (hd:=[_,_,_,_]) (tl:=(AR++bs)) (hd':=[_,_,_,_]) [0,2,1,3] rfl rfl⟩
 rw [h114] at e114;rw [aG (by rw [h114];decide)];refine .cu (X:=Bool) [(0,_),(2,_)] ⟨Z,Z,Jt⟩ (λz=>[(141,.bool z)]) (λz=>H) (λz=>(.box b [.slice tp l.length tc,iN ((if z then Rq.nx q else q).i),(.slice (some ⟨g,0,none⟩) (o::r).length c),rv,.bool true,.bool dn,.bool bd,iN ((if z then Rq.nx q else q).off),iN ((if z then Rq.nx q else q).er)] 102::.row 97 11 ((.slice (some ⟨g,0,none⟩) (o::r).length c)) ((o::r).length) ((xr++oC o s1 s2))::.row 179 13 (rv) (V.length+1) ((yr++vC v t0 t1 t2))::(AR++bs))) (λz=>z=(decide (o.kd=5) && Rq.ac l [41] q)) ?_ λz hC=>?_
 ·
  refine .rg<|.mv Z<|.nC Z<|.fA Z gP<|.yw (.loadR1 Z lY cP (kD hlo Z))<|.yw (.eql Z Z)<|.mv Z<|.b2 (λh147=>?_) (λh147=>?_)
  ·have hg:o.kd=5:=aQ.1 (by have:=aH h147;show o.kd.toNat=5;omega);exact .gy (.move Z)<|.gd Z Z<|.cs (X:=Unit) dH Z (λW s=>eI K hq [41] (s.pickT (hd:=[_,_,_]) (tl:=(AR++bs)) (hd':=[_,_,_]) [0,1,2] Z Z)) Z λ_ _=>.yw (.pickT Z Z)<|.aq Z<|.me _ ⟨Z,Jt⟩ ⟨Z,Z,Jt⟩ (λ_ s=>s) (by first | rw [aR hg,aA] | (rw [aP hg];rfl))
  have hg:¬ o.kd=5:=λe=>aN h147 (by rw [e];rfl);exact .gG<|.gG<|.yw (.pickF Z Z)<|.aq Z<|.me _ ⟨Z,Jt⟩ ⟨Z,Z,Jt⟩ (λ_ s=>s) (by first | rw [aR hg,aA] | (rw [aP hg];rfl))
 have e141:=hC;refine .cd Z (λh141=>?_) (λh141=>?_)
 ·rw [h141] at e141;have y141:=aE _ _ |>.mp e141.symm
  have hk:o.kd=5:=aH y141.1;rw [aL h141];obtain ⟨AR1,xe,rfl,SO,rfl,hze,har,hnm,hfd⟩:=Ops.inv5 S.ops hk;refine Sx.reSt (λW s=>(s:St _ _ (_::_::_::_::(AR1++bs)) W)) ?_;obtain ⟨AR,rfl⟩:∃ A,A=AR1:=⟨_,Z⟩;refine Sx.At.ra (size:=4) (r:=s1) (e:=76) pY λpA cA e=>?_;subst e;refine .sq<|.fx (p:=.light _ _ (.light _ _ (.light _ _ (.light _ _ (.light _ _ (.light _ _ (.light _ _ (.alt _ _ _ (.alt _ _ _ (.alt _ _ _ (.light _ _ (.light _ _ (.light _ _ (.light _ _ (.alt _ _ _ (.alt _ _ _ (.done) (.no)) (.alt _ _ _ (.alt _ _ _ (.done) (.no)) (.no))))))) (.no)) (.no)) (.alt _ _ _ (.alt _ _ _ (.alt _ _ _ (.light _ _ (.light _ _ (.light _ _ (.light _ _ (.alt _ _ _ (.alt _ _ _ (.done) (.no)) (.alt _ _ _ (.alt _ _ _ (.done) (.no)) (.no))))))) (.no)) (.no)) (.no)))))))))) 16 (.light 0 (.light 1 (.light 2 (.light 3 (.light 4 (.light 5 (.light 7 (.alt 6 2 (.alt 8 0 (.alt 9 2 (.light 10 (.light 12 (.light 13 (.light 14 (.alt 11 2 (.alt 15 2 (.done) (.no)) (.alt 15 2 (.alt 11 2 (.done) (.no)) (.no))))))) (.no)) (.no)) (.alt 8 0 (.alt 6 2 (.alt 9 2 (.light 10 (.light 12 (.light 13 (.light 14 (.alt 11 2 (.alt 15 2 (.done) (.no)) (.alt 15 2 (.alt 11 2 (.done) (.no)) (.no))))))) (.no)) (.no)) (.no)))))))))) (by kernel_rfl) (by kernel_rfl) Z<|.mv Z<|.nC Z<|.fA Z dK<|.fA Z cK<|.yw (.loadR1 Z dE cP (zT (j:=5) hlo Z))<|.mv Z<|.yw (.lenSl dO Z)<|.h ?_ (.h ?_ .nn)
  ·
   refine .c3 (X:=Nat × Nat) nB Z (λW s=>xW K (dC K.gd.last hq y141.2) V1.one (by omega) l1 (s.pickT (hd:=[_,_,_,_]) (tl:=(AR++bs)) (hd':=[_,_,_,_]) [0,2,1,3] Z Z)) Z (λ_ _=>(.yv (.lenSl dO Z)<|.dn<|.yv (.loadR1 Z dE lR (zT (j:=5) hlo Z))<|.yv (.fieldAddr Z cK)<|.yv (.fieldAddr Z dK)<|.yv (.nilCheck Z)<|.yv (.move Z)<|.nl)) λp1 _=>.h1<|.blF Z (nE _ _ _ _) Z λb159 H39 u39 m39=>.h1<|.apE uS Z (λ_ _=>mP) Z (Rep.mk (n:=1) (c:=1) (ds:=[dEx .u8 zE]) m39 (.single (PC _) Z) Z (aX _) (by decide)) (Nat.succ_pos _) (by simp only [maxLen];omega) (by omega) Z (λ_ _=>(.d4<|.d3<|.nl)) λnews9 gE9 cE9 hn9=>.yw (.indexSl dO Z Z (i:=o.f.ex.length) Z (by omega) (q:=o.f.ex.length * 4) (by omega))<|.nC Z<|.fA Z dK<|.fA Z cK<|.h ?_ (.h ?_ .nn)
   ·
    refine .sR Z Z gC (Rep.one V1.e.rep) mP (by have:=hn9.len;have:=hze.len;simp only [aF,aJ,aM,bJ] at * <;> omega) (.yv (.fieldAddr Z cK)<|.yv (.fieldAddr Z dK)<|.yv (.nilCheck Z)<|.d4<|.d4<|.nl) <|.h1<|.s1Q (sZ (n:=r.length * 11) (j:=9) (cs':=oC o (.slice (some ⟨gE9,0,none⟩) (o.f.ex.length+1) cE9) (.slice none 0 0)) hlo Z) Z Z mO Z mD (by rw [aF,hlo];show r.length * 11+9<r.length * 11+11;omega) (.d3<|.yv (.indexSl dO Z Z (i:=o.f.ex.length) Z (by omega) (q:=o.f.ex.length * 4) (by omega))<|.d4<|.d3<|.nl) <|.fe<|.tN<|.rg<|.mv Z<|.mv Z<|.nC Z<|.fA Z dK<|.yw (.loadR (vs:=(cFm .u8 o.f.op o.f.nm o.f.fd o.f.a o.f.b (.slice (some ⟨gE9,0,none⟩) (o.f.ex.length+1) cE9) (.slice none 0 0))) Z bZ lR Z (λj u h=>by rw [dN];exact kD hlo (by rw [Nat.add_comm 4 j];exact h)))<|.yw (.build Z (iS _ _ _ _ _ _ _))<|.cs (X:=(Nat × Nat) × (Option Addr × Nat)) qF Z (λW s=>xO (K.up u39.up) (dC K.gd.last hq y141.2) (by simp [Value.oneCell',cH]) (by omega) (by omega) hlo (s.pickT (hd:=[_,_,_,_]) (tl:=(AR++bs)) (hd':=[_,_,_,_]) [0,2,1,3] Z Z)) Z λp9 _=>.nl<|.bN<|?_
    refine Sx.reSt (λW s=>s.pickT (hd:=[_,_,_,_]) (tl:=(AR++bs)) (hd':=[_,_,_,_]) [3,0,1,2] rfl rfl) ?_;refine mM (ds:=(o.f.ex++[v.e]).map (dEx .u8)) (by rw [bJ,aF];rfl) (by rw [bV];exact xK (ds:=o.f.ex.map (dEx .u8)) (hze.up u39.up) hn9 (V1.e.up u39.up).rep rfl (bJ ..)) λH8 p8 c8 u8 e8 h8=>?_;refine jA (.inr Z) rfl .nil rfl λW s=>?_;have e0:lV l (⟨q,o::r,(v::V,bd),true,dn⟩:Ps)=⟨q.nx,r,((fmv (o.f.wEx (o.f.ex++[v.e])))::V,bd || !v.tm),true,dn⟩:=GC rfl hk y141.2;rw [e0];exact ⟨(_,_,_,_,_,AR),⟨(u39.trans u8),⟨((SO.up u39.up).up u8.up),.cons ((VS1.up u39.up).up u8.up) (v:=(fmv (o.f.wEx (o.f.ex++[v.e])))) ⟨ExR.zero rfl (aO _),⟨h8,by show Rep _ (.seq 7 (o.f.args.map _)) _;rw [har];exact Rep.nil4,hnm,hfd⟩⟩⟩⟩,Z,s.pickT (hd:=[_,_,_]) (tl:=(AR++bs)) (hd':=[_,_,_]) [0,1,2] rfl rfl⟩
   refine .s1Q (sZ (n:=r.length * 11) (j:=9) (cs':=oC o (.slice (some ⟨gE9,0,none⟩) (o.f.ex.length+1) cE9) (.slice none 0 0)) hlo Z) Z Z mO Z mD (by rw [aF,hlo];show r.length * 11+9<r.length * 11+11;omega) (.d3<|.yv (.indexSl dO Z Z (i:=o.f.ex.length) Z (by omega) (q:=o.f.ex.length * 4) (by omega))<|.d4<|.d3<|.nl) <|.h1<|.sR Z Z gC (Rep.one V1.e.rep) mP (by have:=hn9.len;have:=hze.len;simp only [aF,aJ,aM,bJ] at * <;> omega) (.yv (.fieldAddr Z cK)<|.yv (.fieldAddr Z dK)<|.yv (.nilCheck Z)<|.d4<|.d4<|.nl) <|.fe<|.tN<|.rg<|.mv Z<|.mv Z<|.nC Z<|.fA Z dK<|.yw (.loadR (vs:=(cFm .u8 o.f.op o.f.nm o.f.fd o.f.a o.f.b (.slice (some ⟨gE9,0,none⟩) (o.f.ex.length+1) cE9) (.slice none 0 0))) Z bZ lR Z (λj u h=>by rw [dN];exact kD hlo (by rw [Nat.add_comm 4 j];exact h)))<|.yw (.build Z (iS _ _ _ _ _ _ _))<|.cs (X:=(Nat × Nat) × (Option Addr × Nat)) qF Z (λW s=>xO (K.up u39.up) (dC K.gd.last hq y141.2) (by simp [Value.oneCell',cH]) (by omega) (by omega) hlo (s.pickT (hd:=[_,_,_,_]) (tl:=(AR++bs)) (hd':=[_,_,_,_]) [0,2,1,3] Z Z)) Z λp9 _=>.nl<|.bN<|?_
   refine Sx.reSt (λW s=>s.pickT (hd:=[_,_,_,_]) (tl:=(AR++bs)) (hd':=[_,_,_,_]) [3,0,1,2] rfl rfl) ?_;refine mM (ds:=(o.f.ex++[v.e]).map (dEx .u8)) (by rw [bJ,aF];rfl) (by rw [bV];exact xK (ds:=o.f.ex.map (dEx .u8)) (hze.up u39.up) hn9 (V1.e.up u39.up).rep rfl (bJ ..)) λH8 p8 c8 u8 e8 h8=>?_;refine jA (.inr Z) rfl .nil rfl λW s=>?_;have e0:lV l (⟨q,o::r,(v::V,bd),true,dn⟩:Ps)=⟨q.nx,r,((fmv (o.f.wEx (o.f.ex++[v.e])))::V,bd || !v.tm),true,dn⟩:=GC rfl hk y141.2;rw [e0];exact ⟨(_,_,_,_,_,AR),⟨(u39.trans u8),⟨((SO.up u39.up).up u8.up),.cons ((VS1.up u39.up).up u8.up) (v:=(fmv (o.f.wEx (o.f.ex++[v.e])))) ⟨ExR.zero rfl (aO _),⟨h8,by show Rep _ (.seq 7 (o.f.args.map _)) _;rw [har];exact Rep.nil4,hnm,hfd⟩⟩⟩⟩,Z,s.pickT (hd:=[_,_,_]) (tl:=(AR++bs)) (hd':=[_,_,_]) [0,1,2] rfl rfl⟩
  refine .blF Z (nE _ _ _ _) Z λb159 H39 u39 m39=>.h1<|.c3 (X:=Nat × Nat) nB Z (λW s=>xW (K.up u39.up) (dC K.gd.last hq y141.2) V1.one (by omega) l1 (s.pickT (hd:=[_,_,_,_]) (tl:=(AR++bs)) (hd':=[_,_,_,_]) [0,2,1,3] Z Z)) Z (λ_ _=>(.yv (.lenSl dO Z)<|.dn<|.yv (.loadR1 Z dE lR (zT (j:=5) hlo Z))<|.yv (.fieldAddr Z cK)<|.yv (.fieldAddr Z dK)<|.yv (.nilCheck Z)<|.yv (.move Z)<|.nl)) λp1 _=>.h1<|.apE uS Z (λ_ _=>mP) Z (Rep.mk (n:=1) (c:=1) (ds:=[dEx .u8 zE]) m39 (.single (PC _) Z) Z (aX _) (by decide)) (Nat.succ_pos _) (by simp only [maxLen];omega) (by omega) Z (λ_ _=>(.d4<|.d3<|.nl)) λnews9 gE9 cE9 hn9=>.yw (.indexSl dO Z Z (i:=o.f.ex.length) Z (by omega) (q:=o.f.ex.length * 4) (by omega))<|.nC Z<|.fA Z dK<|.fA Z cK<|.h ?_ (.h ?_ .nn)
  ·
   refine .sR Z Z gC (Rep.one V1.e.rep) mP (by have:=hn9.len;have:=hze.len;simp only [aF,aJ,aM,bJ] at * <;> omega) (.yv (.fieldAddr Z cK)<|.yv (.fieldAddr Z dK)<|.yv (.nilCheck Z)<|.d4<|.d4<|.nl) <|.h1<|.s1Q (sZ (n:=r.length * 11) (j:=9) (cs':=oC o (.slice (some ⟨gE9,0,none⟩) (o.f.ex.length+1) cE9) (.slice none 0 0)) hlo Z) Z Z mO Z mD (by rw [aF,hlo];show r.length * 11+9<r.length * 11+11;omega) (.d3<|.yv (.indexSl dO Z Z (i:=o.f.ex.length) Z (by omega) (q:=o.f.ex.length * 4) (by omega))<|.d4<|.d3<|.nl) <|.fe<|.tN<|.rg<|.mv Z<|.mv Z<|.nC Z<|.fA Z dK<|.yw (.loadR (vs:=(cFm .u8 o.f.op o.f.nm o.f.fd o.f.a o.f.b (.slice (some ⟨gE9,0,none⟩) (o.f.ex.length+1) cE9) (.slice none 0 0))) Z bZ lR Z (λj u h=>by rw [dN];exact kD hlo (by rw [Nat.add_comm 4 j];exact h)))<|.yw (.build Z (iS _ _ _ _ _ _ _))<|.cs (X:=(Nat × Nat) × (Option Addr × Nat)) qF Z (λW s=>xO (K.up u39.up) (dC K.gd.last hq y141.2) (by simp [Value.oneCell',cH]) (by omega) (by omega) hlo (s.pickT (hd:=[_,_,_,_]) (tl:=(AR++bs)) (hd':=[_,_,_,_]) [0,2,1,3] Z Z)) Z λp9 _=>.nl<|.bN<|?_
   refine Sx.reSt (λW s=>s.pickT (hd:=[_,_,_,_]) (tl:=(AR++bs)) (hd':=[_,_,_,_]) [3,0,1,2] rfl rfl) ?_;refine mM (ds:=(o.f.ex++[v.e]).map (dEx .u8)) (by rw [bJ,aF];rfl) (by rw [bV];exact xK (ds:=o.f.ex.map (dEx .u8)) (hze.up u39.up) hn9 (V1.e.up u39.up).rep rfl (bJ ..)) λH8 p8 c8 u8 e8 h8=>?_;refine jA (.inr Z) rfl .nil rfl λW s=>?_;have e0:lV l (⟨q,o::r,(v::V,bd),true,dn⟩:Ps)=⟨q.nx,r,((fmv (o.f.wEx (o.f.ex++[v.e])))::V,bd || !v.tm),true,dn⟩:=GC rfl hk y141.2;rw [e0];exact ⟨(_,_,_,_,_,AR),⟨(u39.trans u8),⟨((SO.up u39.up).up u8.up),.cons ((VS1.up u39.up).up u8.up) (v:=(fmv (o.f.wEx (o.f.ex++[v.e])))) ⟨ExR.zero rfl (aO _),⟨h8,by show Rep _ (.seq 7 (o.f.args.map _)) _;rw [har];exact Rep.nil4,hnm,hfd⟩⟩⟩⟩,Z,s.pickT (hd:=[_,_,_]) (tl:=(AR++bs)) (hd':=[_,_,_]) [0,1,2] rfl rfl⟩
  refine .s1Q (sZ (n:=r.length * 11) (j:=9) (cs':=oC o (.slice (some ⟨gE9,0,none⟩) (o.f.ex.length+1) cE9) (.slice none 0 0)) hlo Z) Z Z mO Z mD (by rw [aF,hlo];show r.length * 11+9<r.length * 11+11;omega) (.d3<|.yv (.indexSl dO Z Z (i:=o.f.ex.length) Z (by omega) (q:=o.f.ex.length * 4) (by omega))<|.d4<|.d3<|.nl) <|.h1<|.sR Z Z gC (Rep.one V1.e.rep) mP (by have:=hn9.len;have:=hze.len;simp only [aF,aJ,aM,bJ] at * <;> omega) (.yv (.fieldAddr Z cK)<|.yv (.fieldAddr Z dK)<|.yv (.nilCheck Z)<|.d4<|.d4<|.nl) <|.fe<|.tN<|.rg<|.mv Z<|.mv Z<|.nC Z<|.fA Z dK<|.yw (.loadR (vs:=(cFm .u8 o.f.op o.f.nm o.f.fd o.f.a o.f.b (.slice (some ⟨gE9,0,none⟩) (o.f.ex.length+1) cE9) (.slice none 0 0))) Z bZ lR Z (λj u h=>by rw [dN];exact kD hlo (by rw [Nat.add_comm 4 j];exact h)))<|.yw (.build Z (iS _ _ _ _ _ _ _))<|.cs (X:=(Nat × Nat) × (Option Addr × Nat)) qF Z (λW s=>xO (K.up u39.up) (dC K.gd.last hq y141.2) (by simp [Value.oneCell',cH]) (by omega) (by omega) hlo (s.pickT (hd:=[_,_,_,_]) (tl:=(AR++bs)) (hd':=[_,_,_,_]) [0,2,1,3] Z Z)) Z λp9 _=>.nl<|.bN<|?_
  refine Sx.reSt (λW s=>s.pickT (hd:=[_,_,_,_]) (tl:=(AR++bs)) (hd':=[_,_,_,_]) [3,0,1,2] rfl rfl) ?_;refine mM (ds:=(o.f.ex++[v.e]).map (dEx .u8)) (by rw [bJ,aF];rfl) (by rw [bV];exact xK (ds:=o.f.ex.map (dEx .u8)) (hze.up u39.up) hn9 (V1.e.up u39.up).rep rfl (bJ ..)) λH8 p8 c8 u8 e8 h8=>?_;refine jA (.inr Z) rfl .nil rfl λW s=>?_;have e0:lV l (⟨q,o::r,(v::V,bd),true,dn⟩:Ps)=⟨q.nx,r,((fmv (o.f.wEx (o.f.ex++[v.e])))::V,bd || !v.tm),true,dn⟩:=GC rfl hk y141.2;rw [e0];exact ⟨(_,_,_,_,_,AR),⟨(u39.trans u8),⟨((SO.up u39.up).up u8.up),.cons ((VS1.up u39.up).up u8.up) (v:=(fmv (o.f.wEx (o.f.ex++[v.e])))) ⟨ExR.zero rfl (aO _),⟨h8,by show Rep _ (.seq 7 (o.f.args.map _)) _;rw [har];exact Rep.nil4,hnm,hfd⟩⟩⟩⟩,Z,s.pickT (hd:=[_,_,_]) (tl:=(AR++bs)) (hd':=[_,_,_]) [0,1,2] rfl rfl⟩
 rw [h141] at e141;rw [aG (by rw [h141];decide)];refine .rg<|.mv Z<|.cs (X:=Unit) iR Z (λW s=>qD K hq 8 (s.pickT (hd:=[_,_,_]) (tl:=(AR++bs)) (hd':=[_,_,_]) [0,1,2] Z Z)) Z λ_ _=>.nl<|.bN<|?_
 refine jA (.inr Z) rfl .nil rfl λW s=>?_;have n2:∀ {n:UInt8} {w:Str},false=(decide (o.kd=n) && Rq.ac l w q)->o.kd=n->Rq.ac l w q=false:=λe k=>by rw [aR k,aA] at e;exact e.symm
 have e0:lV l (⟨q,o::r,(v::V,bd),true,dn⟩:Ps)=(⟨q,o::r,(v::V,bd),true,dn⟩:Ps).at (q.fail l 8):=BL (λe e2=>by rw [aR (show o.kd=1 from e),aR (show (tkf l q.i).k=0 from e2)] at e9;cases e9) (λe=>by
  rcases e with e | e | e
  ·exact n2 e24 e
  ·exact n2 e40 e
  ·exact n2 e141 e) (n2 e74) (n2 e114)
 rw [e0];exact ⟨(_,_,_,_,_,AR),⟨.refl,⟨S.ops,S.vls⟩⟩,Z,s.pickT (hd:=[_,_,_]) (tl:=(AR++bs)) (hd':=[_,_,_]) [0,1,2] rfl rfl⟩
def Fex (q:Ps):Prop:=∀ o∈q.op,o.f.ex.length<=q.c.i
section
variable {l:Tks} {q:Ps} {c:Rq} {o:Ov} {v:Vl}
theorem mR (h:Fex q) (hi:q.c.i<=c.i) (ho:o.f.ex=[]):Fex (fK o (q.at c)):=λz hz=>by
 rcases bM.1 hz with rfl | hz
 ·rw [bL8,ho];exact aO _
 ·exact bD (h z hz) hi
theorem rS (h:Fex q) (hi:q.c.i<=c.i):Fex (iF v (q.at c)):=λz hz=>bD (h z hz) hi
theorem HD (h:Fex q) (hi:q.c.i<=c.i):Fex (q.at c):=λz hz=>bD (h z hz) hi
theorem KI {lv:Nat}:∀ (r:List Ov) (x:Vb),∀ z∈(wI lv r x).1,z∈r
 | [],_,z,h=>h
 | o::r,x,z,h=>by
  rw [wI] at h
  split at h
  ·exact bT _ (KI r _ z h)
  ·exact h
theorem zO {lv:Nat} (h:Fex q):Fex (jP lv q):=λz hz=>h z (KI q.op q.x z hz)
theorem FV {x:Vb} (h:Fex q) (hi:q.c.i<=c.i):Fex (GA c v x q):=λz hz=>bD (h z (List.mem_of_mem_tail hz)) hi
theorem jJ {c:Prop} [Decidable c] {a b:Ps} (h1:c->Fex a) (h2:¬ c->Fex b):Fex (if c then a else b):=by
 by_cases hc:c
 ·rw [aL hc];exact h1 hc
 ·rw [aG hc];exact h2 hc
theorem vJ (k:Mq q.c.nx c):q.c.i<=c.i:=bD (Nat.le_succ _) k.i
theorem aV1 {q':Ps} (h:Fex q) (e:mJ l q=some q'):Fex q':=by
 unfold mJ at e
 split at e
 ·injection e with e;subst e;exact mR h (vJ (.refl _)) rfl
 split at e
 ·injection e with e;subst e;exact mR h (vJ (.refl _)) rfl
 split at e
 ·injection e with e;subst e;exact mR h (vJ .wiS) rfl
 split at e
 ·injection e with e;subst e;exact mR h (vJ .wiS) rfl
 split at e
 ·injection e with e;subst e;exact mR h (vJ .amS) rfl
 split at e
 ·injection e with e;subst e;exact mR h (vJ .amS) rfl
 split at e
 ·injection e with e;subst e;exact mR h (vJ (.trans .amS .exS)) rfl
 ·cases e
theorem aS4:q.c.i<=(q.c.nmS l).i:=Mq.nmS.i
theorem bH5 (h:Fex q):Fex (vQ l q):=by
 unfold vQ;refine jJ (λa=>jJ (λb=>mR h ?_ rfl) λ_=>rS h ?_) λ_=>rS h aS4
 ·exact bD aS4 (bD (Nat.le_succ _) (bD (Mq.nmS (q:=(q.c.nmS l).nx)).i (Nat.le_succ _)))
 ·exact bD aS4 (bD (Nat.le_succ _) (Mq.nmS (q:=(q.c.nmS l).nx)).i)
theorem bI1 (h:Fex q):Fex (yP l q):=by
 unfold yP;have h2:q.c.i<=((q.c.paS l).exS l [40]).i:=(Mq.trans (a:=q.c) .paS .exS).i;exact jJ (λ_=>rS h (bD h2 (Nat.le_succ _))) λ_=>mR h h2 rfl
theorem bH7 (h:Fex q):Fex (pW l q):=by
 unfold pW
 exact jJ (λ_=>mR h (vJ (.refl _)) rfl) λ_=>jJ (λ_=>mR h (vJ (.refl _)) rfl) λ_ =>
  jJ (λ_=>rS h Mq.nbS.i) λ_=>jJ (λ_=>bH5 h) λ_=>jJ (λ_=>rS h (vJ (.refl _))) λ_ =>
  jJ (λ_=>rS h (vJ .paS)) λ_=>jJ (λ_=>rS h (vJ (.refl _))) λ_=>jJ (λ_=>rS h (vJ (.refl _))) λ_ =>
  jJ (λ_=>rS h (vJ .nmS)) λ_=>jJ (λ_=>mR h (vJ (.trans .paS .exS)) rfl) λ_ =>
  jJ (λ_=>bI1 (HD h (Nat.le_succ _))) λ_=>HD h Mq.fail.i
theorem VA (h:Fex q):Fex (dU l q):=by
 unfold dU;cases e:(if xY q then mJ l q else none) with
 | some q' =>
  split at e
  ·exact aV1 h e
  ·cases e
 | none =>
  show Fex (wH l q);unfold wH;exact jJ (λ_=>rS h (Nat.le_succ _)) λ_=>bH7 h
theorem bI0 {op:UInt8} (h:Fex q):Fex (rK l op q):=by
 have f {lv:Nat}:Fex ((jP lv q).at (q.c.fail l 8)):=HD (zO h) (Mq.fail (q:=q.c)).i;have p {lv:Nat} {o:Ov} (ho:o.f.ex=[]):Fex (fK o ((jP lv q).at q.c.nx)):=mR (zO h) (Nat.le_succ _) ho;unfold rK;exact jJ (λ_=>jJ (λ_=>f) λ_=>p rfl) λ_=>jJ (λ_=>jJ (λ_=>f) λ_=>p rfl) λ_=>jJ (λ_=>f) λ_=>p rfl
theorem bP6 (c:Rq):(c.joV l).ex=[]:=by
 unfold Rq.joV
 split
 ·rfl
 split
 ·rfl
 split
 ·rfl
 split <;> rfl
theorem bH8 (h:Fex q):Fex (wQ l q):=by
 unfold wQ;exact jJ (λ_=>HD h Mq.fail.i) λ_=>mR (q:=jP _ q) (c:=q.c.joS l) (zO h) (Mq.joS (q:=q.c)).i (bP6 _)
theorem bH9 (h:Fex q):Fex (lV l q):=by
 unfold lV;refine jJ (λ_=>h) λ_=>jJ (λ_=>FV h (Nat.le_succ _)) λ_=>jJ (λ_=>FV h (vJ (.trans .exS .nbS))) λ_=>jJ (λ_=>jJ (λ_=>FV h (Nat.le_succ _)) λ_=>FV h (Nat.le_succ _)) λ_=>jJ (λa=>?_) λ_=>jJ (λ_=>FV h (Nat.le_succ _)) λ_=>HD h Mq.fail.i;intro z hz;have hz':z∈(⟨(dM q).kd,(dM q).lv,(dM q).tm,(dM q).op,(dM q).f.wEx ((dM q).f.ex++[tE q.x])⟩:Ov)::q.op.tail:=hz;show z.f.ex.length<=q.c.i+1;rcases bM.1 hz' with e | hz
 ·subst e;show ((dM q).f.ex++[tE q.x]).length<=_;rw [aF]
  have:(dM q).f.ex.length<=q.c.i:=by
   unfold dM;cases hq:q.op with
   | nil=>exact aO _
   | cons o r=>exact h o (by rw [hq];exact aY ..)
  simp only [aJ,aM];omega
 ·exact bD (h z (List.mem_of_mem_tail hz)) (Nat.le_succ _)
theorem aV0 (h:Fex q):Fex (kM l q):=by
 unfold kM;refine jJ (λ_=>?_) λ_=>VA h;unfold fJ;cases q.c.sym l with
 | some i=>exact bI0 h
 | none =>
  show Fex (qC l q);unfold qC;exact jJ (λ_=>bH8 h) λ_=>jJ (λ_=>bH9 (zO h)) λ_=>HD h Mq.fail.i
end
def IR (t:Str) (i:Nat):Bool:=decide (lT.getD i []=t) && decide (¬ i=0)
theorem aC9 {t:Str} (hk:k<22) (h:IR t k=true) (hp:∀ j,j<k->IR t j=false):aD1 t=some k:=List.find?_range_eq_some.2 ⟨h,bY.2 hk,λj hj=>by
 have:=hp j hj;unfold IR at this;rw [this];rfl⟩
theorem VJ {p:Nat->Prop} (h:∀ j,j<k->p j) (hk:p k):∀ j,j<k+1->p j:=λj hj=>by
 by_cases e:j=k
 ·rw [e];exact hk
 ·exact h j (by omega)
theorem aD0 {t:Str} (hp:∀ j,j<22->IR t j=false):aD1 t=none:=List.find?_range_eq_none.2 λj hj=>by
 have:=hp j hj;unfold IR at this;rw [this];rfl
theorem bT8 (h:k<256):IntKind.u8.wrap (k:Int)=(((UInt8.ofNat k).toNat:Nat):Int):=by
 have key:∀ i∈List.range 256,IntKind.u8.wrap (i:Int)=(i:Int):=by decide +kernel
 rw [key k (bY.2 h),dW h]
set_option maxHeartbeats 2000000 in
theorem WY {l:Tks} {op:List Ov} {x:Vb} {dn:Bool} (K:Tkf H l tp tc) (Wq:Fwf l ⟨q,op,x,true,dn⟩) (S:Sq H ⟨q,op,x,true,dn⟩ xo xv AR) (G:Gf H) (h0:q.er=0) (FE:Fex (⟨q,op,x,true,dn⟩:Ps)) (s:St H w0 (.box b [.slice tp l.length tc,iN q.i,ro,rv,.bool true,.bool dn,.bool x.2,iN q.off,iN q.er] 102::.row 97 11 (ro) (op.length) (xo)::.row 179 13 (rv) (x.1.length) (xv)::(AR++bs)) W) :
 Calls prg 55 #[.pointer (some ⟨b,0,none⟩)] W (Get w0 bs b l tp tc H (fJ l ⟨q,op,x,true,dn⟩)):=by
 have hq:q.i<l.length:=Wq.i;have hcap:=K.rep.cap;refine kC func55 rfl ntmps55 rfl s ?_;refine .sm Z<|.cs (X:=Unit) sM Z (λW s=>xI K hq  (s.pickT (hd:=[_,_,_]) (tl:=(AR++bs)) (hd':=[_,_,_]) [0,1,2] Z Z)) Z λ_ _=>.al wV Z λb2=>.sW .head Z Z wX (by simp [cTk,Value.oneCell',cH]) Z<|.nt<|.sq<|.cu (X:=Bool) [(0,_),(2,_)] ⟨Z,Z,Jt⟩ (λz=>[(14,.bool z)]) (λz=>H) (λz=>(.box b2 (cTk .u8 (tkf l q.i)) 108::.box b [.slice tp l.length tc,iN q.i,ro,rv,.bool true,.bool dn,.bool x.2,iN q.off,iN q.er] 102::.row 97 11 (ro) (op.length) (xo)::.row 179 13 (rv) (x.1.length) (xv)::(AR++bs))) (λz=>z=(decide ((tkf l q.i).k=2) || decide ((tkf l q.i).k=4))) ?_ λz hC=>?_
 ·
  refine .rg<|.fA Z jF<|.lD Z nU Hm Z<|.yw (.eql Z Z)<|.mv Z<|.b2 (λh10=>?_) (λh10=>?_)
  ·exact .gG<|.gG<|.gG<|.yw (.pickT Z Z)<|.nt<|.me _ ⟨Z,Jt⟩ ⟨Z,Z,Jt⟩ (λ_ s=>s) (by first | (rw [<-k82,<-k84,h11,Bool.true_or]) | (rw [<-k82,<-k84,h11,aK]) | (rw [<-k82,<-k84,h10,Bool.true_or]) | (rw [<-k82,<-k84,h10,aK]))
  exact .gy (.fieldAddr Z jF)<|.gy (.load Z nU Hm Z)<|.gy (.eql Z Z)<|.yw (.pickF Z Z)<|.nt<|.me _ ⟨Z,Jt⟩ ⟨Z,Z,Jt⟩ (λ_ s=>s) (by first | (rw [<-k82,<-k84,h11,Bool.true_or]) | (rw [<-k82,<-k84,h11,aK]) | (rw [<-k82,<-k84,h10,Bool.true_or]) | (rw [<-k82,<-k84,h10,aK]))
 have e14:=hC;refine .cd Z (λh14=>?_) (λh14=>?_)
 ·have hk24:(tkf l q.i).k=2\/(tkf l q.i).k=4:=by
   rw [h14] at e14;rcases bC _ _ |>.mp e14.symm with h | h
   ·exact .inl (aH h)
   ·exact .inr (aH h)
  refine .sr<|.yw (.loadMW Z aL7 G.syms Z)<|.mv Z<|.nt<|.bk<|.lp (X:=Nat) [(0,_),(2,_),(15,_)] ⟨Z,Z,Z,Jt⟩ ((AR++bs)) (λk=>[(16,iN k)]) (λk=>H) (λk=>[.box b2 (cTk .u8 (tkf l q.i)) 108,.box b [.slice tp l.length tc,iN q.i,ro,rv,.bool true,.bool dn,.bool x.2,iN q.off,iN q.er] 102,.row 97 11 (ro) (op.length) (xo),.row 179 13 (rv) (x.1.length) (xv)]) (λk=>k<=22/\∀ j,j<k->IR (tkf l q.i).t j=false) (λk=>22 - k) 0 (λ_ s=>s) ⟨Z,Jt⟩ ⟨by decide,λj h=>by omega⟩ λk hC=>?_
  obtain ⟨hk0,hpk⟩:=hC;refine .sr<|.yw (.lss Z Z)<|.nt<|.sq<|.ce Z (λh17=>?_) (λh17=>?_)
  ·have hk:k<22:=by omega
   refine .sk<|.tN<|.sq<|.bk<|.sm Z<|.yw (.idxA HW aL3 Z Z Z (by omega) (zI (by show k<22;omega) []))<|.a Z Z<|.a Z Z<|.ns<|.mv Z<|.fA Z kG<|.lD Z cZ Hm Z<|.yw (.eqS Z Z)<|.mv Z<|.b2 (λh24=>?_) (λh24=>?_)
   ·have q24:lT.getD k []=(tkf l q.i).t:=aH h24;refine .gy (.move Z)<|.gy (.neq Z Z)<|.yw (.pickT Z Z)<|.nt<|.cd Z (λh27=>?_) (λh27=>?_)
    ·have hyk:IR (tkf l q.i).t k=true:=by unfold IR;rw [aR q24,aR (show ¬ k=0 by have:=aH h27;omega)];rfl
     have hsy:q.sym l=some k:=by unfold Rq.sym;rw [aL hk24];exact aC9 hk hyk hpk
     have hac:=(WN K.gd.last h0 hsy).1;refine .sm Z<|.mv Z<|.yw (.conv Z lI kU (c:=(((UInt8.ofNat k).toNat:Nat):Int)) (bT8 (by omega)))<|.cs (X:=Hp × Value × Value × List Value × List Value × List Res) aI8 Z (λW s=>aH4 K Wq S (UInt8.ofNat k) (dC K.gd.last hq hac) (St.mid (a:=[_,_,_]) (d:=[_]) (s.pickT (hd:=[_,_,_,_]) (tl:=(AR++bs)) (hd':=[_,_,_,_]) [1,2,3,0] Z Z))) Z λz9 hz9=>?_
     obtain ⟨H1,ro,rv,xo,xv,AR⟩:=z9;obtain ⟨u1,S⟩:=hz9;dsimp only at u1 S|-;refine Sx.reSt (λW s=>St.mid (a:=[_,_,_]) (d:=AR) (c:=[_]) s) ?_;refine .zR<|.tR<|.bR<|.tR<|?_
     refine y7 Z .nil rfl λW s=>?_;have e0:fJ l (⟨q,op,x,true,dn⟩:Ps)=rK l (UInt8.ofNat k) (⟨q,op,x,true,dn⟩:Ps):=by unfold fJ;rw [hsy]
     rw [e0];exact ⟨(_,_,_,_,_,AR),⟨u1,⟨S.ops,S.vls⟩⟩,Z,s.pickT (hd:=[_,_,_,_]) (tl:=(AR++bs)) (hd':=[_,_,_]) [0,1,2] rfl rfl⟩
    have hnk:IR (tkf l q.i).t k=false:=by unfold IR;rw [aP (show ¬ ¬ k=0 by have:=aN h27;omega),Bool.and_false]
    exact .sk<|.bN<|.tN<|.rg<|.yw (.add Z Z w7)<|.mv Z<|.nt<|.ag (k+1) ⟨Z,Jt⟩ ⟨Z,Z,Z,Jt⟩ (λ_ s=>s) ⟨by omega,VJ hpk hnk⟩ (by omega)
   have hnk:IR (tkf l q.i).t k=false:=by unfold IR;rw [aP (aN h24)];rfl
   exact .gG<|.gG<|.yw (.pickF Z Z)<|.nt<|.cF Z<|.sk<|.bN<|.tN<|.rg<|.yw (.add Z Z w7)<|.mv Z<|.nt<|.ag (k+1) ⟨Z,Jt⟩ ⟨Z,Z,Z,Jt⟩ (λ_ s=>s) ⟨by omega,VJ hpk hnk⟩ (by omega)
  obtain rfl:k=22:=by omega
  have hsy:q.sym l=none:=by unfold Rq.sym;rw [aL hk24];exact aD0 hpk
  refine .ex<|.eb<|.bk<|.cu (X:=Bool) [(0,_),(2,_)] ⟨Z,Z,Jt⟩ (λz=>[(35,.bool z)]) (λz=>H) (λz=>(.box b2 (cTk .u8 (tkf l q.i)) 108::.box b [.slice tp l.length tc,iN q.i,ro,rv,.bool true,.bool dn,.bool x.2,iN q.off,iN q.er] 102::.row 97 11 (ro) (op.length) (xo)::.row 179 13 (rv) (x.1.length) (xv)::(AR++bs))) (λz=>z=q.wrd l) ?_ λz hC=>?_
  ·
   refine .sm Z<|.cs (X:=Unit) jN Z (λW s=>DW K hq [115,105,110,99,101] (s.pickT (hd:=[_,_,_,_]) (tl:=(AR++bs)) (hd':=[_,_,_,_]) [1,0,2,3] Z Z)) Z λ_ _=>.aq Z<|.cd Z (λh35=>?_) (λh35=>?_)
   ·have i1:=h35;exact .sk<|.tN<|.me _ ⟨Z,Jt⟩ ⟨Z,Z,Jt⟩ (λ_ s=>(s.pickT (hd:=[_,_,_,_]) (tl:=(AR++bs)) (hd':=[_,_,_,_]) [1,0,2,3] Z Z)) (by unfold Rq.wrd;first | simp only [i1,i2,i3,aK,Bool.true_or,Bool.or_true,Bool.or_false] | simp only [i1,i2,aK,Bool.true_or,Bool.or_true] | simp only [i1,aK,Bool.true_or,Bool.or_true])
   have i1:=h35;refine .sm Z<|.cs (X:=Unit) jN Z (λW s=>DW K hq [97,110,100] (s.pickT (hd:=[_,_,_,_]) (tl:=(AR++bs)) (hd':=[_,_,_,_]) [0,1,2,3] Z Z)) Z λ_ _=>.aq Z<|.cd Z (λh35=>?_) (λh35=>?_)
   ·have i2:=h35;exact .sk<|.tN<|.me _ ⟨Z,Jt⟩ ⟨Z,Z,Jt⟩ (λ_ s=>(s.pickT (hd:=[_,_,_,_]) (tl:=(AR++bs)) (hd':=[_,_,_,_]) [1,0,2,3] Z Z)) (by unfold Rq.wrd;first | simp only [i1,i2,i3,aK,Bool.true_or,Bool.or_true,Bool.or_false] | simp only [i1,i2,aK,Bool.true_or,Bool.or_true] | simp only [i1,aK,Bool.true_or,Bool.or_true])
   have i2:=h35;refine .sm Z<|.cs (X:=Unit) jN Z (λW s=>DW K hq [111,114] (s.pickT (hd:=[_,_,_,_]) (tl:=(AR++bs)) (hd':=[_,_,_,_]) [0,1,2,3] Z Z)) Z λ_ _=>.aq Z<|.cd Z (λh35=>?_) (λh35=>?_)
   ·have i3:=h35;exact .sk<|.tN<|.me _ ⟨Z,Jt⟩ ⟨Z,Z,Jt⟩ (λ_ s=>(s.pickT (hd:=[_,_,_,_]) (tl:=(AR++bs)) (hd':=[_,_,_,_]) [1,0,2,3] Z Z)) (by unfold Rq.wrd;first | simp only [i1,i2,i3,aK,Bool.true_or,Bool.or_true,Bool.or_false] | simp only [i1,i2,aK,Bool.true_or,Bool.or_true] | simp only [i1,aK,Bool.true_or,Bool.or_true])
   have i3:=h35;exact .rg<|.mv Z<|.cs (X:=Unit) jN Z (λW s=>DW K hq [105,109,112,108,105,101,115] (s.pickT (hd:=[_,_,_,_]) (tl:=(AR++bs)) (hd':=[_,_,_,_]) [0,1,2,3] Z Z)) Z λ_ _=>.aq Z<|.me _ ⟨Z,Jt⟩ ⟨Z,Z,Jt⟩ (λ_ s=>(s.pickT (hd:=[_,_,_,_]) (tl:=(AR++bs)) (hd':=[_,_,_,_]) [1,0,2,3] Z Z)) (by unfold Rq.wrd;first | simp only [i1,i2,i3,aK,Bool.true_or,Bool.or_true,Bool.or_false] | simp only [i1,i2,aK,Bool.true_or,Bool.or_true] | simp only [i1,aK,Bool.true_or,Bool.or_true])
  have ew:=hC;refine .cd Z (λh35=>?_) (λh35=>?_)
  ·have w35:=h35;refine .rg<|.mv Z<|.cs (X:=Hp × Value × Value × List Value × List Value × List Res) ME Z (λW s=>aT0 K Wq S G h0 (by rw [<-ew];exact w35) (St.mid (a:=[_,_,_]) (d:=[_]) (s.pickT (hd:=[_,_,_,_]) (tl:=(AR++bs)) (hd':=[_,_,_,_]) [1,2,3,0] Z Z))) Z λz9 hz9=>?_
   obtain ⟨H1,ro,rv,xo,xv,AR⟩:=z9;obtain ⟨u1,S⟩:=hz9;dsimp only at u1 S|-;refine Sx.reSt (λW s=>St.mid (a:=[_,_,_]) (d:=AR) (c:=[_]) s) ?_;refine .nl<|.bN<|?_
   refine jA (.inr Z) rfl .nil rfl λW s=>?_;have e0:fJ l (⟨q,op,x,true,dn⟩:Ps)=qC l (⟨q,op,x,true,dn⟩:Ps):=by unfold fJ;rw [show q.sym l=none from hsy]
   rw [e0];have e1:qC l (⟨q,op,x,true,dn⟩:Ps)=wQ l (⟨q,op,x,true,dn⟩:Ps):=by unfold qC;exact aL (by rw [<-ew];exact w35)
   rw [e1];exact ⟨(_,_,_,_,_,AR),⟨u1,⟨S.ops,S.vls⟩⟩,Z,s.pickT (hd:=[_,_,_,_]) (tl:=(AR++bs)) (hd':=[_,_,_]) [0,1,2] rfl rfl⟩
  have w35:=h35;refine .cu (X:=Bool) [(0,_)] ⟨Z,Jt⟩ (λz=>[(46,.bool z)]) (λz=>H) (λz=>(.box b2 (cTk .u8 (tkf l q.i)) 108::.box b [.slice tp l.length tc,iN q.i,ro,rv,.bool true,.bool dn,.bool x.2,iN q.off,iN q.er] 102::.row 97 11 (ro) (op.length) (xo)::.row 179 13 (rv) (x.1.length) (xv)::(AR++bs))) (λz=>z=q.endB l) ?_ λz hC=>?_
  ·
   refine .sm Z<|.cs (X:=Unit) jN Z (λW s=>DW K hq [41] (s.pickT (hd:=[_,_,_,_]) (tl:=(AR++bs)) (hd':=[_,_,_,_]) [1,0,2,3] Z Z)) Z λ_ _=>.aq Z<|.cd Z (λh46=>?_) (λh46=>?_)
   ·have j1:=h46;exact .sk<|.tN<|.me _ ⟨Z,Jt⟩ ⟨Z,Jt⟩ (λ_ s=>(s.pickT (hd:=[_,_,_,_]) (tl:=(AR++bs)) (hd':=[_,_,_,_]) [1,0,2,3] Z Z)) (by unfold Rq.endB;rw [<-k80];first | simp only [j1,j2,j3,aK,Bool.true_or,Bool.or_true,Bool.or_false] | simp only [j1,j2,aK,Bool.true_or,Bool.or_true] | simp only [j1,aK,Bool.true_or,Bool.or_true])
   have j1:=h46;refine .sm Z<|.cs (X:=Unit) jN Z (λW s=>DW K hq [93] (s.pickT (hd:=[_,_,_,_]) (tl:=(AR++bs)) (hd':=[_,_,_,_]) [0,1,2,3] Z Z)) Z λ_ _=>.aq Z<|.cd Z (λh46=>?_) (λh46=>?_)
   ·have j2:=h46;exact .sk<|.tN<|.me _ ⟨Z,Jt⟩ ⟨Z,Jt⟩ (λ_ s=>(s.pickT (hd:=[_,_,_,_]) (tl:=(AR++bs)) (hd':=[_,_,_,_]) [1,0,2,3] Z Z)) (by unfold Rq.endB;rw [<-k80];first | simp only [j1,j2,j3,aK,Bool.true_or,Bool.or_true,Bool.or_false] | simp only [j1,j2,aK,Bool.true_or,Bool.or_true] | simp only [j1,aK,Bool.true_or,Bool.or_true])
   have j2:=h46;refine .sm Z<|.cs (X:=Unit) jN Z (λW s=>DW K hq [44] (s.pickT (hd:=[_,_,_,_]) (tl:=(AR++bs)) (hd':=[_,_,_,_]) [0,1,2,3] Z Z)) Z λ_ _=>.aq Z<|.cd Z (λh46=>?_) (λh46=>?_)
   ·have j3:=h46;exact .sk<|.tN<|.me _ ⟨Z,Jt⟩ ⟨Z,Jt⟩ (λ_ s=>(s.pickT (hd:=[_,_,_,_]) (tl:=(AR++bs)) (hd':=[_,_,_,_]) [1,0,2,3] Z Z)) (by unfold Rq.endB;rw [<-k80];first | simp only [j1,j2,j3,aK,Bool.true_or,Bool.or_true,Bool.or_false] | simp only [j1,j2,aK,Bool.true_or,Bool.or_true] | simp only [j1,aK,Bool.true_or,Bool.or_true])
   have j3:=h46;exact .rg<|.fA Z jF<|.lD Z nU cP Z<|.yw (.eql Z Z)<|.aq Z<|.me _ ⟨Z,Jt⟩ ⟨Z,Jt⟩ (λ_ s=>(s.pickT (hd:=[_,_,_,_]) (tl:=(AR++bs)) (hd':=[_,_,_,_]) [1,0,2,3] Z Z)) (by unfold Rq.endB;rw [<-k80];first | simp only [j1,j2,j3,aK,Bool.true_or,Bool.or_true,Bool.or_false] | simp only [j1,j2,aK,Bool.true_or,Bool.or_true] | simp only [j1,aK,Bool.true_or,Bool.or_true])
  have ee:=hC;refine .cd Z (λh46=>?_) (λh46=>?_)
  ·have w46:=h46;refine .sm Z<|.cs (X:=Hp × Value × Value × List Value × List Value × List Res) oP Z (λW s=>tB K Wq S 1 (by omega) (St.mid (a:=[_,_,_]) (d:=[_]) (s.pickT (hd:=[_,_,_,_]) (tl:=(AR++bs)) (hd':=[_,_,_,_]) [1,2,3,0] Z Z))) Z λz9 hz9=>?_
   obtain ⟨H1,ro,rv,xo,xv,AR⟩:=z9;obtain ⟨u1,S⟩:=hz9;dsimp only at u1 S|-;refine Sx.reSt (λW s=>St.mid (a:=[_,_,_]) (d:=AR) (c:=[_]) s) ?_;obtain ⟨op7,x7,e7⟩:∃ op7 x7,jP 1 ((⟨q,op,x,true,dn⟩:Ps):Ps)=⟨q,op7,x7,true,dn⟩:=⟨_,_,Z⟩;rw [e7] at S|-;dsimp only at S|-;have W7:Fwf l ⟨q,op7,x7,true,dn⟩:=by rw [<-e7];exact tQ (by omega) Wq rfl
   obtain ⟨hm1,hm2⟩:=oJ W7 K.few;dsimp only at hm1 hm2;have hne7:op7≠[]:=W7.ne;have FE1:Fex (⟨q,op7,x7,true,dn⟩:Ps):=by rw [<-e7];exact zO FE
   refine .nt<|.rg<|.mv Z<|.cs (X:=Hp × Value × Value × List Value × List Value × List Res) MD Z (λW s=>OG (K.up u1.up) W7 S (λz hz=>bD (FE1 z hz) (bD (oV hq) K.few)) (St.mid (a:=[_,_,_]) (d:=[_]) (s.pickT (hd:=[_,_,_,_]) (tl:=(AR++bs)) (hd':=[_,_,_,_]) [0,1,2,3] Z Z))) Z λz9 hz9=>?_
   obtain ⟨H2,ro,rv,xo,xv,AR⟩:=z9;obtain ⟨u2,S⟩:=hz9;dsimp only at u2 S|-;refine Sx.reSt (λW s=>St.mid (a:=[_,_,_]) (d:=AR) (c:=[_]) s) ?_;refine .nl<|.bN<|?_
   refine jA (.inr Z) rfl .nil rfl λW s=>?_;have e0:fJ l (⟨q,op,x,true,dn⟩:Ps)=qC l (⟨q,op,x,true,dn⟩:Ps):=by unfold fJ;rw [show q.sym l=none from hsy]
   rw [e0];have e1:qC l (⟨q,op,x,true,dn⟩:Ps)=lV l (⟨q,op7,x7,true,dn⟩:Ps):=by unfold qC;rw [aG (show ¬ q.wrd l=true by rw [<-ew,w35];decide),aL (show q.endB l=true by rw [<-ee];exact w46),e7]
   rw [e1];exact ⟨(_,_,_,_,_,AR),⟨(u1.trans u2),⟨S.ops,S.vls⟩⟩,Z,s.pickT (hd:=[_,_,_,_]) (tl:=(AR++bs)) (hd':=[_,_,_]) [0,1,2] rfl rfl⟩
  have w46:=h46;refine .rg<|.mv Z<|.cs (X:=Unit) iR Z (λW s=>qD K hq 8 (s.pickT (hd:=[_,_,_,_]) (tl:=(AR++bs)) (hd':=[_,_,_,_]) [1,0,2,3] Z Z)) Z λ_ _=>.nl<|.bN<|?_
  refine jA (.inr Z) rfl .nil rfl λW s=>?_;have e0:fJ l (⟨q,op,x,true,dn⟩:Ps)=qC l (⟨q,op,x,true,dn⟩:Ps):=by unfold fJ;rw [show q.sym l=none from hsy]
  rw [e0];have e1:qC l (⟨q,op,x,true,dn⟩:Ps)=(⟨q,op,x,true,dn⟩:Ps).at (q.fail l 8):=by unfold qC;rw [aG (show ¬ q.wrd l=true by rw [<-ew,w35];decide),aG (show ¬ q.endB l=true by rw [<-ee,w46];decide)]
  rw [e1];exact ⟨(_,_,_,_,_,AR),⟨.refl,⟨S.ops,S.vls⟩⟩,Z,s.pickT (hd:=[_,_,_,_]) (tl:=(AR++bs)) (hd':=[_,_,_]) [0,2,3] rfl rfl⟩
 have hk24:¬ ((tkf l q.i).k=2\/(tkf l q.i).k=4):=λh=>by
  rw [h14] at e14;rcases h with h | h <;> rw [h] at e14 <;> simp at e14
 have hsy:q.sym l=none:=by unfold Rq.sym;rw [aG hk24]
 refine .sk<|.tN<|.bk<|.cu (X:=Bool) [(0,_),(2,_)] ⟨Z,Z,Jt⟩ (λz=>[(35,.bool z)]) (λz=>H) (λz=>(.box b2 (cTk .u8 (tkf l q.i)) 108::.box b [.slice tp l.length tc,iN q.i,ro,rv,.bool true,.bool dn,.bool x.2,iN q.off,iN q.er] 102::.row 97 11 (ro) (op.length) (xo)::.row 179 13 (rv) (x.1.length) (xv)::(AR++bs))) (λz=>z=q.wrd l) ?_ λz hC=>?_
 ·
  refine .sm Z<|.cs (X:=Unit) jN Z (λW s=>DW K hq [115,105,110,99,101] (s.pickT (hd:=[_,_,_,_]) (tl:=(AR++bs)) (hd':=[_,_,_,_]) [1,0,2,3] Z Z)) Z λ_ _=>.aq Z<|.cd Z (λh35=>?_) (λh35=>?_)
  ·have i1:=h35;exact .sk<|.tN<|.me _ ⟨Z,Jt⟩ ⟨Z,Z,Jt⟩ (λ_ s=>(s.pickT (hd:=[_,_,_,_]) (tl:=(AR++bs)) (hd':=[_,_,_,_]) [1,0,2,3] Z Z)) (by unfold Rq.wrd;first | simp only [i1,i2,i3,aK,Bool.true_or,Bool.or_true,Bool.or_false] | simp only [i1,i2,aK,Bool.true_or,Bool.or_true] | simp only [i1,aK,Bool.true_or,Bool.or_true])
  have i1:=h35;refine .sm Z<|.cs (X:=Unit) jN Z (λW s=>DW K hq [97,110,100] (s.pickT (hd:=[_,_,_,_]) (tl:=(AR++bs)) (hd':=[_,_,_,_]) [0,1,2,3] Z Z)) Z λ_ _=>.aq Z<|.cd Z (λh35=>?_) (λh35=>?_)
  ·have i2:=h35;exact .sk<|.tN<|.me _ ⟨Z,Jt⟩ ⟨Z,Z,Jt⟩ (λ_ s=>(s.pickT (hd:=[_,_,_,_]) (tl:=(AR++bs)) (hd':=[_,_,_,_]) [1,0,2,3] Z Z)) (by unfold Rq.wrd;first | simp only [i1,i2,i3,aK,Bool.true_or,Bool.or_true,Bool.or_false] | simp only [i1,i2,aK,Bool.true_or,Bool.or_true] | simp only [i1,aK,Bool.true_or,Bool.or_true])
  have i2:=h35;refine .sm Z<|.cs (X:=Unit) jN Z (λW s=>DW K hq [111,114] (s.pickT (hd:=[_,_,_,_]) (tl:=(AR++bs)) (hd':=[_,_,_,_]) [0,1,2,3] Z Z)) Z λ_ _=>.aq Z<|.cd Z (λh35=>?_) (λh35=>?_)
  ·have i3:=h35;exact .sk<|.tN<|.me _ ⟨Z,Jt⟩ ⟨Z,Z,Jt⟩ (λ_ s=>(s.pickT (hd:=[_,_,_,_]) (tl:=(AR++bs)) (hd':=[_,_,_,_]) [1,0,2,3] Z Z)) (by unfold Rq.wrd;first | simp only [i1,i2,i3,aK,Bool.true_or,Bool.or_true,Bool.or_false] | simp only [i1,i2,aK,Bool.true_or,Bool.or_true] | simp only [i1,aK,Bool.true_or,Bool.or_true])
  have i3:=h35;exact .rg<|.mv Z<|.cs (X:=Unit) jN Z (λW s=>DW K hq [105,109,112,108,105,101,115] (s.pickT (hd:=[_,_,_,_]) (tl:=(AR++bs)) (hd':=[_,_,_,_]) [0,1,2,3] Z Z)) Z λ_ _=>.aq Z<|.me _ ⟨Z,Jt⟩ ⟨Z,Z,Jt⟩ (λ_ s=>(s.pickT (hd:=[_,_,_,_]) (tl:=(AR++bs)) (hd':=[_,_,_,_]) [1,0,2,3] Z Z)) (by unfold Rq.wrd;first | simp only [i1,i2,i3,aK,Bool.true_or,Bool.or_true,Bool.or_false] | simp only [i1,i2,aK,Bool.true_or,Bool.or_true] | simp only [i1,aK,Bool.true_or,Bool.or_true])
 have ew:=hC;refine .cd Z (λh35=>?_) (λh35=>?_)
 ·have w35:=h35;refine .rg<|.mv Z<|.cs (X:=Hp × Value × Value × List Value × List Value × List Res) ME Z (λW s=>aT0 K Wq S G h0 (by rw [<-ew];exact w35) (St.mid (a:=[_,_,_]) (d:=[_]) (s.pickT (hd:=[_,_,_,_]) (tl:=(AR++bs)) (hd':=[_,_,_,_]) [1,2,3,0] Z Z))) Z λz9 hz9=>?_
  obtain ⟨H1,ro,rv,xo,xv,AR⟩:=z9;obtain ⟨u1,S⟩:=hz9;dsimp only at u1 S|-;refine Sx.reSt (λW s=>St.mid (a:=[_,_,_]) (d:=AR) (c:=[_]) s) ?_;refine .nl<|.bN<|?_
  refine jA (.inr Z) rfl .nil rfl λW s=>?_;have e0:fJ l (⟨q,op,x,true,dn⟩:Ps)=qC l (⟨q,op,x,true,dn⟩:Ps):=by unfold fJ;rw [show q.sym l=none from hsy]
  rw [e0];have e1:qC l (⟨q,op,x,true,dn⟩:Ps)=wQ l (⟨q,op,x,true,dn⟩:Ps):=by unfold qC;exact aL (by rw [<-ew];exact w35)
  rw [e1];exact ⟨(_,_,_,_,_,AR),⟨u1,⟨S.ops,S.vls⟩⟩,Z,s.pickT (hd:=[_,_,_,_]) (tl:=(AR++bs)) (hd':=[_,_,_]) [0,1,2] rfl rfl⟩
 have w35:=h35;refine .cu (X:=Bool) [(0,_)] ⟨Z,Jt⟩ (λz=>[(46,.bool z)]) (λz=>H) (λz=>(.box b2 (cTk .u8 (tkf l q.i)) 108::.box b [.slice tp l.length tc,iN q.i,ro,rv,.bool true,.bool dn,.bool x.2,iN q.off,iN q.er] 102::.row 97 11 (ro) (op.length) (xo)::.row 179 13 (rv) (x.1.length) (xv)::(AR++bs))) (λz=>z=q.endB l) ?_ λz hC=>?_
 ·
  refine .sm Z<|.cs (X:=Unit) jN Z (λW s=>DW K hq [41] (s.pickT (hd:=[_,_,_,_]) (tl:=(AR++bs)) (hd':=[_,_,_,_]) [1,0,2,3] Z Z)) Z λ_ _=>.aq Z<|.cd Z (λh46=>?_) (λh46=>?_)
  ·have j1:=h46;exact .sk<|.tN<|.me _ ⟨Z,Jt⟩ ⟨Z,Jt⟩ (λ_ s=>(s.pickT (hd:=[_,_,_,_]) (tl:=(AR++bs)) (hd':=[_,_,_,_]) [1,0,2,3] Z Z)) (by unfold Rq.endB;rw [<-k80];first | simp only [j1,j2,j3,aK,Bool.true_or,Bool.or_true,Bool.or_false] | simp only [j1,j2,aK,Bool.true_or,Bool.or_true] | simp only [j1,aK,Bool.true_or,Bool.or_true])
  have j1:=h46;refine .sm Z<|.cs (X:=Unit) jN Z (λW s=>DW K hq [93] (s.pickT (hd:=[_,_,_,_]) (tl:=(AR++bs)) (hd':=[_,_,_,_]) [0,1,2,3] Z Z)) Z λ_ _=>.aq Z<|.cd Z (λh46=>?_) (λh46=>?_)
  ·have j2:=h46;exact .sk<|.tN<|.me _ ⟨Z,Jt⟩ ⟨Z,Jt⟩ (λ_ s=>(s.pickT (hd:=[_,_,_,_]) (tl:=(AR++bs)) (hd':=[_,_,_,_]) [1,0,2,3] Z Z)) (by unfold Rq.endB;rw [<-k80];first | simp only [j1,j2,j3,aK,Bool.true_or,Bool.or_true,Bool.or_false] | simp only [j1,j2,aK,Bool.true_or,Bool.or_true] | simp only [j1,aK,Bool.true_or,Bool.or_true])
  have j2:=h46;refine .sm Z<|.cs (X:=Unit) jN Z (λW s=>DW K hq [44] (s.pickT (hd:=[_,_,_,_]) (tl:=(AR++bs)) (hd':=[_,_,_,_]) [0,1,2,3] Z Z)) Z λ_ _=>.aq Z<|.cd Z (λh46=>?_) (λh46=>?_)
  ·have j3:=h46;exact .sk<|.tN<|.me _ ⟨Z,Jt⟩ ⟨Z,Jt⟩ (λ_ s=>(s.pickT (hd:=[_,_,_,_]) (tl:=(AR++bs)) (hd':=[_,_,_,_]) [1,0,2,3] Z Z)) (by unfold Rq.endB;rw [<-k80];first | simp only [j1,j2,j3,aK,Bool.true_or,Bool.or_true,Bool.or_false] | simp only [j1,j2,aK,Bool.true_or,Bool.or_true] | simp only [j1,aK,Bool.true_or,Bool.or_true])
  have j3:=h46;exact .rg<|.fA Z jF<|.lD Z nU cP Z<|.yw (.eql Z Z)<|.aq Z<|.me _ ⟨Z,Jt⟩ ⟨Z,Jt⟩ (λ_ s=>(s.pickT (hd:=[_,_,_,_]) (tl:=(AR++bs)) (hd':=[_,_,_,_]) [1,0,2,3] Z Z)) (by unfold Rq.endB;rw [<-k80];first | simp only [j1,j2,j3,aK,Bool.true_or,Bool.or_true,Bool.or_false] | simp only [j1,j2,aK,Bool.true_or,Bool.or_true] | simp only [j1,aK,Bool.true_or,Bool.or_true])
 have ee:=hC;refine .cd Z (λh46=>?_) (λh46=>?_)
 ·have w46:=h46;refine .sm Z<|.cs (X:=Hp × Value × Value × List Value × List Value × List Res) oP Z (λW s=>tB K Wq S 1 (by omega) (St.mid (a:=[_,_,_]) (d:=[_]) (s.pickT (hd:=[_,_,_,_]) (tl:=(AR++bs)) (hd':=[_,_,_,_]) [1,2,3,0] Z Z))) Z λz9 hz9=>?_
  obtain ⟨H1,ro,rv,xo,xv,AR⟩:=z9;obtain ⟨u1,S⟩:=hz9;dsimp only at u1 S|-;refine Sx.reSt (λW s=>St.mid (a:=[_,_,_]) (d:=AR) (c:=[_]) s) ?_;obtain ⟨op7,x7,e7⟩:∃ op7 x7,jP 1 ((⟨q,op,x,true,dn⟩:Ps):Ps)=⟨q,op7,x7,true,dn⟩:=⟨_,_,Z⟩;rw [e7] at S|-;dsimp only at S|-;have W7:Fwf l ⟨q,op7,x7,true,dn⟩:=by rw [<-e7];exact tQ (by omega) Wq rfl
  obtain ⟨hm1,hm2⟩:=oJ W7 K.few;dsimp only at hm1 hm2;have hne7:op7≠[]:=W7.ne;have FE1:Fex (⟨q,op7,x7,true,dn⟩:Ps):=by rw [<-e7];exact zO FE
  refine .nt<|.rg<|.mv Z<|.cs (X:=Hp × Value × Value × List Value × List Value × List Res) MD Z (λW s=>OG (K.up u1.up) W7 S (λz hz=>bD (FE1 z hz) (bD (oV hq) K.few)) (St.mid (a:=[_,_,_]) (d:=[_]) (s.pickT (hd:=[_,_,_,_]) (tl:=(AR++bs)) (hd':=[_,_,_,_]) [0,1,2,3] Z Z))) Z λz9 hz9=>?_
  obtain ⟨H2,ro,rv,xo,xv,AR⟩:=z9;obtain ⟨u2,S⟩:=hz9;dsimp only at u2 S|-;refine Sx.reSt (λW s=>St.mid (a:=[_,_,_]) (d:=AR) (c:=[_]) s) ?_;refine .nl<|.bN<|?_
  refine jA (.inr Z) rfl .nil rfl λW s=>?_;have e0:fJ l (⟨q,op,x,true,dn⟩:Ps)=qC l (⟨q,op,x,true,dn⟩:Ps):=by unfold fJ;rw [show q.sym l=none from hsy]
  rw [e0];have e1:qC l (⟨q,op,x,true,dn⟩:Ps)=lV l (⟨q,op7,x7,true,dn⟩:Ps):=by unfold qC;rw [aG (show ¬ q.wrd l=true by rw [<-ew,w35];decide),aL (show q.endB l=true by rw [<-ee];exact w46),e7]
  rw [e1];exact ⟨(_,_,_,_,_,AR),⟨(u1.trans u2),⟨S.ops,S.vls⟩⟩,Z,s.pickT (hd:=[_,_,_,_]) (tl:=(AR++bs)) (hd':=[_,_,_]) [0,1,2] rfl rfl⟩
 have w46:=h46;refine .rg<|.mv Z<|.cs (X:=Unit) iR Z (λW s=>qD K hq 8 (s.pickT (hd:=[_,_,_,_]) (tl:=(AR++bs)) (hd':=[_,_,_,_]) [1,0,2,3] Z Z)) Z λ_ _=>.nl<|.bN<|?_
 refine jA (.inr Z) rfl .nil rfl λW s=>?_;have e0:fJ l (⟨q,op,x,true,dn⟩:Ps)=qC l (⟨q,op,x,true,dn⟩:Ps):=by unfold fJ;rw [show q.sym l=none from hsy]
 rw [e0];have e1:qC l (⟨q,op,x,true,dn⟩:Ps)=(⟨q,op,x,true,dn⟩:Ps).at (q.fail l 8):=by unfold qC;rw [aG (show ¬ q.wrd l=true by rw [<-ew,w35];decide),aG (show ¬ q.endB l=true by rw [<-ee,w46];decide)]
 rw [e1];exact ⟨(_,_,_,_,_,AR),⟨.refl,⟨S.ops,S.vls⟩⟩,Z,s.pickT (hd:=[_,_,_,_]) (tl:=(AR++bs)) (hd':=[_,_,_]) [0,2,3] rfl rfl⟩
theorem NQ (q:UInt8->Bool) (c:UInt8) (r:Str):pre q (c::r)=if q c then pre q r+1 else 0:=by
 unfold pre;rw [dT]
 split <;> simp
theorem NP (q:UInt8->Bool):∀ (m:Str),pre q (m.take (pre q m))=pre q m
 | []=>rfl
 | c::r=>by
  rw [NQ];cases h:q c with
  | false=>rw [aG (by decide)];rfl
  | true=>rw [aL rfl,List.take_succ_cons,NQ,h,aL rfl,NP q r]
theorem WT (h:m≠[]) (hk:(cI m).1=3):pre iX (m.take (cI m).2)=(m.take (cI m).2).length:=by
 have key:(cI m).2=pre iX m:=by
  match m,h with
  | c::r,_ =>
   cases h1:pJ c with
   | true =>
    exfalso
    revert hk
    cases h4:words.contains ((c::r).take (pre jC (c::r))) with
    | true=>simp only [cI,aV,h1,h4,bS];decide
    | false =>
     by_cases h5:pre jC (c::r)<=12
     ·simp only [cI,aV,h1,h4,h5,bS,aI,bL];decide
     ·simp only [cI,aV,h1,h4,h5,bS,aI,bL];decide
   | false =>
    cases h4:iX c with
    | true =>
     by_cases h5:pre iX (c::r)=1\/c≠48
     ·simp only [cI,aV,h1,h4,h5,bS,aI,bL]
     ·exfalso;revert hk;simp only [cI,aV,h1,h4,h5,bS,aI,bL];decide
    | false =>
     exfalso
     revert hk
     cases hx:symbols.find? (λx=>x.isPrefixOf (c::r)) <;> simp only [cI,aV,h1,h4,hx,aI,bL] <;> decide
 rw [key,NP,fI,xD (AW iX m)]
theorem NG:∀ (f o:Nat) (m:Str),∀ t∈AS f o m,t.k=3->pre iX t.t=t.t.length
 | 0,_,_,t,h=>by cases h
 | f+1,o,m,t,h=>by
  by_cases h0:m=[]
  ·rw [h0,sS] at h;cases h
  ·rw [qN h0] at h;rcases bM.1 h with rfl | h
   ·exact λhk=>WT h0 hk
   ·exact NG f _ _ t h
theorem aF7 (s:Str):∀ t∈wM s,t.k=3->pre iX t.t=t.t.length:=NG _ _ _
theorem IA:∀ (f o:Nat) (m:Str),∀ t∈AS f o m,t.t.length<=m.length
 | 0,_,_,t,h=>by cases h
 | f+1,o,m,t,h=>by
  by_cases h0:m=[]
  ·rw [h0,sS] at h;cases h
  ·rw [qN h0] at h;rcases bM.1 h with rfl | h
   ·show (m.take _).length<=_;rw [fI];omega
   ·have h1:=IA f _ _ t h;have h2:=nO false (m.drop (cI m).2);rw [cW] at h2;omega
theorem II (s:Str):∀ t∈wM s,t.t.length<=s.length:=λt h=>bD (IA _ _ _ t h) (nO false s)

theorem aE1 (h:m≠[]) (hk:(cI m).1=1):(m.take (cI m).2).all jC=true:=by
 have key:(cI m).2=pre jC m:=by
  match m,h with
  | c::r,_ =>
   cases h1:pJ c with
   | true =>
    revert hk
    cases h4:words.contains ((c::r).take (pre jC (c::r))) with
    | true=>simp only [cI,aV,h1,h4,bS];decide
    | false =>
     by_cases h5:pre jC (c::r)<=12
     ·simp only [cI,aV,h1,h4,h5,bS,aI,bL];exact λ_=>trivial
     ·simp only [cI,aV,h1,h4,h5,bS,aI,bL];intro h;exact absurd h (by decide)
   | false =>
    exfalso
    revert hk
    cases h4:iX c with
    | true =>
     by_cases h5:pre iX (c::r)=1\/c≠48
     ·simp only [cI,aV,h1,h4,h5,bS,aI,bL];decide
     ·simp only [cI,aV,h1,h4,h5,bS,aI,bL];decide
    | false =>
     cases hx:symbols.find? (λx=>x.isPrefixOf (c::r)) <;> simp only [cI,aV,h1,h4,hx,aI,bL] <;> decide
 rw [key];unfold pre
 have:m.take (m.takeWhile jC).length=m.takeWhile jC:=by
  have:=List.takeWhile_append_dropWhile (p:=jC) (l:=m)
  conv=>lhs;rw [<-this]
  rw [List.take_left' (by rw [this])]
 rw [this];exact List.all_takeWhile
theorem SL:∀ (f o:Nat) (m:Str),∀ t∈AS f o m,t.k=1->t.t.all jC=true
 | 0,_,_,t,h=>by cases h
 | f+1,o,m,t,h=>by
  by_cases h0:m=[]
  ·rw [h0,sS] at h;cases h
  ·rw [qN h0] at h;rcases bM.1 h with rfl | h
   ·exact λhk=>aE1 h0 hk
   ·exact SL f _ _ t h
theorem aS2 (s:Str):∀ t∈wM s,t.k=1->t.t.all jC=true:=SL _ _ _
def bR8 (s:Str):Tk:=⟨0,[],s.length⟩
def nN (s:Str):Tks:=wM s++[bR8 s]
theorem wE (s:Str):(nN s).length=(wM s).length+1:=by unfold nN;rw [aF];rfl
theorem NH (s:Str) (i:Nat):tkf (nN s) i∈wM s\/(tkf (nN s) i).k=0:=by
 unfold tkf nN;rw [List.getD_eq_getElem?_getD]
 by_cases h:i<(wM s).length
 ·rw [List.getElem?_append_left h,List.getElem?_eq_getElem h];exact .inl (bU h)
 ·rw [List.getElem?_append_right (by omega)];cases e:i - (wM s).length with
  | zero=>exact .inr rfl
  | succ n=>exact .inr rfl
theorem aN1 (s:Str):Tgd (nN s):=by
 refine ⟨λi hi hk=>?_,λi hk=>?_,λi hk=>?_⟩
 ·rw [wE] at hi|-;refine Classical.byContradiction λhn=>hk ?_;have e:i=(wM s).length:=by omega
  unfold tkf nN;rw [List.getD_eq_getElem?_getD,List.getElem?_append_right (by omega),e,iW];rfl
 ·rcases NH s i with h | h
  ·exact (NT s _ h).2.2
  ·rw [h] at hk;exact absurd hk (by decide)
 ·rcases NH s i with h | h
  ·exact XB (aS2 s _ h hk)
  ·rw [h] at hk;exact absurd hk (by decide)
/-! ### Lists that are not long -/
section
variable {N:Nat} {l:Tks} {q:Ps} {c:Rq} {o:Ov} {v:Vl} {x:Vb} {f:Fm}
def VbN (N:Nat) (x:Vb):Prop:=∀ v∈x.1,blE N v.e=true/\blF N v.f=true
structure Fbd (N:Nat) (q:Ps):Prop where
 x:VbN N q.x
 op:∀ o∈q.op,blF N o.f=true
theorem AL:blE N zE=true:=BN.2 ⟨aO _,λa h=>(by cases h)⟩
theorem jY {op:UInt8} {nm fd:Str} {a b:Int64}:blF N (.mk op nm fd a b [] [])=true:=vD.2 ⟨⟨aO _,aO _,λa h=>(by cases h)⟩,λa h=>(by cases h)⟩
theorem BO {op:UInt8} {nm:Str} {z:Int64} {es:List Ex} (h:es.length<=N) (k:∀ e∈es,blE N e=true):blE N (.mk op nm z es)=true:=BN.2 ⟨h,k⟩
theorem RP {gs:List Fm} (h:blF N f=true) (hl:gs.length<=N) (hg:∀ g∈gs,blF N g=true):blF N (f.wAr gs)=true:=by
 obtain ⟨op,nm,fd,a,b,ex,args⟩:=f;have:=vD.1 h;exact vD.2 ⟨⟨this.1.1,hl,this.1.2.2⟩,hg⟩
theorem JO {es:List Ex} (h:blF N f=true) (hl:es.length<=N) (hg:∀ g∈es,blE N g=true):blF N (f.wEx es)=true:=by
 obtain ⟨op,nm,fd,a,b,ex,args⟩:=f;have:=vD.1 h;exact vD.2 ⟨⟨hl,this.1.2.1,hg⟩,this.2⟩
theorem bS4 (h:blF N f=true):∀ e∈f.ex,blE N e=true:=by
 obtain ⟨op,nm,fd,a,b,ex,args⟩:=f;exact (vD.1 h).1.2.2
theorem IZ (h:VbN N x):blE N (rC x).e=true/\blF N (rC x).f=true:=by
 unfold rC;cases e:x.1 with
 | nil=>exact ⟨AL,jY⟩
 | cons v r=>exact h v (by rw [e];exact aY ..)
theorem WB {b:Bool} (h:VbN N x):VbN N (x.1.tail,b):=λv hv=>h v (List.mem_of_mem_tail hv)
theorem wC (h:VbN N x):VbN N (tS x):=WB h
theorem JV (h:VbN N x):VbN N (fS x):=WB h
theorem DM (h:VbN N x):blE N (tE x)=true:=(IZ h).1
theorem GP (h:VbN N x):blF N (fF x)=true:=by
 unfold fF Vl.fm
 split
 ·exact jY
 ·exact (IZ h).2
theorem yZ (h:VbN N x) (he:blE N v.e=true) (hf:blF N v.f=true):VbN N (x.put v):=λu hu=>by
 rcases bM.1 hu with rfl | hu
 ·exact ⟨he,hf⟩
 ·exact h u hu
theorem bl1 {e:Ex} (hN:2<=N) (h:blE N e=true):([e]:List Ex).length<=N/\∀ x∈[e],blE N x=true:=⟨by show 1<=N;omega,λx hx=>by rw [bQ.1 hx];exact h⟩
theorem bl2 {e g:Ex} (hN:2<=N) (h:blE N e=true) (k:blE N g=true):([e,g]:List Ex).length<=N/\∀ x∈[e,g],blE N x=true:=⟨hN,λx hx=>by
 rcases bM.1 hx with rfl | hx
 ·exact h
 ·rw [bQ.1 hx];exact k⟩
theorem bf1 {e:Fm} (hN:2<=N) (h:blF N e=true):([e]:List Fm).length<=N/\∀ x∈[e],blF N x=true:=⟨by show 1<=N;omega,λx hx=>by rw [bQ.1 hx];exact h⟩
theorem bf2 {e g:Fm} (hN:2<=N) (h:blF N e=true) (k:blF N g=true):([e,g]:List Fm).length<=N/\∀ x∈[e,g],blF N x=true:=⟨hN,λx hx=>by
 rcases bM.1 hx with rfl | hx
 ·exact h
 ·rw [bQ.1 hx];exact k⟩
theorem aM1 (hN:2<=N) (h:VbN N x) (ho:blF N o.f=true):VbN N (vB o x):=by
 unfold vB
 split
 ·have:=bl1 hN (DM h);exact yZ (wC h) (BO this.1 this.2) jY
 split
 ·have:=bl2 hN (DM (wC h)) (DM h);exact yZ (wC (wC h)) (BO this.1 this.2) jY
 split
 ·have:=bl2 hN (DM (wC h)) (DM h);have k:=bl1 hN (BO (op:=o.op) (nm:=[]) (z:=0) this.1 this.2);exact yZ (wC (wC h)) AL (vD.2 ⟨⟨k.1,aO _,k.2⟩,λa h=>(by cases h)⟩)
 split
 ·have:=bf1 hN (GP h);exact yZ (JV h) AL (RP ho this.1 this.2)
 split
 ·have:=bf2 hN (GP (JV h)) (GP h);exact yZ (JV (JV h)) AL (RP ho this.1 this.2)
 ·exact h
theorem ZE (hN:2<=N) {lv:Nat}:∀ (r:List Ov) (x:Vb),(∀ o∈r,blF N o.f=true)->VbN N x->VbN N (wI lv r x).2
 | [],x,_,h=>h
 | o::r,x,ho,h=>by
  rw [wI]
  split
  ·exact ZE hN r _ (λz hz=>ho z (bT _ hz)) (aM1 hN h (ho o (aY ..)))
  ·exact h
theorem JM (hN:2<=N) {lv:Nat} (h:Fbd N q):Fbd N (jP lv q):=⟨ZE hN q.op q.x h.op h.x,λo ho=>h.op o (KI q.op q.x o ho)⟩
theorem mS (h:Fbd N q) (ho:blF N o.f=true):Fbd N (fK o (q.at c)):=⟨h.x,λz hz=>by
 rcases bM.1 hz with rfl | hz
 ·rw [bL8];exact ho
 ·exact h.op z hz⟩
theorem rT (h:Fbd N q) (he:blE N v.e=true) (hf:blF N v.f=true):Fbd N (iF v (q.at c)):=⟨yZ h.x he hf,h.op⟩
theorem HE (h:Fbd N q):Fbd N (q.at c):=⟨h.x,h.op⟩
theorem FX (h:Fbd N q) (hx:VbN N x) (he:blE N v.e=true) (hf:blF N v.f=true):Fbd N (GA c v x q):=⟨yZ hx he hf,λo ho=>h.op o (List.mem_of_mem_tail ho)⟩
theorem jK {c:Prop} [Decidable c] {a b:Ps} (h1:c->Fbd N a) (h2:¬ c->Fbd N b):Fbd N (if c then a else b):=by
 by_cases hc:c
 ·rw [aL hc];exact h1 hc
 ·rw [aG hc];exact h2 hc
theorem aW0 {q':Ps} (h:Fbd N q) (e:mJ l q=some q'):Fbd N q':=by
 unfold mJ at e
 split at e
 ·injection e with e;subst e;exact mS h jY
 split at e
 ·injection e with e;subst e;exact mS h jY
 split at e
 ·injection e with e;subst e;exact mS h jY
 split at e
 ·injection e with e;subst e;exact mS h jY
 split at e
 ·injection e with e;subst e;exact mS h jY
 split at e
 ·injection e with e;subst e;exact mS h jY
 split at e
 ·injection e with e;subst e;exact mS h jY
 ·cases e
theorem aH3 {op:UInt8} {nm:Str} {z:Int64}:blE N (.mk op nm z [])=true:=BO (aO _) λa h=>(by cases h)
theorem bI2 (h:Fbd N q):Fbd N (vQ l q):=by
 unfold vQ;exact jK (λ_=>jK (λ_=>mS h jY) λ_=>rT h aH3 jY) λ_=>rT h aH3 jY
theorem bI8 (h:Fbd N q):Fbd N (yP l q):=by
 unfold yP;exact jK (λ_=>rT h AL jY) λ_=>mS h jY
theorem bI3 (h:Fbd N q):Fbd N (pW l q):=by
 unfold pW
 exact jK (λ_=>mS h jY) λ_=>jK (λ_=>mS h jY) λ_=>jK (λ_=>rT h aH3 jY) λ_=>jK (λ_=>bI2 h) λ_ =>
  jK (λ_=>rT h aH3 jY) λ_=>jK (λ_=>rT h aH3 jY) λ_=>jK (λ_=>rT h AL jY) λ_=>jK (λ_=>rT h AL jY) λ_ =>
  jK (λ_=>rT h AL jY) λ_=>jK (λ_=>mS h jY) λ_=>jK (λ_=>bI8 (HE h)) λ_=>HE h
theorem VB (h:Fbd N q):Fbd N (dU l q):=by
 unfold dU;cases e:(if xY q then mJ l q else none) with
 | some q' =>
  split at e
  ·exact aW0 h e
  ·cases e
 | none =>
  show Fbd N (wH l q);unfold wH;exact jK (λ_=>rT h AL jY) λ_=>bI3 h
theorem bI7 (hN:2<=N) {op:UInt8} (h:Fbd N q):Fbd N (rK l op q):=by
 have f {lv:Nat} {c:Rq}:Fbd N ((jP lv q).at c):=HE (JM hN h);have p {lv:Nat} {c:Rq} {o:Ov} (ho:blF N o.f=true):Fbd N (fK o ((jP lv q).at c)):=mS (JM hN h) ho;unfold rK;exact jK (λ_=>jK (λ_=>f) λ_=>p jY) λ_=>jK (λ_=>jK (λ_=>f) λ_=>p jY) λ_=>jK (λ_=>f) λ_=>p jY
theorem bP7 (c:Rq):blF N (c.joV l)=true:=by
 unfold Rq.joV
 split
 ·exact jY
 split
 ·exact jY
 split
 ·exact jY
 split
 ·exact jY
 ·exact jY
theorem bI4 (hN:2<=N) (h:Fbd N q):Fbd N (wQ l q):=by
 unfold wQ;exact jK (λ_=>HE h) λ_=>mS (q:=jP _ q) (c:=q.c.joS l) (JM hN h) (bP7 _)
theorem aA4 (h:Fbd N q):blF N (dM q).f=true:=by
 unfold dM;cases e:q.op with
 | nil=>exact jY
 | cons o r=>exact h.op o (by rw [e];exact aY ..)
theorem bH6 (h:Fex q):(dM q).f.ex.length<=q.c.i:=by
 unfold dM;cases e:q.op with
 | nil=>exact aO _
 | cons o r=>exact h o (by rw [e];exact aY ..)
theorem bJ9 (h:Fbd N q) (k:Fex q) (hi:q.c.i<N):((dM q).f.ex++[tE q.x]).length<=N/\∀ e∈(dM q).f.ex++[tE q.x],blE N e=true:=by
 refine ⟨?_,λe he=>?_⟩
 ·rw [aF];have:=bH6 k;simp only [aJ,aM];omega
 ·rcases cC.1 he with he | he
  ·exact bS4 (aA4 h) e he
  ·rw [bQ.1 he];exact DM h.x
theorem bI6 (hN:2<=N) (h:Fbd N q) (k:Fex q) (hi:q.c.i<N):Fbd N (lV l q):=by
 have s:=bJ9 h k hi;have t:=aA4 h;have e1:=bl1 hN (DM h.x);unfold lV
 refine jK (λ_=>⟨h.x,h.op⟩) λ_=>jK (λ_=>FX h (WB h.x) (IZ h.x).1 (IZ h.x).2) λ_=>jK (λ_=>?_) λ_ =>
  jK (λ_=>jK (λ_=>FX h (wC h.x) (BO e1.1 e1.2) jY) λ_=>FX h (wC h.x) AL (JO t e1.1 e1.2)) λ_ =>
  jK (λ_=>⟨wC h.x,λz hz=>?_⟩) λ_=>jK (λ_=>FX h (wC h.x) AL (JO t s.1 s.2)) λ_=>HE h
 ·have n1:=bl1 (e:=.mk 1 [] ((q.c.nx.exS l [62,61]).nbV l) []) hN aH3;have f1:=bf1 hN (GP h.x);exact FX h (JV h.x) AL (RP (JO t n1.1 n1.2) f1.1 f1.2)
 ·have hz':z∈(⟨(dM q).kd,(dM q).lv,(dM q).tm,(dM q).op,(dM q).f.wEx ((dM q).f.ex++[tE q.x])⟩:Ov)::q.op.tail:=hz;rcases bM.1 hz' with e | hz
  ·subst e;exact JO t s.1 s.2
  ·exact h.op z (List.mem_of_mem_tail hz)
theorem aV9 (hN:2<=N) (h:Fbd N q) (k:Fex q) (hi:q.c.i<N):Fbd N (kM l q):=by
 unfold kM;refine jK (λ_=>?_) λ_=>VB h;unfold fJ;cases q.c.sym l with
 | some i=>exact bI7 hN h
 | none =>
  show Fbd N (qC l q);unfold qC;exact jK (λ_=>bI4 hN h) λ_=>jK (λ_=>bI6 hN (JM hN h) (zO k) hi) λ_=>HE h
theorem bI5:Fbd N LB:=⟨λv h=>(by cases h),λo ho=>by rw [bQ.1 ho];exact jY⟩
/-! ### Where it ends, an operand stands ready -/
def Dnr (q:Ps):Prop:=q.dn=false\/q.rd=true
theorem jL {c:Prop} [Decidable c] {a b:Ps} (h1:c->Dnr a) (h2:¬ c->Dnr b):Dnr (if c then a else b):=by
 by_cases hc:c
 ·rw [aL hc];exact h1 hc
 ·rw [aG hc];exact h2 hc
theorem aW9 (hd:q.dn=false):Dnr (kM l q):=by
 have pu {o:Ov} {c:Rq}:Dnr (fK o (q.at c)):=.inl hd;have gi {v:Vl} {c:Rq}:Dnr (iF v (q.at c)):=.inl hd;have at_ {c:Rq}:Dnr (q.at c):=.inl hd
 have opd:Dnr (dU l q):=by
  unfold dU;cases e:(if xY q then mJ l q else none) with
  | some q' =>
   split at e
   ·unfold mJ at e
    split at e
    ·injection e with e;subst e;exact pu
    split at e
    ·injection e with e;subst e;exact pu
    split at e
    ·injection e with e;subst e;exact pu
    split at e
    ·injection e with e;subst e;exact pu
    split at e
    ·injection e with e;subst e;exact pu
    split at e
    ·injection e with e;subst e;exact pu
    split at e
    ·injection e with e;subst e;exact pu
    ·cases e
   ·cases e
  | none =>
   show Dnr (wH l q);unfold wH pW vQ yP
   refine jL (λ_=>gi) λ_=>jL (λ_=>pu) λ_=>jL (λ_=>pu) λ_=>jL (λ_=>gi) λ_=>jL (λ_=>jL (λ_=>jL (λ_=>pu) λ_=>gi) λ_=>gi) λ_ =>
    jL (λ_=>gi) λ_=>jL (λ_=>gi) λ_=>jL (λ_=>gi) λ_=>jL (λ_=>gi) λ_=>jL (λ_=>gi) λ_=>jL (λ_=>pu) λ_=>jL (λ_=>jL (λ_=>.inl hd) λ_=>.inl hd) λ_=>at_
 unfold kM;refine jL (λhr=>?_) λ_=>opd;unfold fJ;cases q.c.sym l with
 | some i =>
  show Dnr (rK l _ q);unfold rK;exact jL (λ_=>jL (λ_=>.inl hd) λ_=>.inl hd) λ_=>jL (λ_=>jL (λ_=>.inl hd) λ_=>.inl hd) λ_=>jL (λ_=>.inl hd) λ_=>.inl hd
 | none =>
  show Dnr (qC l q);unfold qC wQ lV;exact jL (λ_=>jL (λ_=>.inl hd) λ_=>.inl hd) λ_=>jL (λ_=>jL (λ_=>.inr hr) λ_=>jL (λ_=>.inl hd) λ_=>jL (λ_=>.inl hd) λ_=>jL (λ_=>jL (λ_=>.inl hd) λ_=>.inl hd) λ_=>jL (λ_=>.inl hd) λ_=>jL (λ_=>.inl hd) λ_=>.inl hd) λ_=>.inl hd
end
end Go.Proofs.YtidclioghdbphaaGreatDoor
