/- Texts of the proof, one behind the other. -/
import Derived.Test.YtidclioghdbphaaGreatDoorMg
set_option linter.all false
set_option maxRecDepth 100000
namespace Go.Proofs.YtidclioghdbphaaGreatDoor
open Go.RowKit Go.Par Go.Sx Tryz
def Gq (H:Hp):Prop:=∀ W,Agr H W->Lib.TabIs prg W "internal/strconv.uint64pow10" .u64 Lib.pow10Tab
variable {H H':Hp}
theorem Gq.up (g:Gq H) (u:Up H H'):Gq H':=λW a=>g W ⟨λb o e=>a b o (u b o e),u.lo ▸ a.lo⟩
theorem YQ {w:World} (os:Array Obj):Ext w (Sort.grow w os) :=
 Ext.of_below ⟨Z,Z,Z,by simp [Sort.grow],λk hk=>by simp [Sort.grow,Array.getElem?_append,hk]⟩
theorem QN (H:Hp) (g:Gq H) (n:Int64) (w:World) (hA:Agr H w):Calls prg 138 #[.int .i64 n.toInt,.int .i64 10] w λr w'=>r=.returned (bJ (Lib.itoa n.toInt))/\Ext w w' :=
 (Tryz.strconv_FormatInt_10 n.toInt (by have:=n.le_toInt;omega) (by have:=n.toInt_lt;omega) w (g w hA)).mono λ_ _ ⟨he,k,os,hw⟩=>⟨he,hw ▸ ((Ext.refl w).drewN k).trans (YQ os)⟩
theorem HZ (H:Hp) (g:Gq H) (n:Int64) (w:World) (hA:Agr H w):Calls prg 144 #[.int .i64 n.toInt] w λr w'=>r=.returned (bJ (Lib.itoa n.toInt))/\Ext w w' :=
 (Tryz.strconv_Itoa n.toInt (by have:=n.le_toInt;omega) (by have:=n.toInt_lt;omega) w (g w hA)).mono λ_ _ ⟨he,k,os,hw⟩=>⟨he,hw ▸ ((Ext.refl w).drewN k).trans (YQ os)⟩
theorem aJ4 (H:Hp) (op:UInt8) (w:World) (hA:Agr H w):Calls prg 140 #[.int .u8 op.toNat] w λr w'=>r=.returned (iN (tlv op))/\Ext w w':=by
 refine Sx.enter (H:=H) func140 rfl ntmps140 rfl hA ?_;refine .sr<|.aq Z<|.sq<|.sm Z<|.nt<|.bk<|.sq<|.sr<|.yw (.eql Z Z)<|.aq Z<|.cr Z (λh4=>?_) (λh4=>?_)
 ·have qa:op=14:=aR.1 (by have:=aI h4;show op.toNat=14;omega);refine .sk<|.tN<|.cT Z<|.sr<|.az Z<|.bR<|.tR<|?_
  refine yE Z Z ?_
  (rw [cM8 (.inl qa)];rfl)
 have qa14:¬ op=14:=λe=>aJ h4 (by rw [e];rfl);refine .rg<|.yw (.eql Z Z)<|.aq Z<|.cr Z (λh4=>?_) (λh4=>?_)
 ·have qa:op=15:=aR.1 (by have:=aI h4;show op.toNat=15;omega);refine .sr<|.az Z<|.bR<|.tR<|?_
  refine yE Z Z ?_
  (rw [cM8 (.inr qa)];rfl)
 have qa15:¬ op=15:=λe=>aJ h4 (by rw [e];rfl);refine .sq<|.sr<|.yw (.eql Z Z)<|.aq Z<|.cr Z (λh7=>?_) (λh7=>?_)
 ·have qb:op=11:=aR.1 (by have:=aI h7;show op.toNat=11;omega);refine .sk<|.tN<|.cT Z<|.sr<|.az Z<|.bR<|.tR<|?_
  refine yE Z Z ?_
  (rw [cE5 (.inl qb)];rfl)
 have qb11:¬ op=11:=λe=>aJ h7 (by rw [e];rfl);refine .sr<|.yw (.eql Z Z)<|.aq Z<|.cr Z (λh7=>?_) (λh7=>?_)
 ·have qb:op=12:=aR.1 (by have:=aI h7;show op.toNat=12;omega);refine .sk<|.tN<|.cT Z<|.sr<|.az Z<|.bR<|.tR<|?_
  refine yE Z Z ?_
  (rw [cE5 (.inr (.inl qb))];rfl)
 have qb12:¬ op=12:=λe=>aJ h7 (by rw [e];rfl);refine .rg<|.yw (.eql Z Z)<|.aq Z<|.cr Z (λh7=>?_) (λh7=>?_)
 ·have qb:op=13:=aR.1 (by have:=aI h7;show op.toNat=13;omega);refine .sr<|.az Z<|.bR<|.tR<|?_
  refine yE Z Z ?_
  (rw [cE5 (.inr (.inr qb))];rfl)
 have qb13:¬ op=13:=λe=>aJ h7 (by rw [e];rfl);refine .sr<|.yw (.eql Z Z)<|.aq Z<|.cd Z (λh11=>?_) (λh11=>?_)
 ·have q9:op=9:=aR.1 (by have:=aI h11;show op.toNat=9;omega);refine .sr<|.az Z<|.bR<|.tR<|?_
  refine yE Z Z ?_
  (rw [cS3 q9];rfl)
 have q9:¬ op=9:=λe=>aJ h11 (by rw [e];rfl);refine .sk<|.bN<|.tN<|.sr<|.az Z<|?_
 refine yE Z Z ?_
 (rw [cS2 qa14 qa15 qb11 qb12 qb13 q9];rfl)
theorem wP (H:Hp) (e:Ex) (k:Nat) (ht:(∀ (cs:List Value) (W:World),Rep H (dEx .u8 e) cs->eI e=true\/Ex.op e=0->(tmT e).length<=1000000000->Agr H W->Calls prg 89 #[.agg cs.toArray] W λr W'=>r=.returned (bJ (tmT e))/\Ext W W')) (cs:List Value) (w:World) (h:Rep H (dEx .u8 e) cs) (hok:eI e=true\/e.op=0) (hl:(tmT e).length<=1000000000) (hA:Agr H w) :
 Calls prg 139 #[.agg cs.toArray,iN k] w λr w'=>r=.returned (bJ (wQ (decide (tlv e.op<k)) (tmT e)))/\Ext w w':=by
 obtain ⟨op,nm,nn,args⟩:=e;obtain ⟨pp,c,rfl,hs,hnm⟩:=eV h;refine Sx.enter (H:=H) func139 rfl ntmps139 rfl hA ?_;refine .sr<|.bx Z Z Z λb2=>.aq Z<|.sq<|.sr<|.fA Z hP<|.lD Z kO Hm Z<|.yw (.xl Z (λW s=>aJ4 H op W s.agr))<|.mv Z<|.yw (.lss Z Z)<|.nt<|.cd Z (λh9=>?_) (λh9=>?_)
 ·have h9:tlv op<k:=by have:=aI h9;omega
  refine .sr<|.yw (.loadW Z eM Hm Z)<|.yw (.xl Z (λW s=>ht _ W h hok hl s.agr))<|.yw (.app Z Z (by (try simp only [aC,aF,aH]);omega))<|.yw (.app Z Z (by (try simp only [aC,aF,aH]);omega))<|.az Z<|.tR<|?_
  refine yE Z Z ?_
  (rw [show decide (tlv (Ex.op (.mk op nm nn args))<k)=true from aG h9];rfl)
 have h9:¬ tlv op<k:=λe=>aJ h9 aD;refine .sk<|.tN<|.sr<|.yw (.loadW Z eM Hm Z)<|.yw (.xl Z (λW s=>ht _ W h hok hl s.agr))<|.az Z<|?_
 refine yE Z Z ?_
 (rw [show decide (tlv (Ex.op (.mk op nm nn args))<k)=false from aL h9];rfl)
theorem uD (H:Hp) (G:Gf H) (gq:Gq H) (e:Ex):(∀ (cs:List Value) (W:World),Rep H (dEx .u8 e) cs->eI e=true\/Ex.op e=0->(tmT e).length<=1000000000->Agr H W->Calls prg 89 #[.agg cs.toArray] W λr W'=>r=.returned (bJ (tmT e))/\Ext W W'):=by
 induction e using Ex.ind with | _ op nm nn args ih
 intro cs w h hok hl hA;obtain ⟨pp,c,rfl,hs,hnm⟩:=eV h;have hcap:=hs.cap;refine Sx.enter (H:=H) func89 rfl ntmps89 rfl hA ?_;refine .sr<|.bx Z Z Z λb1=>.aq Z<|.sq<|.sr<|.fA Z hP<|.lD Z kO Hm Z<|.nt<|.bk<|.sr<|.yw (.eql Z Z)<|.aq Z<|.cd Z (λh6=>?_) (λh6=>?_)
 ·have q1:op=1:=aR.1 (by have:=aI h6;show op.toNat=1;omega);refine .sr<|.fA Z gS<|.lD Z jN Hm Z<|.yw (.xl Z (λW s=>QN H gq nn W s.agr))<|.az Z<|.bR<|.tR<|?_
  refine yE Z Z ?_
  (rw [tm1 q1])
 have q1:¬ op=1:=λe=>aJ h6 (by rw [e];rfl);refine .sr<|.yw (.eql Z Z)<|.aq Z<|.cd Z (λh11=>?_) (λh11=>?_)
 ·have q4:op=4:=aR.1 (by have:=aI h11;show op.toNat=4;omega);refine .sr<|.az Z<|.bR<|.tR<|?_
  refine yE Z Z ?_
  (rw [tm4 q4];rfl)
 have q4:¬ op=4:=λe=>aJ h11 (by rw [e];rfl);refine .sr<|.yw (.eql Z Z)<|.aq Z<|.cd Z (λh13=>?_) (λh13=>?_)
 ·have q5:op=5:=aR.1 (by have:=aI h13;show op.toNat=5;omega);refine .sr<|.fA Z gN<|.lD Z bT Hm Z<|.az Z<|.bR<|.tR<|?_
  refine yE Z Z ?_
  (rw [tm5 q5])
 have q5:¬ op=5:=λe=>aJ h13 (by rw [e];rfl);refine .sr<|.yw (.eql Z Z)<|.aq Z<|.cd Z (λh17=>?_) (λh17=>?_)
 ·have q6:op=6:=aR.1 (by have:=aI h17;show op.toNat=6;omega);obtain ⟨hla,hta⟩:=NL (.inl q6) (hok.resolve_right (by rw [q6];exact (by decide:¬ (6:UInt8)=0)));have h0:0<args.length:=aD
  obtain ⟨b0,o0,c0,hp0,r0,l0,m0⟩:=hs.elem (eR h0);cases hp0;rw [tm6 q6 h0] at hl;simp only [aC,aF,aH] at hl

  refine .sq<|.fL 10 [(0,0),(1,0),(2,0),(3,0),(4,0),(5,0),(6,0),(7,0),(8,0),(9,0)]<|.fA Z gN<|.lD Z bT Hm Z<|.yw (.app Z Z (by (try simp only [aC,aF,aH]);omega))<|.fA Z eS<|.lD Z dR Hm Z<|.yw (.indexSl eG Z Z (i:=0) Z aD (q:=o0+0 * 4) Z)<|.yw (.loadMW Z eM m0 l0)<|.yw (.xl Z (λW s=>ih _ (aX h0) _ W r0 (.inl (hta _ (aX h0))) aD s.agr))<|.yw (.app Z Z (by (try simp only [aC,aF,aH]);omega))<|.yw (.app Z Z (by (try simp only [aC,aF,aH]);omega))<|.fn (tl:=[_]) Z<|.az Z<|.bR<|.tR<|?_
  refine yE Z Z ?_
  (rw [tm6 q6 h0];rfl)
 have q6:¬ op=6:=λe=>aJ h17 (by rw [e];rfl);refine .sr<|.yw (.eql Z Z)<|.aq Z<|.cd Z (λh29=>?_) (λh29=>?_)
 ·have q8:op=8:=aR.1 (by have:=aI h29;show op.toNat=8;omega);refine .sr<|.fA Z gN<|.lD Z bT Hm Z<|.yw (.app Z Z (by (try simp only [aC,aF,aH]);omega))<|.az Z<|.bR<|.tR<|?_
  refine yE Z Z ?_
  (rw [tm8 q8];rfl)
 have q8:¬ op=8:=λe=>aJ h29 (by rw [e];rfl);refine .sr<|.yw (.eql Z Z)<|.aq Z<|.cd Z (λh34=>?_) (λh34=>?_)
 ·have q9:op=9:=aR.1 (by have:=aI h34;show op.toNat=9;omega);obtain ⟨hla,hta⟩:=NL (.inr q9) (hok.resolve_right (by rw [q9];exact (by decide:¬ (9:UInt8)=0)));have h0:0<args.length:=aD
  obtain ⟨b0,o0,c0,hp0,r0,l0,m0⟩:=hs.elem (eR h0);cases hp0;rw [tm9 q9 h0] at hl;simp only [aC,aF,aH] at hl;have pl:=mP (decide (tlv args[0].op<6)) (tmT args[0])

  refine .sr<|.fA Z eS<|.lD Z dR Hm Z<|.yw (.indexSl eG Z Z (i:=0) Z aD (q:=o0+0 * 4) Z)<|.yw (.loadMW Z eM m0 l0)<|.yw (.xl Z (λW s=>wP H _ 6 (ih _ (aX h0)) _ W r0 (.inl (hta _ (aX h0))) aD s.agr))<|.yw (.app Z Z (by (try simp only [aC,aF,aH]);omega))<|.az Z<|.bR<|.tR<|?_
  refine yE Z Z ?_
  (rw [tm9 q9 h0];rfl)
 have q9:¬ op=9:=λe=>aJ h34 (by rw [e];rfl);refine .cu (X:=Bool) [(1,_)] ⟨Z,Jt⟩ (λz=>[(42,.bool z)]) (λz=>H) (λz=>[.box b1 [.int .u8 op.toNat,bJ nm,.int .i64 nn.toInt,.slice pp args.length c] 76]) (λz=>z=decide (op=11\/op=12\/op=13\/op=14\/op=15)) ?_ λz hC=>?_
 ·
  refine .sr<|.yw (.eql Z Z)<|.aq Z<|.cr Z (λh42=>?_) (λh42=>?_)
  ·have qb:op=11:=aR.1 (by have:=aI h42;show op.toNat=11;omega);exact .sk<|.tN<|.me _ ⟨Z,Jt⟩ ⟨Z,Jt⟩ (λ_ s=>s) (by first | (rw [qb];rfl) | (simp only [qb11,qb12,qb13,qb14,false_or];exact k8 (m:=15) aS))
  have qb11:¬ op=11:=λe=>aJ h42 (by rw [e];rfl);refine .sr<|.yw (.eql Z Z)<|.aq Z<|.cr Z (λh42=>?_) (λh42=>?_)
  ·have qb:op=12:=aR.1 (by have:=aI h42;show op.toNat=12;omega);exact .sk<|.tN<|.me _ ⟨Z,Jt⟩ ⟨Z,Jt⟩ (λ_ s=>s) (by first | (rw [qb];rfl) | (simp only [qb11,qb12,qb13,qb14,false_or];exact k8 (m:=15) aS))
  have qb12:¬ op=12:=λe=>aJ h42 (by rw [e];rfl);refine .sr<|.yw (.eql Z Z)<|.aq Z<|.cr Z (λh42=>?_) (λh42=>?_)
  ·have qb:op=13:=aR.1 (by have:=aI h42;show op.toNat=13;omega);exact .sk<|.tN<|.me _ ⟨Z,Jt⟩ ⟨Z,Jt⟩ (λ_ s=>s) (by first | (rw [qb];rfl) | (simp only [qb11,qb12,qb13,qb14,false_or];exact k8 (m:=15) aS))
  have qb13:¬ op=13:=λe=>aJ h42 (by rw [e];rfl);refine .sr<|.yw (.eql Z Z)<|.aq Z<|.cr Z (λh42=>?_) (λh42=>?_)
  ·have qb:op=14:=aR.1 (by have:=aI h42;show op.toNat=14;omega);exact .sk<|.tN<|.me _ ⟨Z,Jt⟩ ⟨Z,Jt⟩ (λ_ s=>s) (by first | (rw [qb];rfl) | (simp only [qb11,qb12,qb13,qb14,false_or];exact k8 (m:=15) aS))
  have qb14:¬ op=14:=λe=>aJ h42 (by rw [e];rfl);exact .rg<|.yw (.eql Z Z)<|.aq Z<|.me _ ⟨Z,Jt⟩ ⟨Z,Jt⟩ (λ_ s=>s) (by first | (rw [qb];rfl) | (simp only [qb11,qb12,qb13,qb14,false_or];exact k8 (m:=15) aS))
 have eqB:=hC;refine .cr Z (λh42=>?_) (λh42=>?_)
 ·have qB:(op=11\/op=12\/op=13\/op=14\/op=15):=by rw [h42] at eqB;exact aI eqB.symm
  obtain ⟨hla,hta⟩:=aA8 qB (hok.resolve_right (by rintro (h:op=0);rw [h] at qB;revert qB;decide));have h0:0<args.length:=aD
  have h1:1<args.length:=aD
  obtain ⟨b0,o0,c0,hp0,r0,l0,m0⟩:=hs.elem (eR h0);cases hp0;obtain ⟨b1,o1,c1,hp1,r1,l1,m1⟩:=hs.elem (eR h1);cases hp1;rw [tmb qB h0 h1] at hl;simp only [aC,aF,aH] at hl;have pl:=mP (decide (tlv args[0].op<tlv op)) (tmT args[0]);have pl1:=mP (decide (tlv args[1].op<tlv op+1)) (tmT args[1]);have psy:=xX op;have htl:=JF op;have hop:op.toNat<=15:=by rcases qB with rfl | rfl | rfl | rfl | rfl <;> decide
  refine .sr<|.fA Z hP<|.lD Z kO Hm Z<|.yw (.xl Z (λW s=>aJ4 H op W s.agr))<|.aq Z<|.sq<|.fL 21 [(0,0),(1,0),(2,0),(3,0),(4,0),(5,0),(6,0),(7,0),(8,0),(9,0),(10,0),(11,0),(12,0),(13,0),(14,0),(15,0),(16,0),(17,0),(18,0),(19,0),(20,0)]<|.fA Z eS<|.lD Z dR Hm Z<|.yw (.indexSl eG Z Z (i:=0) Z aD (q:=o0+0 * 4) Z)<|.yw (.loadMW Z eM m0 l0)<|.mv Z<|.yw (.xl Z (λW s=>wP H _ (tlv op) (ih _ (aX h0)) _ W r0 (.inl (hta _ (aX h0))) aD s.agr))<|.yw (.app Z Z (by (try simp only [aC,aF,aH]);omega))<|.fA Z hP<|.lD Z kO Hm Z<|.yw (.indexArr KL Z Z Z aD (q:=op.toNat) aD)<|.yw (.loadM (k:=op.toNat) (v:=bJ (vK op)) Z bT G.syms aD (by show _=some (bJ (nE.getD op.toNat []));exact tI (by show op.toNat<22;omega) []))<|.yw (.app Z Z (by (try simp only [aC,aF,aH]);omega))<|.yw (.app Z Z (by (try simp only [aC,aF,aH]);omega))<|.fA Z eS<|.lD Z dR Hm Z<|.yw (.indexSl eG Z Z (i:=1) Z aD (q:=o0+1 * 4) Z)<|.yw (.loadMW Z eM m1 l1)<|.mv Z<|.yw (.add Z Z w7)<|.yw (.xl Z (λW s=>wP H _ (tlv op+1) (ih _ (aX h1)) _ W r1 (.inl (hta _ (aX h1))) aD s.agr))<|.yw (.app Z Z (by (try simp only [aC,aF,aH]);omega))<|.fn (tl:=[_]) Z<|.az Z<|.bR<|.tR<|?_
  refine yE Z Z ?_
  (rw [tmb qB h0 h1];rfl)
 have qB:¬ (op=11\/op=12\/op=13\/op=14\/op=15):=by rw [h42] at eqB;exact aJ eqB.symm
 refine .sk<|.bN<|.tN<|.sr<|.az Z<|?_
 refine yE Z Z ?_
 (rw [tmn q1 q4 q5 q6 q8 q9 qB];rfl)
theorem bJ0 (s:Fs):∀ W,(Instr.field 157 (.agg (fsC s).toArray) 0).run prg W=.ok (.int .u8 (s.lv:Nat)) W:=λ_=>by kernel_rfl
theorem cJ7 (s:Fs):∀ W,(Instr.field 157 (.agg (fsC s).toArray) 3).run prg W=.ok (.bool s.wn) W:=λ_=>by kernel_rfl
section
variable {op:UInt8} {nm fd:Str} {a b:Int64} {ex:List Ex} {args:List Fm}
theorem aY4 (h:(!(cK op).wn)=true):wF (.mk op nm fd a b ex args)=[]:=by
 unfold wF;exact aK (show (!(cK op).wn || decide (b.toInt<0))=true by rw [h];rfl)
theorem aY3 (h:(!(cK op).wn)=false) (h2:decide (b.toInt<0)=true):wF (.mk op nm fd a b ex args)=[]:=by
 unfold wF;exact aK (show (!(cK op).wn || decide (b.toInt<0))=true by rw [h,h2];rfl)
theorem aY2 (h:(!(cK op).wn)=false) (h2:decide (b.toInt<0)=false):wF (.mk op nm fd a b ex args)=([91]:Str)++Lib.itoa a.toInt++([44,32]:Str)++Lib.itoa b.toInt++([93]:Str):=by
 unfold wF;exact aA (show ¬ (!(cK op).wn || decide (b.toInt<0))=true by rw [h,h2];decide)
end
theorem NC (H:Hp) (G:Gf H) (gq:Gq H) (f:Fm) (cs:List Value) (w:World) (h:Rep H (dFm .u8 f) cs) (hA:Agr H w):Calls prg 91 #[.agg cs.toArray] w λr w'=>r=.returned (bJ (wF f))/\Ext w w':=by
 obtain ⟨op,nm,fd,a,b,ex,args⟩:=f;obtain ⟨p1,c1,p2,c2,rfl,hs1,hs2,hnm,hfd⟩:=gK h;have hi1:=lU a;have hi2:=lU b;refine Sx.enter (H:=H) func91 rfl ntmps91 rfl hA ?_;refine .sr<|.bx Z Z Z λb1=>.aq Z<|.sq<|.sr<|.fA Z eY<|.lD Z iP Hm Z<|.yw (.xl (v:=.agg (fsC (cK op)).toArray) Z (λW s=>qC H G op W s.agr))<|.yw (.fld Z (cJ7 _))<|.yw (.not Z)<|.mv Z<|.b2 (λh8=>?_) (λh8=>?_)
 ·try simp only [dt] at h8
  refine .g3<|.pT Z<|.nt<|.cT Z<|.sr<|.az Z<|.tR<|?_
  refine yE Z Z ?_
  first
   | (rw [aY3 h8 h12];rfl)
   | (rw [aY2 h8 h12];rfl)
   | (rw [aY4 h8];rfl)
 try simp only [df] at h8
 refine .gy (.fieldAddr Z fH)<|.gy (.load Z bQ Hm Z)<|.gy (.lss Z Z)<|.pF Z<|.nt<|.cd Z (λh12=>?_) (λh12=>?_)
 ·refine .sr<|.az Z<|.tR<|?_
  refine yE Z Z ?_
  first
   | (rw [aY3 h8 h12];rfl)
   | (rw [aY2 h8 h12];rfl)
   | (rw [aY4 h8];rfl)
 refine .sk<|.tN<|.sq<|.fL 10 [(0,0),(1,0),(2,0),(3,0),(4,0),(5,0),(6,0),(7,0),(8,0),(9,0)]<|.fA Z fR<|.lD Z bQ Hm Z<|.yw (.xl Z (λW s=>HZ H gq a W s.agr))<|.yw (.app Z Z (by (try simp only [aC,aF,aH]);omega))<|.yw (.app Z Z (by (try simp only [aC,aF,aH]);omega))<|.fA Z fH<|.lD Z bQ Hm Z<|.yw (.xl Z (λW s=>HZ H gq b W s.agr))<|.yw (.app Z Z (by (try simp only [aC,aF,aH]);omega))<|.yw (.app Z Z (by (try simp only [aC,aF,aH]);omega))<|.fn (tl:=[_]) Z<|.az Z<|?_
 refine yE Z Z ?_
 first
  | (rw [aY3 h8 h12];rfl)
  | (rw [aY2 h8 h12];rfl)
  | (rw [aY4 h8];rfl)
theorem TH (H:Hp) (gq:Gq H) (f:Fm) (cs:List Value) (w:World) (h:Rep H (dFm .u8 f) cs) (hA:Agr H w):Calls prg 93 #[.agg cs.toArray] w λr w'=>r=.returned (bJ (DX f))/\Ext w w':=by
 obtain ⟨op,nm,fd,a,b,ex,args⟩:=f;obtain ⟨p1,c1,p2,c2,rfl,hs1,hs2,hnm,hfd⟩:=gK h;have hi1:=lU a;have hi2:=lU b;refine Sx.enter (H:=H) func93 rfl ntmps93 rfl hA ?_;refine .sr<|.bx Z Z Z λb1=>.aq Z<|.sq<|.fL 13 [(0,0),(1,0),(2,0),(3,0),(4,0),(5,0),(6,0),(7,0),(8,0),(9,0),(10,0),(11,0),(12,0)]<|.fA Z gP<|.lD Z bT Hm Z<|.yw (.app Z Z (by (try simp only [aC,aF,aH]);omega))<|.yw (.app Z Z (by (try simp only [aC,aF,aH]);omega))<|.fA Z fR<|.lD Z bQ Hm Z<|.yw (.xl Z (λW s=>HZ H gq a W s.agr))<|.yw (.app Z Z (by (try simp only [aC,aF,aH]);omega))<|.yw (.app Z Z (by (try simp only [aC,aF,aH]);omega))<|.fA Z fH<|.lD Z bQ Hm Z<|.yw (.xl Z (λW s=>HZ H gq b W s.agr))<|.yw (.app Z Z (by (try simp only [aC,aF,aH]);omega))<|.fn (tl:=[_]) Z<|.az Z<|?_
 refine yE Z Z ?_
 first
  | (rfl)
variable {a:Int64}
theorem xH (H:Hp) (G:Gf H) {op:UInt8} {nm fd:Str} {b:Int64} {ex:List Ex} {args:List Fm} (i k:Nat) (hk:i<args.length) (ht:(∀ (cs:List Value) (W:World),Rep H (dFm .u8 args[i]) cs->Fm.all jJ args[i]=true->(fmT args[i]).length<=1000000000->Agr H W->Calls prg 48 #[.agg cs.toArray] W λr W'=>r=.returned (bJ (fmT args[i]))/\Ext W W')) (cs:List Value) (w:World) (h:Rep H (dFm .u8 (.mk op nm fd a b ex args)) cs) (hok:Fm.all jJ args[i]=true) (hl:(fmT args[i]).length<=1000000000) (hA:Agr H w) :
 Calls prg 92 #[.agg cs.toArray,iN i,.int .u8 (k:Nat)] w λr w'=>r=.returned (bJ (pfW k args[i]))/\Ext w w':=by
 obtain ⟨p1,c1,p2,c2,rfl,hs1,hs2,hnm,hfd⟩:=gK h;have hcap:=hs2.cap;obtain ⟨bE,oE,cE,hpE,rE,lE,mE⟩:=hs2.elem (eR (f:=dFm .u8) hk);cases hpE;generalize ef:args[i]=g at rE ht hok hl|-;obtain ⟨op0,nm0,fd0,a0,b0,ex0,args0⟩:=g;obtain ⟨q1,d1,q2,d2,rfl,g1,g2,gn,gf⟩:=gK rE;clear ef;have ef:=@id True trivial;refine Sx.enter (H:=H) func92 rfl ntmps92 rfl hA ?_;refine .sr<|.bx Z Z Z λb3=>.a Z Z<|.ns<|.fA Z dQ<|.lD Z gM Hm Z<|.mv Z<|.yw (.indexSl fJ Z Z (i:=i) Z hk (q:=oE+i * 7) Z)<|.yw (.loadMW Z cQ mE lE)<|.al fB Z λb7=>.sX .head Z Z dK Z<|.nt<|.sq<|.sr<|.fA Z eY<|.lD Z iP Hm Z<|.yw (.xl (v:=.agg (fsC (cK _)).toArray) Z (λW s=>qC H G _ W s.agr))<|.yw (.fld Z (bJ0 _))<|.mv Z<|.yw (.lss Z Z)<|.nt<|.cd Z (λh18=>?_) (λh18=>?_)
 ·have h18:(cK op0).lv<k:=by have:=aI h18;omega
  refine .sr<|.yw (.loadW Z cQ Hm Z)<|.yw (.xl Z (λW s=>ht _ W rE hok hl s.agr))<|.yw (.app Z Z (by (try simp only [aC,aF,aH]);omega))<|.yw (.app Z Z (by (try simp only [aC,aF,aH]);omega))<|.az Z<|.tR<|?_
  refine yE Z Z ?_
  first
   | (unfold pfW;rw [show decide ((cK (Fm.op (.mk op0 nm0 fd0 a0 b0 ex0 args0))).lv<k)=true from aG h18];rfl)
   | (unfold pfW;rw [show decide ((cK (Fm.op (.mk op0 nm0 fd0 a0 b0 ex0 args0))).lv<k)=false from aL h18];rfl)
 have h18:¬ (cK op0).lv<k:=λe=>aJ h18 aD;refine .sk<|.tN<|.sr<|.yw (.loadW Z cQ Hm Z)<|.yw (.xl Z (λW s=>ht _ W rE hok hl s.agr))<|.az Z<|?_
 refine yE Z Z ?_
 first
  | (unfold pfW;rw [show decide ((cK (Fm.op (.mk op0 nm0 fd0 a0 b0 ex0 args0))).lv<k)=true from aG h18];rfl)
  | (unfold pfW;rw [show decide ((cK (Fm.op (.mk op0 nm0 fd0 a0 b0 ex0 args0))).lv<k)=false from aL h18];rfl)
variable {n:Nat}
theorem wu8 (h:n<255):IntKind.u8.wrap ((n:Int)+1)=((n+1:Nat):Int):=by
 have key:∀ i∈List.range 256,IntKind.u8.wrap (i:Int)=(i:Int):=by decide +kernel
 exact key (n+1) (bZ.2 aD)
variable {k:Nat}
theorem aB0 {l:List Ex} (h:k<l.length):l.take (k+1)=l.take k++[l[k]]:=by rw [List.take_succ,List.getElem?_eq_getElem h];rfl
theorem cH6 (W:World) (b o c:Nat) (xs:List Str) (h:∀ (j:Nat) x,xs[j]? = some x->W.cell? ⟨b,o+j,none⟩=some (bJ x)) (hb:b<W.heap.size) (hN:xs.length<=140737488355328) (hc:xs.length<=c) (hl:(qM ([44,32]:Str) xs).length<=140737488355328) :
 Calls prg 90 #[.slice (some ⟨b,o,none⟩) xs.length c,bJ [44,32]] W λe w'=>e=.returned (bJ (qM ([44,32]:Str) xs))/\Ext W w':=by
 have e1:((xs.map λl=>(⟨l.toArray⟩:ByteArray)).map (·.data.toList))=xs:=by simp [Function.comp_def]
 have h2:=Tryz.strings_Join b o c (xs.map λl=>(⟨l.toArray⟩:ByteArray)) ⟨#[44,32]⟩ W (λj x e=>by
  rw [List.getElem?_map] at e;cases e2:xs[j]? with
  | none=>rw [e2] at e;cases e
  | some y=>rw [e2] at e;cases e;exact h j y e2) hb (by simpa using hN) (by simpa using hc) (by rw [e1,OL];exact hl)
 rw [e1,aP,OL] at h2;exact h2.mono λe w' ⟨a,k⟩=>⟨a,Ext.of_below k⟩
variable {w0 W:World} {bs:List Res} {T:TypeId}
theorem bH4 {r:Value} (xs:List Str) (hn:xs.length=n) (s:St H w0 bs W) (hm:Res.row T 1 r n (xs.map bJ)∈bs) (hN:xs.length<=1000) (hl:(qM ([44,32]:Str) xs).length<=140737488355328) :
 Calls prg 90 #[r,bJ [44,32]] W λe w'=>e=.returned (bJ (qM ([44,32]:Str) xs))/\Ext W w':=by
 have ho:W.ownsRow w0.heap.size T 1 r n (xs.map bJ):=(s.own _ hm).1;subst hn;rcases ho.2 with ⟨hr,h0⟩ | ⟨g,cap,cur,hr,_,hg,hc,_⟩
 ·obtain rfl:=bK h0;subst hr;exact (Tryz.strings_Join_none none 0 ⟨#[44,32]⟩ W).mono λe w' ⟨h1,h2⟩=>⟨h1,h2 ▸ Ext.refl W⟩
 ·subst hr;refine cH6 W g 0 cap xs (λj x e=>?_) ?_ aD hc hl
  ·have:=World.ownsRow.cells ho (g:=g) rfl j (bJ x) (by rw [List.getElem?_map,e];rfl);rw [Addr.add_lit,dO] at this;rw [dO];exact this
  ·exact (Array.getElem?_eq_some_iff.1 hg).1
set_option maxHeartbeats 4000000 in
theorem aS1 (H:Hp) (G:Gf H) (gq:Gq H) (f:Fm):(∀ (cs:List Value) (W:World),Rep H (dFm .u8 f) cs->Fm.all jJ f=true->(fmT f).length<=1000000000->Agr H W->Calls prg 48 #[.agg cs.toArray] W λr W'=>r=.returned (bJ (fmT f))/\Ext W W'):=by
 induction f using Fm.ind with | _ op nm fd a b ex args ih
 intro cs w h hok hl hA;obtain ⟨p1,c1,p2,c2,rfl,hs1,hs2,hnm,hfd⟩:=gK h;have hcap1:=hs1.cap;have hcap2:=hs2.cap;obtain ⟨hF,hG⟩:=wJ hok;have hop:=VE hF;have hwl:=JB op;have hwn:=TS (op:=op) (nm:=nm) (fd:=fd) (a:=a) (b:=b) (ex:=ex) (args:=args);have ham:=MY (op:=op) (nm:=nm) (fd:=fd) (a:=a) (b:=b) (ex:=ex) (args:=args);refine Sx.enter (H:=H) func48 rfl ntmps48 rfl hA ?_;refine .sr<|.bx Z Z Z λb1=>.a Z Z<|.ns<|.fA Z eY<|.lD Z iP Hm Z<|.yw (.indexArr aW7 Z Z Z aD (q:=op.toNat) aD)<|.yw (.loadM (k:=op.toNat) (v:=bJ (iQ op)) Z bT G.words aD (by show _=some (bJ (VC.getD op.toNat []));exact tI (by show op.toNat<19;omega) []))<|.aq Z<|.sq<|.sr<|.fA Z eY<|.lD Z iP Hm Z<|.nt<|.bk<|.sr<|.yw (.eql Z Z)<|.aq Z<|.cd Z (λh15=>?_) (λh15=>?_)
 ·have q3:op=3:=aR.1 (by have:=aI h15;show op.toNat=3;omega);obtain ⟨op0,nm0,m0,args0,he,ho0,hla,hta⟩:=bI4 hF q3;have h0:0<args0.length:=aD
  have h1:1<args0.length:=aD
  rw [fx3 q3 he h0 h1] at hl;simp only [aC,aF,aH] at hl;subst he;obtain ⟨bX,oX,cX,hpX,rX,lX,mX⟩:=hs1.elem (i:=0) (d:=dEx .u8 (.mk op0 nm0 m0 args0)) rfl;cases hpX;obtain ⟨p0,c0,rfl,hs0,hn0⟩:=eV rX;have hcap0:=hs0.cap;obtain ⟨bA,oA,cA,hpA,rA,lA,mA⟩:=hs0.elem (eR (f:=dEx .u8) h0);cases hpA;obtain ⟨bB,oB,cB,hpB,rB,lB,mB⟩:=hs0.elem (eR (f:=dEx .u8) h1);cases hpB;have psy:=xX op0;refine .sr<|.fA Z dB<|.lD Z dR Hm Z<|.yw (.indexSl eG Z Z (i:=0) Z (by first | omega | exact Nat.succ_pos _) (q:=oX+0 * 4) Z)<|.yw (.loadMW Z eM mX Z)<|.al kQ Z λb4=>.sX .head Z Z gR Z<|.nt<|.sq<|.fL 18 [(0,0),(1,0),(2,0),(3,0),(4,0),(5,0),(6,0),(7,0),(8,0),(9,0),(10,0),(11,0),(12,0),(13,0),(14,0),(15,0),(16,0),(17,0)]<|.fA Z eS<|.lD Z dR Hm Z<|.yw (.indexSl eG Z Z (i:=0) Z (by first | omega | exact Nat.succ_pos _) (q:=oA+0 * 4) Z)<|.yw (.loadMW Z eM mA lA)<|.yw (.xl Z (λW s=>uD H G gq _ _ W rA (.inl (hta _ (aX h0))) aD s.agr))<|.yw (.app Z Z (by (try simp only [aC,aF,aH]);omega))<|.fA Z hP<|.lD Z kO Hm Z<|.yw (.indexArr KL Z Z Z aD (q:=op0.toNat) aD)<|.yw (.loadM (k:=op0.toNat) (v:=bJ (vK op0)) Z bT G.syms aD (by show _=some (bJ (nE.getD op0.toNat []));exact tI (by show op0.toNat<22;omega) []))<|.yw (.app Z Z (by (try simp only [aC,aF,aH]);omega))<|.yw (.app Z Z (by (try simp only [aC,aF,aH]);omega))<|.fA Z eS<|.lD Z dR Hm Z<|.yw (.indexSl eG Z Z (i:=1) Z (by first | omega | exact Nat.succ_pos _) (q:=oA+1 * 4) Z)<|.yw (.loadMW Z eM mB lB)<|.yw (.xl Z (λW s=>uD H G gq _ _ W rB (.inl (hta _ (aX h1))) aD s.agr))<|.yw (.app Z Z (by (try simp only [aC,aF,aH]);omega))<|.fn (tl:=[_]) Z<|.az Z<|.bR<|.tR<|?_
  refine yE Z Z ?_
  (rw [fx3 q3 rfl h0 h1];rfl)
 have q3:¬ op=3:=λe=>aJ h15 (by rw [e];rfl);refine .sr<|.yw (.eql Z Z)<|.aq Z<|.cd Z (λh39=>?_) (λh39=>?_)
 ·have q4:op=4:=aR.1 (by have:=aI h39;show op.toNat=4;omega);refine .sr<|.fA Z gP<|.lD Z bT Hm Z<|.yw (.app Z Z (by (try simp only [aC,aF,aH]);omega))<|.fA Z gO<|.lD Z bT Hm Z<|.yw (.app Z Z (by (try simp only [aC,aF,aH]);omega))<|.az Z<|.bR<|.tR<|?_
  refine yE Z Z ?_
  (rw [fx4 q4];rfl)
 have q4:¬ op=4:=λe=>aJ h39 (by rw [e];rfl);refine .sr<|.yw (.eql Z Z)<|.aq Z<|.cd Z (λh47=>?_) (λh47=>?_)
 ·have q5:op=5:=aR.1 (by have:=aI h47;show op.toNat=5;omega);obtain ⟨e0,he,hte⟩:=YI hF (.inl q5);rw [fx5 q5 he] at hl;simp only [aC,aF,aH] at hl;subst he;obtain ⟨bX,oX,cX,hpX,rX,lX,mX⟩:=hs1.elem (i:=0) (d:=dEx .u8 e0) rfl;cases hpX

  refine .sq<|.fL 17 [(0,0),(1,0),(2,0),(3,0),(4,0),(5,0),(6,0),(7,0),(8,0),(9,0),(10,0),(11,0),(12,0),(13,0),(14,0),(15,0),(16,0)]<|.mv Z<|.yw (.app Z Z (by (try simp only [aC,aF,aH]);omega))<|.fA Z gP<|.lD Z bT Hm Z<|.yw (.app Z Z (by (try simp only [aC,aF,aH]);omega))<|.yw (.app Z Z (by (try simp only [aC,aF,aH]);omega))<|.fA Z gO<|.lD Z bT Hm Z<|.yw (.app Z Z (by (try simp only [aC,aF,aH]);omega))<|.yw (.app Z Z (by (try simp only [aC,aF,aH]);omega))<|.fA Z dB<|.lD Z dR Hm Z<|.yw (.indexSl eG Z Z (i:=0) Z (by first | omega | exact Nat.succ_pos _) (q:=oX+0 * 4) Z)<|.yw (.loadMW Z eM mX lX)<|.yw (.xl Z (λW s=>uD H G gq _ _ W rX (.inl hte) aD s.agr))<|.yw (.app Z Z (by (try simp only [aC,aF,aH]);omega))<|.yw (.app Z Z (by (try simp only [aC,aF,aH]);omega))<|.fn (tl:=[_]) Z<|.az Z<|.bR<|.tR<|?_
  refine yE Z Z ?_
  (rw [fx5 q5 rfl];rfl)
 have q5:¬ op=5:=λe=>aJ h47 (by rw [e];rfl);refine .sr<|.yw (.eql Z Z)<|.aq Z<|.cd Z (λh66=>?_) (λh66=>?_)
 ·have q6:op=6:=aR.1 (by have:=aI h66;show op.toNat=6;omega);refine .sm Z<|.yw (.app Z Z (by (try simp only [aC,aF,aH]);omega))<|.fA Z gP<|.lD Z bT Hm Z<|.yw (.app Z Z (by (try simp only [aC,aF,aH]);omega))<|.az Z<|.bR<|.tR<|?_
  refine yE Z Z ?_
  (rw [fx6 q6];rfl)
 have q6:¬ op=6:=λe=>aJ h66 (by rw [e];rfl);refine .sr<|.yw (.eql Z Z)<|.aq Z<|.cd Z (λh73=>?_) (λh73=>?_)
 ·have q7:op=7:=aR.1 (by have:=aI h73;show op.toNat=7;omega);obtain ⟨hle,hte⟩:=bI3 hF q7;rw [fx7 q7] at hl;simp only [aC,aF,aH] at hl

  refine .sq<|?_
  refine Sx.row0 9 1 ?_;refine .rg<|.aq Z<|.sq<|.sr<|.fA Z dB<|.lD Z dR cU Z<|.yw (.lenSl eG Z)<|.mv Z<|.nt<|.bk<|.lp (X:=Nat × Value × List Value) [(1,_),(3,_),(76,_),(77,_)] ⟨Z,Z,Z,Z,Jt⟩ [_] (λz=>[(5,z.2.1),(78,iN z.1)]) (λz=>H) (λz=>[.row 9 1 z.2.1 z.1 z.2.2]) (λz=>z.1<=ex.length/\z.2.2=((ex.take z.1).map tmT).map bJ) (λz=>ex.length - z.1) (0,cL,[]) (λ_ s=>s) ⟨Z,Z,Jt⟩ ⟨aN _,Z⟩ λz hC=>?_
  obtain ⟨k,rv,xs⟩:=z;obtain ⟨hk0,hxs⟩:=hC;dsimp only at hk0 hxs|-;subst hxs;refine .sr<|.yw (.lss Z Z)<|.nt<|.sq<|.ce Z (λh79=>?_) (λh79=>?_)
  ·have hk:k<ex.length:=aD
   obtain ⟨bX,oX,cX,hpX,rX,lX,mX⟩:=hs1.elem (eR (f:=dEx .u8) hk);cases hpX;have hj:=bH6 ([44,32]:Str) (ex.map tmT) (tmT ex[k]) (jX.2 ⟨_,aX hk,Z⟩);exact .sk<|.tN<|.sq<|.bk<|.sr<|.yw (.indexSl eG Z Z (i:=k) Z hk (q:=oX+k * 4) Z)<|.yw (.loadMW Z eM mX lX)<|.al kQ Z λb7=>.sV .head Z Z gR lX rX.one Z<|.nt<|.rg<|.mv Z<|.yw (.loadW Z eM Hm lX)<|.yw (.xl Z (λW s=>uD H G gq _ _ W rX (hte _ (aX hk)) aD s.agr))<|.bl Z (HB _) Z λb85=>.ap (news:=[bJ (tmT ex[k])]) PR Z (λ_=>iE) Z (.box Hm z0) Z (by simp [Value.oneCell',bJ]) (by simp [maxLen];omega) aD Z λr86 _=>.a Z Z<|.nl<|.bN<|.tN<|.rg<|.yw (.add Z Z w7)<|.mv Z<|.nt<|.ag (x:=(k,rv,((ex.take k).map tmT).map bJ)) (k+1,r86,(((ex.take k).map tmT).map bJ)++[bJ (tmT ex[k])]) ⟨Z,Z,Jt⟩ ⟨Z,Z,Z,Z,Jt⟩ (λ_ s=>s.pick [2,3] [_,_] Z Z) ⟨hk,by rw [aB0 hk,bI,bI];rfl⟩ aD
  obtain rfl:k=ex.length:=aD
  rw [bW];refine .ex<|.eb<|.sq<|.fL 14 [(0,0),(1,0),(2,0),(3,0),(4,0),(5,0),(6,0),(7,0),(8,0),(9,0),(10,0),(11,0),(12,0),(13,0)]<|.mv Z<|.yw (.app Z Z (by (try simp only [aC,aF,aH]);omega))<|.fA Z gP<|.lD Z bT cU Z<|.yw (.app Z Z (by (try simp only [aC,aF,aH]);omega))<|.yw (.app Z Z (by (try simp only [aC,aF,aH]);omega))<|.fA Z gO<|.lD Z bT cU Z<|.yw (.app Z Z (by (try simp only [aC,aF,aH]);omega))<|.yw (.app Z Z (by (try simp only [aC,aF,aH]);omega))<|.mv Z<|.yw (.xl Z (λW s=>bH4 (ex.map tmT) (aP ..) s Hm (by rw [aP];omega) aD))<|.yw (.app Z Z (by (try simp only [aC,aF,aH]);omega))<|.yw (.app Z Z (by (try simp only [aC,aF,aH]);omega))<|.fn (tl:=[_]) Z<|.az Z<|.bR<|.tR<|?_
  refine yE Z Z ?_
  (rw [fx7 q7];rfl)
 have q7:¬ op=7:=λe=>aJ h73 (by rw [e];rfl);refine .cu (X:=Bool) [(1,_),(3,_),(14,_)] ⟨Z,Z,Z,Jt⟩ (λz=>[(102,.bool z)]) (λz=>H) (λz=>[.box b1 [.int .u8 op.toNat,bJ nm,bJ fd,.int .i64 a.toInt,.int .i64 b.toInt,.slice p1 ex.length c1,.slice p2 args.length c2] 35]) (λz=>z=decide (op=8\/op=12\/op=13\/op=14)) ?_ λz hC=>?_
 ·
  refine .sr<|.yw (.eql Z Z)<|.aq Z<|.cr Z (λh102=>?_) (λh102=>?_)
  ·have qu:op=8:=aR.1 (by have:=aI h102;show op.toNat=8;omega);exact .sk<|.tN<|.me _ ⟨Z,Jt⟩ ⟨Z,Z,Z,Jt⟩ (λ_ s=>s) (by first | (rw [qu];rfl) | (simp only [qu8,qu12,qu13,false_or];exact k8 (m:=14) aS))
  have qu8:¬ op=8:=λe=>aJ h102 (by rw [e];rfl);refine .sr<|.yw (.eql Z Z)<|.aq Z<|.cr Z (λh102=>?_) (λh102=>?_)
  ·have qu:op=12:=aR.1 (by have:=aI h102;show op.toNat=12;omega);exact .sk<|.tN<|.me _ ⟨Z,Jt⟩ ⟨Z,Z,Z,Jt⟩ (λ_ s=>s) (by first | (rw [qu];rfl) | (simp only [qu8,qu12,qu13,false_or];exact k8 (m:=14) aS))
  have qu12:¬ op=12:=λe=>aJ h102 (by rw [e];rfl);refine .sr<|.yw (.eql Z Z)<|.aq Z<|.cr Z (λh102=>?_) (λh102=>?_)
  ·have qu:op=13:=aR.1 (by have:=aI h102;show op.toNat=13;omega);exact .sk<|.tN<|.me _ ⟨Z,Jt⟩ ⟨Z,Z,Z,Jt⟩ (λ_ s=>s) (by first | (rw [qu];rfl) | (simp only [qu8,qu12,qu13,false_or];exact k8 (m:=14) aS))
  have qu13:¬ op=13:=λe=>aJ h102 (by rw [e];rfl);exact .rg<|.yw (.eql Z Z)<|.aq Z<|.me _ ⟨Z,Jt⟩ ⟨Z,Z,Z,Jt⟩ (λ_ s=>s) (by first | (rw [qu];rfl) | (simp only [qu8,qu12,qu13,false_or];exact k8 (m:=14) aS))
 have eqU:=hC;refine .cr Z (λh102=>?_) (λh102=>?_)
 ·have qU:(op=8\/op=12\/op=13\/op=14):=by rw [h102] at eqU;exact aI eqU.symm
  have har:=(kJ hF).2.1;rw [ar1 ((by rcases qU with h | h | h | h <;> simp [h]))] at har;have h0:0<args.length:=aD
  have hok0:=hG _ (aX h0);rw [fxu qU h0] at hl;simp only [aC,aF,aH] at hl;have pl:=BK 5 args[0]

  refine .sq<|.fL 8 [(0,0),(1,0),(2,0),(3,0),(4,0),(5,0),(6,0),(7,0)]<|.mv Z<|.yw (.loadW Z cQ Hm Z)<|.yw (.xl Z (λW s=>NC H G gq _ _ W h s.agr))<|.yw (.app Z Z (by (try simp only [aC,aF,aH]);omega))<|.yw (.app Z Z (by (try simp only [aC,aF,aH]);omega))<|.yw (.loadW Z cQ Hm Z)<|.yw (.xl Z (λW s=>xH H G 0 5 h0 (ih _ (aX h0)) _ W h hok0 aD s.agr))<|.yw (.app Z Z (by (try simp only [aC,aF,aH]);omega))<|.fn (tl:=[_]) Z<|.az Z<|.bR<|.tR<|?_
  refine yE Z Z ?_
  (rw [fxu qU h0];rfl)
 have qU:¬ (op=8\/op=12\/op=13\/op=14):=by rw [h102] at eqU;exact aJ eqU.symm
 refine .cu (X:=Bool) [(1,_),(3,_),(14,_)] ⟨Z,Z,Z,Jt⟩ (λz=>[(115,.bool z)]) (λz=>H) (λz=>[.box b1 [.int .u8 op.toNat,bJ nm,bJ fd,.int .i64 a.toInt,.int .i64 b.toInt,.slice p1 ex.length c1,.slice p2 args.length c2] 35]) (λz=>z=decide (op=16\/op=17)) ?_ λz hC=>?_
 ·
  refine .sr<|.yw (.eql Z Z)<|.aq Z<|.cr Z (λh115=>?_) (λh115=>?_)
  ·have qq:op=16:=aR.1 (by have:=aI h115;show op.toNat=16;omega);exact .sk<|.tN<|.me _ ⟨Z,Jt⟩ ⟨Z,Z,Z,Jt⟩ (λ_ s=>s) (by first | (rw [qq];rfl) | (simp only [qq16,false_or];exact k8 (m:=17) aS))
  have qq16:¬ op=16:=λe=>aJ h115 (by rw [e];rfl);exact .rg<|.yw (.eql Z Z)<|.aq Z<|.me _ ⟨Z,Jt⟩ ⟨Z,Z,Z,Jt⟩ (λ_ s=>s) (by first | (rw [qq];rfl) | (simp only [qq16,false_or];exact k8 (m:=17) aS))
 have eqQ:=hC;refine .cr Z (λh115=>?_) (λh115=>?_)
 ·have qQ:(op=16\/op=17):=by rw [h115] at eqQ;exact aI eqQ.symm
  have har:=(kJ hF).2.1;rw [ar1 ((by rcases qQ with h | h <;> simp [h]))] at har;have h0:0<args.length:=aD
  have hok0:=hG _ (aX h0);rw [fxq qQ h0] at hl;simp only [aC,aF,aH] at hl;have pl:=BK 5 args[0]

  refine .sq<|.fL 8 [(0,0),(1,0),(2,0),(3,0),(4,0),(5,0),(6,0),(7,0)]<|.mv Z<|.yw (.loadW Z cQ Hm Z)<|.yw (.xl Z (λW s=>TH H gq _ _ W h s.agr))<|.yw (.app Z Z (by (try simp only [aC,aF,aH]);omega))<|.yw (.app Z Z (by (try simp only [aC,aF,aH]);omega))<|.yw (.loadW Z cQ Hm Z)<|.yw (.xl Z (λW s=>xH H G 0 5 h0 (ih _ (aX h0)) _ W h hok0 aD s.agr))<|.yw (.app Z Z (by (try simp only [aC,aF,aH]);omega))<|.fn (tl:=[_]) Z<|.az Z<|.bR<|.tR<|?_
  refine yE Z Z ?_
  (rw [fxq qQ h0];rfl)
 have qQ:¬ (op=16\/op=17):=by rw [h115] at eqQ;exact aJ eqQ.symm
 refine .sr<|.yw (.eql Z Z)<|.aq Z<|.cd Z (λh126=>?_) (λh126=>?_)
 ·have q18:op=18:=aR.1 (by have:=aI h126;show op.toNat=18;omega);obtain ⟨e0,he,hte⟩:=YI hF (.inr q18);have har:=(kJ hF).2.1;rw [ar1 ((by simp [q18]))] at har;have h0:0<args.length:=aD
  have hok0:=hG _ (aX h0);rw [bW6 q18 he h0] at hl;simp only [aC,aF,aH] at hl;obtain ⟨bE,oE,cE,hpE,rE,lE,mE⟩:=hs2.elem (eR (f:=dFm .u8) h0);cases hpE;subst he;obtain ⟨bX,oX,cX,hpX,rX,lX,mX⟩:=hs1.elem (i:=0) (d:=dEx .u8 e0) rfl;cases hpX

  refine .sq<|.fL 18 [(0,0),(1,0),(2,0),(3,0),(4,0),(5,0),(6,0),(7,0),(8,0),(9,0),(10,0),(11,0),(12,0),(13,0),(14,0),(15,0),(16,0),(17,0)]<|.mv Z<|.yw (.loadW Z cQ Hm Z)<|.yw (.xl Z (λW s=>TH H gq _ _ W h s.agr))<|.yw (.app Z Z (by (try simp only [aC,aF,aH]);omega))<|.yw (.app Z Z (by (try simp only [aC,aF,aH]);omega))<|.fA Z dQ<|.lD Z gM Hm Z<|.yw (.indexSl fJ Z Z (i:=0) Z aD (q:=oE+0 * 7) Z)<|.yw (.loadMW Z cQ mE lE)<|.yw (.xl Z (λW s=>ih _ (aX h0) _ W rE hok0 aD s.agr))<|.yw (.app Z Z (by (try simp only [aC,aF,aH]);omega))<|.yw (.app Z Z (by (try simp only [aC,aF,aH]);omega))<|.fA Z dB<|.lD Z dR Hm Z<|.yw (.indexSl eG Z Z (i:=0) Z (by first | omega | exact Nat.succ_pos _) (q:=oX+0 * 4) Z)<|.yw (.loadMW Z eM mX lX)<|.yw (.xl Z (λW s=>uD H G gq _ _ W rX (.inl hte) aD s.agr))<|.yw (.app Z Z (by (try simp only [aC,aF,aH]);omega))<|.fn (tl:=[_]) Z<|.az Z<|.bR<|.tR<|?_
  refine yE Z Z ?_
  (rw [bW6 q18 rfl h0];rfl)
 have q18:¬ op=18:=λe=>aJ h126 (by rw [e];rfl);refine .cu (X:=Bool) [(1,_),(3,_)] ⟨Z,Z,Jt⟩ (λz=>[(146,.bool z)]) (λz=>H) (λz=>[.box b1 [.int .u8 op.toNat,bJ nm,bJ fd,.int .i64 a.toInt,.int .i64 b.toInt,.slice p1 ex.length c1,.slice p2 args.length c2] 35]) (λz=>z=decide (op=15\/op=9\/op=10\/op=11)) ?_ λz hC=>?_
 ·
  refine .sr<|.yw (.eql Z Z)<|.aq Z<|.cr Z (λh146=>?_) (λh146=>?_)
  ·have qb:op=15:=aR.1 (by have:=aI h146;show op.toNat=15;omega);exact .sk<|.tN<|.me _ ⟨Z,Jt⟩ ⟨Z,Z,Jt⟩ (λ_ s=>s) (by first | (rw [qb];rfl) | (simp only [qb15,qb9,qb10,false_or];exact k8 (m:=11) aS))
  have qb15:¬ op=15:=λe=>aJ h146 (by rw [e];rfl);refine .sr<|.yw (.eql Z Z)<|.aq Z<|.cr Z (λh146=>?_) (λh146=>?_)
  ·have qb:op=9:=aR.1 (by have:=aI h146;show op.toNat=9;omega);exact .sk<|.tN<|.me _ ⟨Z,Jt⟩ ⟨Z,Z,Jt⟩ (λ_ s=>s) (by first | (rw [qb];rfl) | (simp only [qb15,qb9,qb10,false_or];exact k8 (m:=11) aS))
  have qb9:¬ op=9:=λe=>aJ h146 (by rw [e];rfl);refine .sr<|.yw (.eql Z Z)<|.aq Z<|.cr Z (λh146=>?_) (λh146=>?_)
  ·have qb:op=10:=aR.1 (by have:=aI h146;show op.toNat=10;omega);exact .sk<|.tN<|.me _ ⟨Z,Jt⟩ ⟨Z,Z,Jt⟩ (λ_ s=>s) (by first | (rw [qb];rfl) | (simp only [qb15,qb9,qb10,false_or];exact k8 (m:=11) aS))
  have qb10:¬ op=10:=λe=>aJ h146 (by rw [e];rfl);exact .rg<|.yw (.eql Z Z)<|.aq Z<|.me _ ⟨Z,Jt⟩ ⟨Z,Z,Jt⟩ (λ_ s=>s) (by first | (rw [qb];rfl) | (simp only [qb15,qb9,qb10,false_or];exact k8 (m:=11) aS))
 have eqB:=hC;refine .cr Z (λh146=>?_) (λh146=>?_)
 ·have qB:(op=15\/op=9\/op=10\/op=11):=by rw [h146] at eqB;exact aI eqB.symm
  have har:=(kJ hF).2.1;rw [ar2 qB] at har;have h0:0<args.length:=aD
  have h1:1<args.length:=aD
  have hok0:=hG _ (aX h0);have hok1:=hG _ (aX h1);rw [fxb qB h0 h1] at hl;simp only [aC,aF,aH] at hl;have pl:=BK (cK op).lv args[0];have pl1:=BK ((cK op).lv+1) args[1];have hlv:(cK op).lv<=4:=by rcases qB with rfl | rfl | rfl | rfl <;> decide
  refine .sr<|.fA Z eY<|.lD Z iP Hm Z<|.yw (.xl (v:=.agg (fsC (cK op)).toArray) Z (λW s=>qC H G op W s.agr))<|.yw (.fld Z (bJ0 _))<|.aq Z<|.sq<|.fL 15 [(0,0),(1,0),(2,0),(3,0),(4,0),(5,0),(6,0),(7,0),(8,0),(9,0),(10,0),(11,0),(12,0),(13,0),(14,0)]<|.yw (.loadW Z cQ Hm Z)<|.mv Z<|.yw (.xl Z (λW s=>xH H G 0 (cK op).lv h0 (ih _ (aX h0)) _ W h hok0 aD s.agr))<|.yw (.app Z Z (by (try simp only [aC,aF,aH]);omega))<|.mv Z<|.yw (.app Z Z (by (try simp only [aC,aF,aH]);omega))<|.yw (.loadW Z cQ Hm Z)<|.yw (.xl Z (λW s=>NC H G gq _ _ W h s.agr))<|.yw (.app Z Z (by (try simp only [aC,aF,aH]);omega))<|.yw (.app Z Z (by (try simp only [aC,aF,aH]);omega))<|.yw (.loadW Z cQ Hm Z)<|.mv Z<|.yw (.add Z Z (c:=(((cK op).lv+1:Nat):Int)) (wu8 aD))<|.yw (.xl Z (λW s=>xH H G 1 ((cK op).lv+1) h1 (ih _ (aX h1)) _ W h hok1 aD s.agr))<|.yw (.app Z Z (by (try simp only [aC,aF,aH]);omega))<|.fn (tl:=[_]) Z<|.az Z<|.bR<|.tR<|?_
  refine yE Z Z ?_
  (rw [fxb qB h0 h1];rfl)
 have qB:¬ (op=15\/op=9\/op=10\/op=11):=by rw [h146] at eqB;exact aJ eqB.symm
 refine .sk<|.bN<|.tN<|.sm Z<|.az Z<|?_
 refine yE Z Z ?_
 (rw [fxn q3 q4 q5 q6 q7 qU qQ q18 qB])
theorem bU6 {e:Ex} :∀ {cs:List Value},Rep H (dEx .u8 e) cs->nlE e=true:=by
 induction e using Ex.ind with | _ op nm n args ih
 intro cs h;obtain ⟨p,c,rfl,hs,hn⟩:=eV h;unfold nlE;rw [uR,nS,aE,aB,bD];refine ⟨hn,λa ha=>?_⟩;obtain ⟨i,hi,rfl⟩:=List.getElem_of_mem ha;obtain ⟨bE,oE,cE,hpE,rE,lE,mE⟩:=hs.elem (eR (f:=dEx .u8) hi);exact ih _ (aX hi) rE
variable {f:Fm}
theorem bU5:∀ {cs:List Value},Rep H (dFm .u8 f) cs->nlF f=true:=by
 induction f using Fm.ind with | _ op nm fd a b ex args ih
 intro cs h;obtain ⟨p1,c1,p2,c2,rfl,hs1,hs2,hnm,hfd⟩:=gK h;unfold nlF;rw [kF,aE,aE,aE,aB,aB,bD,bD];refine ⟨⟨⟨hnm,hfd⟩,λe he=>?_⟩,λg hg=>?_⟩
 ·obtain ⟨i,hi,rfl⟩:=List.getElem_of_mem he;obtain ⟨bE,oE,cE,hpE,rE,lE,mE⟩:=hs1.elem (eR (f:=dEx .u8) hi);exact bU6 rE
 ·obtain ⟨i,hi,rfl⟩:=List.getElem_of_mem hg;obtain ⟨bE,oE,cE,hpE,rE,lE,mE⟩:=hs2.elem (eR (f:=dFm .u8) hi);exact ih _ (aX hi) rE
theorem cK3 (h:gT f=0):f.count<=60/\Fm.all jJ f=true:=by
 unfold gT at h
 split at h
 ·cases h
 ·rename_i h1
  split at h
  ·cases h
  ·split at h
   ·cases h
   ·rename_i h3;exact ⟨Nat.le_of_not_lt λe=>h1 (.inl e),by simpa using h3⟩
theorem SM (H:Hp) (GL:Gl H) (G:Gf H) (gq:Gq H) (f:Fm) (hb:blF 600000 f=true) (cs:List Value) (w:World) (h:Rep H (dFm .u8 f) cs) (hA:Agr H w):Calls prg 19 #[.agg cs.toArray] w λr w'=>r=.returned (bJ (NK f))/\Ext w w':=by
 obtain ⟨op,nm,fd,a,b,ex,args⟩:=f;obtain ⟨p1,c1,p2,c2,rfl,hs1,hs2,hnm,hfd⟩:=gK h;refine Sx.enter (H:=H) func19 rfl ntmps19 rfl hA ?_;refine .sr<|.bx Z Z Z λb1=>.aq Z<|.sq<|.sr<|.yw (.loadW Z cQ Hm Z)<|.yw (.xl Z (λW s=>yM H GL G (.mk op nm fd a b ex args) hb _ W h s.agr))<|.yw (.neq Z Z)<|.nt<|.cd Z (λh5=>?_) (λh5=>?_)
 ·have hc:¬ gT (.mk op nm fd a b ex args)=0:=λe=>aI h5 (by rw [e];rfl);refine .sr<|.az Z<|.tR<|?_
  refine yE Z Z ?_
  first
   | (unfold NK;rw [aA hc];rfl)
   | (unfold NK;rw [aK hc])
 have hc:gT (.mk op nm fd a b ex args)=0:=by have:=aJ h5;omega
 obtain ⟨hk,hF⟩:=cK3 hc;refine .sk<|.tN<|.sr<|.yw (.loadW Z cQ Hm Z)<|.yw (.xl Z (λW s=>aS1 H G gq (.mk op nm fd a b ex args) _ W h hF (aZ (bX3 _ (bU5 h)) aD) s.agr))<|.az Z<|?_
 refine yE Z Z ?_
 first
  | (unfold NK;rw [aA hc];rfl)
  | (unfold NK;rw [aK hc])
theorem u8d (c k:UInt8):decide (((c.toNat:Nat):Int)=(k.toNat:Nat))=decide (c=k):=by
 rw [aQ,aB,aB];exact ⟨λh=>aR.1 aD,λh=>by rw [h]⟩
theorem aT3 (c:UInt8) (w:World):Calls prg 147 #[CH c] w λr w'=>r=.returned (.bool (mS c))/\Ext w w':=by
 refine y6 func147 Z ntmps147 Z ?_;refine .sr<|.a Z Z<|.ns<|.mv Z<|.yw (.cast (.eql Z Z) (congrArg Value.bool (u8d c 32)))<|.mv Z<|.b2 (λh5=>?_) (λh5=>?_)
 ·refine .g2<|.pT Z<|.mv Z<|.g2<|.pT Z<|.mv Z<|.g2<|.pT Z<|.az Z<|?_
  refine yE Z Z ?_
  first
   | (unfold mS;rw [h5];rfl)
   | (unfold mS;rw [h5,h9];rfl)
   | (unfold mS;rw [h5,h9,h13];rfl)
 refine .gy (.move Z)<|.gy (.cast (.eql Z Z) (congrArg Value.bool (u8d c 9)))<|.pF Z<|.mv Z<|.b2 (λh9=>?_) (λh9=>?_)
 ·refine .g2<|.pT Z<|.mv Z<|.g2<|.pT Z<|.az Z<|?_
  refine yE Z Z ?_
  first
   | (unfold mS;rw [h5];rfl)
   | (unfold mS;rw [h5,h9];rfl)
   | (unfold mS;rw [h5,h9,h13];rfl)
 refine .gy (.move Z)<|.gy (.cast (.eql Z Z) (congrArg Value.bool (u8d c 10)))<|.pF Z<|.mv Z<|.b2 (λh13=>?_) (λh13=>?_)
 ·refine .g2<|.pT Z<|.az Z<|?_
  refine yE Z Z ?_
  first
   | (unfold mS;rw [h5];rfl)
   | (unfold mS;rw [h5,h9];rfl)
   | (unfold mS;rw [h5,h9,h13];rfl)
 refine .gy (.move Z)<|.gy (.cast (.eql Z Z) (congrArg Value.bool (u8d c 13)))<|.pF Z<|.az Z<|?_
 refine yE Z Z ?_
 first
  | (unfold mS;rw [h5];rfl)
  | (unfold mS;rw [h5,h9];rfl)
  | (unfold mS;rw [h5,h9,h13];rfl)
def CY (c:UInt8):Bool:=!decide (c=10)
theorem u8n (c k:UInt8):decide (¬ ((c.toNat:Nat):Int)=(k.toNat:Nat))=!decide (c=k):=by rw [<-u8d,decide_not]
theorem aP5 (c:UInt8) (w:World):Calls prg 149 #[CH c] w λr w'=>r=.returned (.bool (CY c))/\Ext w w':=by
 refine y6 func149 Z ntmps149 Z ?_;refine .sr<|.a Z Z<|.ns<|.mv Z<|.yw (.cast (.neq Z Z) (congrArg Value.bool (u8n c 10)))<|.az Z<|?_
 exact yE Z Z Z
theorem HU (q:UInt8->Bool) (c:UInt8) (r:Str):pre q (c::r)=if q c then pre q r+1 else 0:=by
 unfold pre;rw [fI]
 split <;> simp
theorem aB7:∀ (m:Str),eU false (m.drop (pre mS m))=eU false m
 | []=>rfl
 | c::r=>by
  rw [HU]
  split
  ·rename_i h;rw [qI,aB7 r,JI h]
  ·rfl
theorem bB3:∀ (m:Str),eU false (m.drop (pre CY m))=eU true m
 | []=>by rw [List.drop_nil,sA,sA]
 | c::r=>by
  rw [HU]
  split
  ·rename_i h;unfold CY at h;rw [qI,bB3 r,RQ (by simpa using h)]
  ·rename_i h;have e:c=10:=by unfold CY at h;simpa using h
   subst e;rw [oQ,RP]
theorem bD2 (q:UInt8->Bool):∀ (m:Str) (c:UInt8) (r:Str),m.drop (pre q m)=c::r->q c=false
 | [],c,r,h=>by cases h
 | x::m,c,r,h=>by
  rw [HU] at h
  split at h
  ·exact bD2 q m c r (by simpa using h)
  ·rename_i hx;rw [oQ] at h;injection h with h1 _
   subst h1;simpa using hx
theorem bB1 {m:Str} (h:yZ m [47,47]=true):eU false (m.drop (pre CY m))=eU false m/\1<=pre CY m:=by
 rw [DC] at h;obtain ⟨r,rfl⟩:=iH.1 h;refine ⟨?_,?_⟩
 ·rw [bB3];exact (RO r).symm
 ·show 1<=pre CY (47::47::r);rw [HU,aK aS];omega
theorem aP4 {m:Str} (h:yZ (m.drop (pre mS m)) [47,47]=false):eU false m=m.drop (pre mS m):=by
 rw [<-aB7];cases e:m.drop (pre mS m) with
 | nil=>rw [sA]
 | cons c r =>
  refine tP (bD2 _ _ _ _ e) ?_;rintro ⟨rfl,h2⟩;rw [e] at h;cases r with
  | nil=>cases h2
  | cons d r =>
   obtain rfl:d=47:=bL h2;rw [DC] at h;rw [show ([47,47]:Str).isPrefixOf (47::47::r)=true by simp [List.isPrefixOf]] at h;cases h
theorem bB4 {t:Str} {o:Nat} (ho:o<=t.length) (h:eU false t=t.drop o):wZ t=o:=by
 unfold wZ;rw [h,dA];omega
theorem SD (t:Str) (hl:t.length<=9223372036854775807) (w:World):Calls prg 96 #[bJ t] w λr w'=>r=.returned (iN (wZ t))/\Ext w w':=by
 refine y6 func96 Z ntmps96 Z ?_;refine .sr<|.a Z Z<|.ns<|.aq Z<|.bk<|.lp (X:=Nat) [(0,_)] ⟨Z,Jt⟩ [] (λo=>[(3,iN o)]) (λo=>(⟨λ_=>none,0⟩:Hp)) (λo=>[]) (λo=>o<=t.length/\eU false (t.drop o)=eU false t) (λo=>t.length - o) 0 (λ_ s=>s) ⟨Z,Jt⟩ ⟨aN _,Z⟩ λo hC=>?_
 obtain ⟨ho,hs⟩:=hC;have hp1:=uM mS (t.drop o);rw [dA] at hp1;replace hp1:(o+(pre mS (t.drop o)))<=t.length:=aD
 refine .bk<|.sm Z<|.mv Z<|.mv Z<|.yw (.dropS dX Z Z (lo:=o) Z ho)<|.yw (.xl Z (λW s=>yC 147 mS aH7 aT3 _ (by rw [dA];omega) W))<|.yw (.add Z Z (c:=(((o+(pre mS (t.drop o))):Nat):Int)) ((w6 aD).trans aD))<|.aq Z<|.sq<|.sm Z<|.mv Z<|.yw (.dropS dX Z Z (lo:=(o+(pre mS (t.drop o)))) Z hp1)<|.yw (.xl Z (λW s=>FL _ [47,47] W))<|.yw (.not Z)<|.nt<|.cd Z (λh14=>?_) (λh14=>?_)
 ·have hh:yZ (t.drop (o+(pre mS (t.drop o)))) [47,47]=false:=by simpa using h14
  refine .sm Z<|.az Z<|.tR<|.bR<|.tR<|.bR<|?_
  exact yE Z Z (by rw [bB4 hp1 (by rw [<-hs,<-fO];exact aP4 (by rw [fO];exact hh))])
 have hh:yZ (t.drop (o+(pre mS (t.drop o)))) [47,47]=true:=by simpa using h14
 obtain ⟨hs2,hg2⟩:=bB1 hh;have hp2:=uM CY (t.drop (o+(pre mS (t.drop o))));rw [dA] at hp2;exact .sk<|.tN<|.rg<|.mv Z<|.mv Z<|.mv Z<|.yw (.dropS dX Z Z (lo:=(o+(pre mS (t.drop o)))) Z hp1)<|.yw (.xl Z (λW s=>yC 149 CY aH6 aP5 _ (by rw [dA];omega) W))<|.yw (.add Z Z (c:=(((o+(pre mS (t.drop o)))+(pre CY (t.drop (o+(pre mS (t.drop o))))):Nat):Int)) ((w6 aD).trans aD))<|.a Z Z<|.nl<|.bN<|.tN<|.ag ((o+(pre mS (t.drop o)))+(pre CY (t.drop (o+(pre mS (t.drop o)))))) ⟨Z,Jt⟩ ⟨Z,Jt⟩ (λ_ s=>s) ⟨aD,by rw [<-fO,hs2,<-fO,aB7,hs]⟩ aD
theorem bW1 (H:Hp) (t:Str) (w:World) (hA:Agr H w):Calls prg 54 #[bJ t] w λr w'=>∃ (b:Nat) (H':Hp),lW H' b 0 [bJ t]/\r=.returned (.func (.func 95) #[] #[.pointer (dI b)])/\wV H w H' w':=by
 refine Sx.enter (H:=H) func54 rfl ntmps54 rfl hA ?_;refine .sr<|.bx Z Z Z λb1=>.a Z Z<|.ns<|.yw (.mkF Z Z)<|.az Z<|?_
 refine xP λH1 u1 m1=>?_;exact y9 Z Z λW s=>⟨b1,H1,m1,Z,u1.grow s⟩
abbrev TkS:={x:Tk // x.t.length<=1000000}
theorem bW0 (H:Hp) (G:Gl H) (t:Str) (hl:t.length<=1000000000000000000) (hs:∀ x∈pL t,x.t.length<=1000000) (b:Nat) (hm:lW H b 0 [bJ t]) (w:World) (hA:Agr H w) :
 SeqStopsK Fence.wide 8 prg 95 #[.pointer (dI b)] (λx:TkS=>#[.agg (cTk .u8 x.1).toArray]) (KpH H) (λxs=>xs.map (·.1)=pL t) (λ_=>True) (t.length+1) w:=by
 refine Sx.seqStops (lb:=[.pointer (dI b)]) func95 rfl ntmps95 rfl (λW hW=>hA.ext hW) ?_;intro l Jg Jx W hJs hJxs hY hJ0;refine .sr<|.yw (.loadM Z bT hm (k:=0) Z Z)<|.yw (.xl Z (λW s=>SD t aD W))<|.aq Z<|.bk<|.lj (X:=Nat × List TkS) (λz=>[(0,.func (.yield l) #[] #[]),(1,.pointer (dI b)),(3,iN z.1)]) (λz=>Jg z.2) (λz=>z.1<=t.length/\z.2.length<=z.1/\z.2.map (·.1)++toks z.1 (t.drop z.1)=pL t) (λz=>t.length - z.1) (wZ t,[]) ⟨XD t,aN _,(aR4 t).symm⟩ ⟨Z,Z,Z,Jt⟩ hJ0 λz w1 hC hJ1=>?_
 obtain ⟨o,pre1⟩:=z;obtain ⟨ho,hpl,htk⟩:=hC;dsimp only at ho hpl htk hJ1|-;refine .sq<|.sm Z<|.yw (.loadM Z bT hm (k:=0) Z Z)<|.yw (.lenS dX Z)<|.yw (.lss Z Z)<|.nt<|.ce Z (λh11=>?_) (λh11=>?_)
 ·have hlt:o<t.length:=aD
  have hm0:t.drop o≠[]:=by intro e;have:=congrArg List.length e;rw [dA] at this;simp at this;omega
  have hrk:=tZ hm0;rw [dA] at hrk;have hx5:((t.drop o).take (dD (t.drop o)).2).length<=1000000:=hs ⟨(dD (t.drop o)).1,(t.drop o).take (dD (t.drop o)).2,o⟩ (by rw [<-htk,RE hm0];simp);refine .sk<|.tN<|.sq<|.bk<|.sr<|.yw (.loadM Z bT hm (k:=0) Z Z)<|.mv Z<|.yw (.dropS dX Z Z (lo:=o) Z aD)<|.yw (.xl Z (λW s=>XH H G (t.drop o) (by rw [dA];omega) hm0 W s.agr))<|.mv Z<|.yw (.extract Z Z)<|.yw (.extract Z Z)<|.a Z Z<|.aq Z<|.sq<|.sq<|.rgW 8<|.mI Z Z<|.mI Z Z<|.yvI (.loadM Z bT hm (k:=0) Z Z) Z<|.mI Z Z<|.mI Z Z<|.mI Z Z<|.yvI (.add Z Z (c:=((o+(dD (t.drop o)).2:Nat):Int)) ((w6 aD).trans aD)) Z<|.yvI (.cast (.midS dX Z Z Z (lo:=o) (hi:=o+(dD (t.drop o)).2) Z Z aD aD) (by rw [vE,jB])) Z<|.mI Z Z<|.yvI (.build Z (LU _ _ _)) Z<|.yd Z Z Z (λW s=>hY pre1 ⟨⟨(dD (t.drop o)).1,(t.drop o).take (dD (t.drop o)).2,o⟩,hx5⟩ W (hJs _ _ _ hJ1 s.ext) aD) (λw2 hj2=>?_) (λw2 hj2=>?_)
  ·have hsd:=XD ((t.drop o).drop (dD (t.drop o)).2);rw [dA,dA] at hsd;exact .yvI (.not Z) Z<|.nlI<|.tN<|.cF Z<|.sk<|.tN<|.rg<|.mv Z<|.mv Z<|.yw (.add Z Z (c:=((o+(dD (t.drop o)).2:Nat):Int)) ((w6 aD).trans aD))<|.a Z Z<|.nl<|.bN<|.tN<|.rg<|.mv Z<|.yw (.loadM Z bT hm (k:=0) Z Z)<|.mv Z<|.yw (.cast (.dropS dX Z Z (lo:=o+(dD (t.drop o)).2) Z aD) (by rw [<-fO];rfl))<|.yw (.xl Z (λW s=>SD ((t.drop o).drop (dD (t.drop o)).2) (by rw [dA,dA];omega) W))<|.yw (.add Z Z (c:=((o+(dD (t.drop o)).2+wZ ((t.drop o).drop (dD (t.drop o)).2):Nat):Int)) ((w6 aD).trans aD))<|.aq Z<|.aj (x:=(o,pre1)) (o+(dD (t.drop o)).2+wZ ((t.drop o).drop (dD (t.drop o)).2),pre1++[⟨⟨(dD (t.drop o)).1,(t.drop o).take (dD (t.drop o)).2,o⟩,hx5⟩]) ⟨by dsimp only;omega,by dsimp only;rw [aC];simp;omega,by dsimp only;rw [<-htk,bI,aV];congr 1;rw [RE hm0,show (t.drop o).drop ((dD (t.drop o)).2+wZ ((t.drop o).drop (dD (t.drop o)).2))=t.drop (o+(dD (t.drop o)).2+wZ ((t.drop o).drop (dD (t.drop o)).2)) by rw [fP];exact fO];rfl⟩ (by dsimp only;omega) hj2 ⟨Z,Z,Z,Jt⟩
  refine .yvI (.not Z) Z<|.nlI<|.tN<|.cT Z<|.rt<|.tR<|.bR<|.tR<|.tR<|.bR<|?_
  refine y7 Z .nil rfl λW s=>⟨⟨_,Z⟩,.inr ⟨_,Jt,hJxs _ _ _ hj2 s.ext⟩⟩
 have hoe:o=t.length:=aD
 refine .ex<|.tE<|.tE<|.bE<|?_
 refine jM (.inr Z) rfl .nil rfl λW s=>⟨⟨_,Z⟩,.inl ⟨pre1,?_,hJs _ _ _ hJ1 s.ext⟩⟩;rw [<-htk,hoe,List.drop_length,aY9,eL]
theorem MT (a b c d e f g:Value):∀ W,(Instr.field 157 (.agg [a,b,c,d,e,f,g].toArray) 0).run prg W=.ok a W:=λ_=>by kernel_rfl
variable {b:Nat} {ro rv:Value} {xo xv:List Value} {AR:List Res} {q:Rq}
set_option maxHeartbeats 1000000 in
theorem bH5 {l:Tks} {tp:Option Addr} {tc:Nat} {op:List Ov} {x:Vb} {dn:Bool} (K:Tkf H l tp tc) (Wq:Fwf l ⟨q,op,x,true,dn⟩) (S:Sq H ⟨q,op,x,true,dn⟩ xo xv AR) (G:Gf H) (h0:q.er=0) (hw:q.wrd l=true) (s:St H w0 (.box b [.slice tp l.length tc,iN q.i,ro,rv,.bool true,.bool dn,.bool x.2,iN q.off,iN q.er] 102::.row 97 11 (ro) (op.length) (xo)::.row 179 13 (rv) (x.1.length) (xv)::(AR++bs)) W) :
 Calls prg 101 #[.pointer (dI b)] W (Get w0 bs b l tp tc H (yJ l ⟨q,op,x,true,dn⟩)):=by
 have hq:q.i<l.length:=Wq.i;have hcap:=K.rep.cap;obtain ⟨hn1,hn2⟩:=pW Wq K.few;dsimp only at hn1 hn2;have hne:op≠[]:=Wq.ne;refine iB func101 rfl ntmps101 rfl s ?_;obtain ⟨o,r,rfl⟩:=CZ (l:=op) (by cases op with | nil=>exact (hne rfl).elim | cons a t=>exact Nat.succ_pos _);dsimp only [List.length_cons] at hn1;obtain ⟨xr,s1,s2,e2,hlo,ho1,ho2⟩:=Ops.top S.ops;try dsimp only at e2
 subst e2;refine Sx.rowCase (size:=11) (r:=ro) (e:=97) cU (Nat.succ_pos _) λg c e hkc=>?_;subst e;refine .sq<|.sm Z<|.xs (X:=Unit) Z (λW s=>CP K hq (g:=g) (k:=r.length) (c:=c) aD (s.p3_3 [0,1,2] Z)) λ_ _=>.nC Z<|.fA Z uU<|.yw (.loadR1 Z kW cU (lC hlo Z))<|.nt<|.cd Z (λh8=>?_) (λh8=>?_)
 ·refine .sm Z<|.xs (X:=Unit) Z (λW s=>rU K hq 8 (s.p3_3 [0,1,2] Z)) λ_ _=>.nt<|.rt<|.tR<|?_
  refine y7 Z .nil rfl λW s=>?_;have e0:yJ l (⟨q,o::r,x,true,dn⟩:Ps)=(⟨q,o::r,x,true,dn⟩:Ps).at (q.fail l 8):=by unfold yJ;rw [aK (show (eC (⟨q,o::r,x,true,dn⟩:Ps)).tm=true from h8)]
  rw [e0];exact ⟨(_,_,_,_,_,AR),⟨.refl,⟨S.ops,S.vls⟩⟩,Z,s.p3_3 [0,1,2] rfl⟩
 refine .sk<|.tN<|.sr<|.al fB Z λb2=>.nt<|.sq<|.bk<|.sm Z<|.xs (X:=Unit) Z (λW s=>fC K hq [115,105,110,99,101] (s.p4_4 [1,0,2,3] Z)) λ_ _=>.aq Z<|.cd Z (λh11=>?_) (λh11=>?_)
 ·have a11:Rq.ac l [115,105,110,99,101] q=true:=h11;rw [lV a11];refine .rg<|.mv Z<|.xs (X:=Unit) Z (λW s=>NB K (dN K.gd.last hq a11) 15 (s.p4_4 [0,1,2,3] Z)) λ_ _=>.sX iJ Z Z dK Z<|.nl<|.bN<|.tN<|.sr<|.fA Z eY<|.lD Z iP cU Z<|.yw (.call (v:=.agg (fsC (cK 15)).toArray) EX Z λW s=>qC H G 15 W s.agr)<|.yw (.fld Z (MT _ _ _ _ _ _ _))<|.yw (.conv Z kN kG (c:=((4:Nat):Int)) qS)<|?_
  have Wj:Fwf l ⟨(Rq.wiS l q.nx),o::r,x,true,dn⟩:=NF (q:=⟨q,o::r,x,true,dn⟩) (c:=(Rq.wiS l q.nx)) Wq (ND K.gd.last (dN K.gd.last hq a11)) (aZ (Nat.le_succ _) (Mq.wiS (q:=q.nx)).i);refine .a Z Z<|.ns<|.mv Z<|.mv Z<|.xs (X:=Hp × Value × Value × List Value × List Value × List Res) Z (λW s=>uK K Wj S.at 4 aD (St.mid (a:=[_,_,_]) (d:=[_]) (s.p4_4 [0,2,3,1] Z))) λz9 hz9=>?_
  obtain ⟨H1,ro,rv,xo,xv,AR⟩:=z9;obtain ⟨u1,S⟩:=hz9;dsimp only at u1 S|-;refine Sx.reSt (λW s=>St.mid (a:=[_,_,_]) (d:=AR) (c:=[_]) s) ?_;obtain ⟨op7,x7,e7⟩:∃ op7 x7,kD 4 (⟨(Rq.wiS l q.nx),o::r,x,true,dn⟩:Ps)=⟨(Rq.wiS l q.nx),op7,x7,true,dn⟩:=⟨_,_,Z⟩;rw [e7] at S|-;dsimp only at S|-;have W7:Fwf l ⟨(Rq.wiS l q.nx),op7,x7,true,dn⟩:=by rw [<-e7];exact vJ aD Wj rfl
  obtain ⟨hm1,hm2⟩:=pW W7 K.few;dsimp only at hm1 hm2;have hne7:op7≠[]:=W7.ne;refine .nt<|.rg<|.mv Z<|.mv Z<|.yw (.loadW Z cQ qL Z)<|.yw (.build Z (jU _ _ _ _ _ _ _ _ _))<|.xs (X:=Option Addr × Nat) Z (λW s=>nO (K.up u1.up) (ND K.gd.last (dN K.gd.last hq a11)) (by simp [Value.oneCell',bJ]) (aZ hm1 aS) (λ_=>S.ops.tm hne7) (s.p4_4 [0,1,2,3] Z)) λp9 _=>.nl<|?_
  refine jM (.inr Z) rfl .nil rfl λW s=>?_
  have e0:yJ l (⟨q,o::r,x,true,dn⟩:Ps)=gD ⟨6,4,false,0,q.jnF l 4⟩ (⟨(Rq.wiS l q.nx),op7,x7,true,dn⟩:Ps):=by
   obtain ⟨j1,j2,j3,_,_⟩:=YB (l:=l) (r:=q) (k:=4) aS a11;unfold yJ;rw [aA (show ¬ (eC (⟨q,o::r,x,true,dn⟩:Ps)).tm=true by rw [show (eC (⟨q,o::r,x,true,dn⟩:Ps)).tm=false from h8];decide),j1,j2,j3,<-e7]
   rfl
  rw [e0];exact ⟨(_,_,_,_,_,AR),⟨u1,⟨.cons S.ops (by show ¬ (6:UInt8)=5;decide) (FmR.zero rfl rfl (aN _) (aN _)),S.vls⟩⟩,Z,s.p4_3 [0,1,2] rfl⟩
 have a11:Rq.ac l [115,105,110,99,101] q=false:=h11;rw [mC a11];refine .sm Z<|.xs (X:=Unit) Z (λW s=>fC K hq [97,110,100] (s.p4_4 [0,1,2,3] Z)) λ_ _=>.aq Z<|.cd Z (λh16=>?_) (λh16=>?_)
 ·have a16:Rq.ac l [97,110,100] q=true:=h16;rw [lV a16];refine .rg<|.yw (.build Z (qG _))<|.sX iJ Z Z dK Z<|.nl<|.bN<|.tN<|.sr<|.fA Z eY<|.lD Z iP cU Z<|.yw (.call (v:=.agg (fsC (cK 9)).toArray) EX Z λW s=>qC H G 9 W s.agr)<|.yw (.fld Z (MT _ _ _ _ _ _ _))<|.yw (.conv Z kN kG (c:=((3:Nat):Int)) qS)<|?_
  have Wj:Fwf l ⟨q.nx,o::r,x,true,dn⟩:=NF (q:=⟨q,o::r,x,true,dn⟩) (c:=q.nx) Wq (dN K.gd.last hq a16) (Nat.le_succ _);refine .a Z Z<|.ns<|.mv Z<|.mv Z<|.xs (X:=Hp × Value × Value × List Value × List Value × List Res) Z (λW s=>uK K Wj S.at 3 aD (St.mid (a:=[_,_,_]) (d:=[_]) (s.p4_4 [0,2,3,1] Z))) λz9 hz9=>?_
  obtain ⟨H1,ro,rv,xo,xv,AR⟩:=z9;obtain ⟨u1,S⟩:=hz9;dsimp only at u1 S|-;refine Sx.reSt (λW s=>St.mid (a:=[_,_,_]) (d:=AR) (c:=[_]) s) ?_;obtain ⟨op7,x7,e7⟩:∃ op7 x7,kD 3 (⟨q.nx,o::r,x,true,dn⟩:Ps)=⟨q.nx,op7,x7,true,dn⟩:=⟨_,_,Z⟩;rw [e7] at S|-;dsimp only at S|-;have W7:Fwf l ⟨q.nx,op7,x7,true,dn⟩:=by rw [<-e7];exact vJ aD Wj rfl
  obtain ⟨hm1,hm2⟩:=pW W7 K.few;dsimp only at hm1 hm2;have hne7:op7≠[]:=W7.ne;refine .nt<|.rg<|.mv Z<|.mv Z<|.yw (.loadW Z cQ qL Z)<|.yw (.build Z (jU _ _ _ _ _ _ _ _ _))<|.xs (X:=Option Addr × Nat) Z (λW s=>nO (K.up u1.up) (dN K.gd.last hq a16) (by simp [Value.oneCell',bJ]) (aZ hm1 aS) (λ_=>S.ops.tm hne7) (s.p4_4 [0,1,2,3] Z)) λp9 _=>.nl<|?_
  refine jM (.inr Z) rfl .nil rfl λW s=>?_
  have e0:yJ l (⟨q,o::r,x,true,dn⟩:Ps)=gD ⟨6,3,false,0,q.jnF l 3⟩ (⟨q.nx,op7,x7,true,dn⟩:Ps):=by
   obtain ⟨j1,j2,j3,_,_⟩:=YB (l:=l) (r:=q) (k:=3) aS a16;unfold yJ;rw [aA (show ¬ (eC (⟨q,o::r,x,true,dn⟩:Ps)).tm=true by rw [show (eC (⟨q,o::r,x,true,dn⟩:Ps)).tm=false from h8];decide),j1,j2,j3,<-e7]
   rfl
  rw [e0];exact ⟨(_,_,_,_,_,AR),⟨u1,⟨.cons S.ops (by show ¬ (6:UInt8)=5;decide) (FmR.zero rfl rfl (aN _) (aN _)),S.vls⟩⟩,Z,s.p4_3 [0,1,2] rfl⟩
 have a16:Rq.ac l [97,110,100] q=false:=h16;rw [mC a16];refine .sm Z<|.xs (X:=Unit) Z (λW s=>fC K hq [111,114] (s.p4_4 [0,1,2,3] Z)) λ_ _=>.aq Z<|.cd Z (λh20=>?_) (λh20=>?_)
 ·have a20:Rq.ac l [111,114] q=true:=h20;rw [lV a20];refine .rg<|.yw (.build Z (qG _))<|.sX iJ Z Z dK Z<|.nl<|.bN<|.tN<|.sr<|.fA Z eY<|.lD Z iP cU Z<|.yw (.call (v:=.agg (fsC (cK 10)).toArray) EX Z λW s=>qC H G 10 W s.agr)<|.yw (.fld Z (MT _ _ _ _ _ _ _))<|.yw (.conv Z kN kG (c:=((2:Nat):Int)) qS)<|?_
  have Wj:Fwf l ⟨q.nx,o::r,x,true,dn⟩:=NF (q:=⟨q,o::r,x,true,dn⟩) (c:=q.nx) Wq (dN K.gd.last hq a20) (Nat.le_succ _);refine .a Z Z<|.ns<|.mv Z<|.mv Z<|.xs (X:=Hp × Value × Value × List Value × List Value × List Res) Z (λW s=>uK K Wj S.at 2 aD (St.mid (a:=[_,_,_]) (d:=[_]) (s.p4_4 [0,2,3,1] Z))) λz9 hz9=>?_
  obtain ⟨H1,ro,rv,xo,xv,AR⟩:=z9;obtain ⟨u1,S⟩:=hz9;dsimp only at u1 S|-;refine Sx.reSt (λW s=>St.mid (a:=[_,_,_]) (d:=AR) (c:=[_]) s) ?_;obtain ⟨op7,x7,e7⟩:∃ op7 x7,kD 2 (⟨q.nx,o::r,x,true,dn⟩:Ps)=⟨q.nx,op7,x7,true,dn⟩:=⟨_,_,Z⟩;rw [e7] at S|-;dsimp only at S|-;have W7:Fwf l ⟨q.nx,op7,x7,true,dn⟩:=by rw [<-e7];exact vJ aD Wj rfl
  obtain ⟨hm1,hm2⟩:=pW W7 K.few;dsimp only at hm1 hm2;have hne7:op7≠[]:=W7.ne;refine .nt<|.rg<|.mv Z<|.mv Z<|.yw (.loadW Z cQ qL Z)<|.yw (.build Z (jU _ _ _ _ _ _ _ _ _))<|.xs (X:=Option Addr × Nat) Z (λW s=>nO (K.up u1.up) (dN K.gd.last hq a20) (by simp [Value.oneCell',bJ]) (aZ hm1 aS) (λ_=>S.ops.tm hne7) (s.p4_4 [0,1,2,3] Z)) λp9 _=>.nl<|?_
  refine jM (.inr Z) rfl .nil rfl λW s=>?_
  have e0:yJ l (⟨q,o::r,x,true,dn⟩:Ps)=gD ⟨6,2,false,0,q.jnF l 2⟩ (⟨q.nx,op7,x7,true,dn⟩:Ps):=by
   obtain ⟨j1,j2,j3,_,_⟩:=YB (l:=l) (r:=q) (k:=2) aS a20;unfold yJ;rw [aA (show ¬ (eC (⟨q,o::r,x,true,dn⟩:Ps)).tm=true by rw [show (eC (⟨q,o::r,x,true,dn⟩:Ps)).tm=false from h8];decide),j1,j2,j3,<-e7]
   rfl
  rw [e0];exact ⟨(_,_,_,_,_,AR),⟨u1,⟨.cons S.ops (by show ¬ (6:UInt8)=5;decide) (FmR.zero rfl rfl (aN _) (aN _)),S.vls⟩⟩,Z,s.p4_3 [0,1,2] rfl⟩
 have a20:Rq.ac l [111,114] q=false:=h20;rw [mC a20];refine .sm Z<|.xs (X:=Unit) Z (λW s=>fC K hq [105,109,112,108,105,101,115] (s.p4_4 [0,1,2,3] Z)) λ_ _=>.aq Z<|.cd Z (λh24=>?_) (λh24=>?_)
 ·have a24:Rq.ac l [105,109,112,108,105,101,115] q=true:=h24;rw [lV a24];refine .rg<|.yw (.build Z (qG _))<|.sX iJ Z Z dK Z<|.nl<|.bN<|.tN<|.sr<|.fA Z eY<|.lD Z iP cU Z<|.yw (.call (v:=.agg (fsC (cK 11)).toArray) EX Z λW s=>qC H G 11 W s.agr)<|.yw (.fld Z (MT _ _ _ _ _ _ _))<|.yw (.conv Z kN kG (c:=((1:Nat):Int)) qS)<|?_
  have Wj:Fwf l ⟨q.nx,o::r,x,true,dn⟩:=NF (q:=⟨q,o::r,x,true,dn⟩) (c:=q.nx) Wq (dN K.gd.last hq a24) (Nat.le_succ _);refine .a Z Z<|.ns<|.mv Z<|.mv Z<|.xs (X:=Hp × Value × Value × List Value × List Value × List Res) Z (λW s=>uK K Wj S.at 1 aD (St.mid (a:=[_,_,_]) (d:=[_]) (s.p4_4 [0,2,3,1] Z))) λz9 hz9=>?_
  obtain ⟨H1,ro,rv,xo,xv,AR⟩:=z9;obtain ⟨u1,S⟩:=hz9;dsimp only at u1 S|-;refine Sx.reSt (λW s=>St.mid (a:=[_,_,_]) (d:=AR) (c:=[_]) s) ?_;obtain ⟨op7,x7,e7⟩:∃ op7 x7,kD 1 (⟨q.nx,o::r,x,true,dn⟩:Ps)=⟨q.nx,op7,x7,true,dn⟩:=⟨_,_,Z⟩;rw [e7] at S|-;dsimp only at S|-;have W7:Fwf l ⟨q.nx,op7,x7,true,dn⟩:=by rw [<-e7];exact vJ aD Wj rfl
  obtain ⟨hm1,hm2⟩:=pW W7 K.few;dsimp only at hm1 hm2;have hne7:op7≠[]:=W7.ne;refine .nt<|.rg<|.mv Z<|.mv Z<|.yw (.loadW Z cQ qL Z)<|.yw (.build Z (jU _ _ _ _ _ _ _ _ _))<|.xs (X:=Option Addr × Nat) Z (λW s=>nO (K.up u1.up) (dN K.gd.last hq a24) (by simp [Value.oneCell',bJ]) (aZ hm1 aS) (λ_=>S.ops.tm hne7) (s.p4_4 [0,1,2,3] Z)) λp9 _=>.nl<|?_
  refine jM (.inr Z) rfl .nil rfl λW s=>?_
  have e0:yJ l (⟨q,o::r,x,true,dn⟩:Ps)=gD ⟨6,1,false,0,q.jnF l 1⟩ (⟨q.nx,op7,x7,true,dn⟩:Ps):=by
   obtain ⟨j1,j2,j3,_,_⟩:=YB (l:=l) (r:=q) (k:=1) aS a24;unfold yJ;rw [aA (show ¬ (eC (⟨q,o::r,x,true,dn⟩:Ps)).tm=true by rw [show (eC (⟨q,o::r,x,true,dn⟩:Ps)).tm=false from h8];decide),j1,j2,j3,<-e7]
   rfl
  rw [e0];exact ⟨(_,_,_,_,_,AR),⟨u1,⟨.cons S.ops (by show ¬ (6:UInt8)=5;decide) (FmR.zero rfl rfl (aN _) (aN _)),S.vls⟩⟩,Z,s.p4_3 [0,1,2] rfl⟩
 have a24:Rq.ac l [105,109,112,108,105,101,115] q=false:=h24;exact absurd hw (by unfold Rq.wrd;rw [GQ h0,GQ h0,GQ h0,GQ h0,a11,a16,a20,a24];decide)
variable {xr cs:List Value} {j:Nat}
theorem BS {u:Value} (hl:xr.length=n) (h:cs[4+j]? = some u):(xr++cs)[n+4+j]? = some u:=by rw [fP];exact lC hl h
variable {s1 s2:Value}
theorem Ops.inv5 {o:Ov} {r:List Ov} (h:Ops H (o::r) (xr++oC o s1 s2) AR) (hk:o.kd=5):∃ AR1 xe,AR=.row 76 4 s1 o.f.ex.length xe::AR1/\Ops H r xr AR1/\s2=.slice none 0 0/\dT H 4 (o.f.ex.map (dEx .u8)) xe/\o.f.args=[]/\o.f.nm.length<=1000000/\o.f.fd.length<=1000000:=by
 generalize hx:xr++oC o s1 s2=xo at h;cases h with
 | cons h k f=>exact absurd hk k
 | arg h k a b c z s =>
  obtain ⟨e1,e2⟩:=List.append_inj' hx rfl;subst e1;simp only [bV,dL,true_and] at e2;obtain ⟨rfl,rfl⟩:=e2;exact ⟨_,_,Z,h,Z,z,a,b,c⟩
theorem TR (H:Hp):Rep H (dEx .u8 zE) [.int .u8 0,dV,.int .i64 0,cL]:=kK (op:=0) (nm:=[]) (n:=0) (args:=[]) aS (Rep.empty (p:=none) (c:=0) aS)
variable {z:Nat} {news:List Value}
theorem zG {ds:List D} {d0 d:D} {xs vs:List Value} (hz:dT H z ds xs) (hn:dT H z [d0] news) (hd:Rep H d vs) (hl:vs.length=z) (hk:ds.length=k):dT H z (ds++[d]) (pE (xs++news) (k * z) vs):=by
 subst hk;have h:=dT.put hd hl (hz.app hn) (i:=ds.length) fG
 rwa [lQ _ _ (aY _),hZ,rK] at h
set_option maxHeartbeats 4000000 in
theorem SZ {l:Tks} {tp:Option Addr} {tc:Nat} {op:List Ov} {x:Vb} {dn:Bool} (K:Tkf H l tp tc) (Wq:Fwf l ⟨q,op,x,true,dn⟩) (S:Sq H ⟨q,op,x,true,dn⟩ xo xv AR) (hfew:∀ o∈op,o.f.ex.length<=600000) (s:St H w0 (.box b [.slice tp l.length tc,iN q.i,ro,rv,.bool true,.bool dn,.bool x.2,iN q.off,iN q.er] 102::.row 97 11 (ro) (op.length) (xo)::.row 179 13 (rv) (x.1.length) (xv)::(AR++bs)) W) :
 Calls prg 103 #[.pointer (dI b)] W (Get w0 bs b l tp tc H (nG l ⟨q,op,x,true,dn⟩)):=by
 have hq:q.i<l.length:=Wq.i;have hcap:=K.rep.cap;obtain ⟨hn1,hn2⟩:=pW Wq K.few;dsimp only at hn1 hn2;have hne:op≠[]:=Wq.ne;obtain ⟨o,r,rfl⟩:=CZ (l:=op) (by cases op with | nil=>exact (hne rfl).elim | cons a t=>exact Nat.succ_pos _);dsimp only [List.length_cons] at hn1;have hfx:=hfew o (bH ..);have hv1:1<=x.1.length:=by have:=Wq.vs;dsimp only at this;rw [this];exact Nat.le_add_left _ _
 obtain ⟨vs,bd⟩:=x;dsimp only at hv1 hn2;obtain ⟨v,V,rfl⟩:=CZ hv1;dsimp only [List.length_cons] at hn2;obtain ⟨yr,t0,t1,t2,e4,VS1,V1⟩:=VR.inv S.vls;try dsimp only at e4
 subst e4;have l1:=VS1.len;refine iB func103 rfl ntmps103 rfl s ?_;obtain ⟨xr,s1,s2,e2,hlo,ho1,ho2⟩:=Ops.top S.ops;try dsimp only at e2
 subst e2;refine Sx.rowCase (size:=11) (r:=ro) (e:=97) cU (Nat.succ_pos _) λg c e hkc=>?_;subst e;refine .sm Z<|.xs (X:=Unit) Z (λW s=>CP K hq (g:=g) (k:=r.length) (c:=c) aD (s.p3_3 [0,1,2] Z)) λ_ _=>.aq Z<|.bk<|.cu (X:=Bool) [(0,_),(2,_)] ⟨Z,Z,Jt⟩ (λz=>[(9,.bool z)]) (λz=>H) (λz=>(.box b [.slice tp l.length tc,iN q.i,(.slice (dI g) (o::r).length c),rv,.bool true,.bool dn,.bool bd,iN q.off,iN q.er] 102::.row 97 11 ((.slice (dI g) (o::r).length c)) ((o::r).length) ((xr++oC o s1 s2))::.row 179 13 (rv) (V.length+1) ((yr++vC v t0 t1 t2))::(AR++bs))) (λz=>z=(decide (o.kd=1) && decide ((tkf l q.i).k=0))) ?_ λz hC=>?_
 ·
  refine .rg<|.mv Z<|.nC Z<|.fA Z gZ<|.yw (.loadR1 Z nH cU (lC hlo Z))<|.yw (.eql Z Z)<|.mv Z<|.b2 (λh15=>?_) (λh15=>?_)
  ·have hg:o.kd=1:=aR.1 (by have:=aI h15;show o.kd.toNat=1;omega);exact .gy (.move Z)<|.gd Z Z<|.xs (X:=Unit) Z (λW s=>zD K hq  (s.p3_3 [0,1,2] Z)) λ_ _=>.gy (.fld Z (aE7 _ _ _))<|.gy (.eql Z Z)<|.pT Z<|.aq Z<|.me _ ⟨Z,Jt⟩ ⟨Z,Z,Jt⟩ (λ_ s=>s) (by first | (rw [aG hg,aO];exact k80) | (rw [aL hg];rfl))
  have hg:¬ o.kd=1:=λe=>aJ h15 (by rw [e];rfl);exact .g4<|.pF Z<|.aq Z<|.me _ ⟨Z,Jt⟩ ⟨Z,Z,Jt⟩ (λ_ s=>s) (by first | (rw [aG hg,aO];exact k80) | (rw [aL hg];rfl))
 have e9:=hC;refine .cd Z (λh9=>?_) (λh9=>?_)
 ·rw [h9] at e9;have y9:=aE _ _ |>.mp e9.symm
  refine .rg<|.mv Z<|.nC Z<|.fA Z GA<|.st .head Z Z oJ Z (nb Z) Z<|.nl<|.bN<|?_
  refine jM (.inr Z) rfl .nil rfl λW s=>?_;have e0:nG l (⟨q,o::r,(v::V,bd),true,dn⟩:Ps)=⟨q,o::r,(v::V,bd),true,true⟩:=by unfold nG;exact aK ⟨aI y9.1,aI y9.2⟩
  rw [e0];exact ⟨(_,_,_,_,_,AR),⟨.refl,⟨S.ops,S.vls⟩⟩,Z,s.p3_3 [0,1,2] rfl⟩
 rw [h9] at e9;refine .cu (X:=Bool) [(0,_),(2,_)] ⟨Z,Z,Jt⟩ (λz=>[(24,.bool z)]) (λz=>H) (λz=>(.box b [.slice tp l.length tc,iN ((if z then Rq.nx q else q).i),(.slice (dI g) (o::r).length c),rv,.bool true,.bool dn,.bool bd,iN ((if z then Rq.nx q else q).off),iN ((if z then Rq.nx q else q).er)] 102::.row 97 11 ((.slice (dI g) (o::r).length c)) ((o::r).length) ((xr++oC o s1 s2))::.row 179 13 (rv) (V.length+1) ((yr++vC v t0 t1 t2))::(AR++bs))) (λz=>z=(decide (o.kd=2) && Rq.ac l [41] q)) ?_ λz hC=>?_
 ·
  refine .rg<|.mv Z<|.nC Z<|.fA Z gZ<|.yw (.loadR1 Z nH cU (lC hlo Z))<|.yw (.eql Z Z)<|.mv Z<|.b2 (λh30=>?_) (λh30=>?_)
  ·have hg:o.kd=2:=aR.1 (by have:=aI h30;show o.kd.toNat=2;omega);exact .gy (.move Z)<|.gd Z Z<|.xs (X:=Unit) Z (λW s=>fC K hq [41] (s.p3_3 [0,1,2] Z)) λ_ _=>.pT Z<|.aq Z<|.me _ ⟨Z,Jt⟩ ⟨Z,Z,Jt⟩ (λ_ s=>s) (by first | rw [aG hg,aO] | (rw [aL hg];rfl))
  have hg:¬ o.kd=2:=λe=>aJ h30 (by rw [e];rfl);exact .g2<|.pF Z<|.aq Z<|.me _ ⟨Z,Jt⟩ ⟨Z,Z,Jt⟩ (λ_ s=>s) (by first | rw [aG hg,aO] | (rw [aL hg];rfl))
 have e24:=hC;refine .cd Z (λh24=>?_) (λh24=>?_)
 ·rw [h24] at e24;have y24:=aE _ _ |>.mp e24.symm
  have hk:o.kd=2:=aI y24.1;rw [aK h24];have hk5:o.kd≠5:=by rw [hk];decide
  obtain ⟨SO,FO⟩:=Ops.inv2 S.ops hk5;refine .sm Z<|.xs (X:=Nat × Nat) Z (λW s=>bD3 K (dN K.gd.last hq y24.2) V1.one aD l1 (s.p3_3 [0,2,1] Z)) λp1 _=>.al yP Z λb3=>.sW .head Z Z yS V1.one Z<|.ns<|.fA Z vY<|.st .head Z Z oJ Z (nb Z) Z<|.nt<|.rg<|.mv Z<|.yw (.loadW Z xS Hm Z)<|.xs (X:=(Nat × Nat) × (Option Addr × Nat)) Z (λW s=>zI K (dN K.gd.last hq y24.2) (VlR.one (v:=(⟨v.tm,false,v.e,v.f⟩:Vl)) ⟨V1.e,V1.f⟩) aD aD hlo (s.p4_4 [1,3,2,0] Z)) λp9 _=>.nl<|.bN<|?_
  refine jM (.inr Z) rfl .nil rfl λW s=>?_;have e0:nG l (⟨q,o::r,(v::V,bd),true,dn⟩:Ps)=⟨q.nx,r,((⟨v.tm,false,v.e,v.f⟩:Vl)::V,bd),true,dn⟩:=aM7 rfl hk y24.2;rw [e0];exact ⟨(_,_,_,_,_,AR),⟨.refl,⟨SO,.cons VS1 (v:=(⟨v.tm,false,v.e,v.f⟩:Vl)) ⟨V1.e,V1.f⟩⟩⟩,Z,s.p4_3 [0,1,2] rfl⟩
 rw [h24] at e24;rw [aA (by rw [h24];decide)];refine .cu (X:=Bool) [(0,_),(2,_)] ⟨Z,Z,Jt⟩ (λz=>[(40,.bool z)]) (λz=>H) (λz=>(.box b [.slice tp l.length tc,iN ((if z then Rq.nx q else q).i),(.slice (dI g) (o::r).length c),rv,.bool true,.bool dn,.bool bd,iN ((if z then Rq.nx q else q).off),iN ((if z then Rq.nx q else q).er)] 102::.row 97 11 ((.slice (dI g) (o::r).length c)) ((o::r).length) ((xr++oC o s1 s2))::.row 179 13 (rv) (V.length+1) ((yr++vC v t0 t1 t2))::(AR++bs))) (λz=>z=(decide (o.kd=3) && Rq.ac l [41] q)) ?_ λz hC=>?_
 ·
  refine .rg<|.mv Z<|.nC Z<|.fA Z gZ<|.yw (.loadR1 Z nH cU (lC hlo Z))<|.yw (.eql Z Z)<|.mv Z<|.b2 (λh46=>?_) (λh46=>?_)
  ·have hg:o.kd=3:=aR.1 (by have:=aI h46;show o.kd.toNat=3;omega);exact .gy (.move Z)<|.gd Z Z<|.xs (X:=Unit) Z (λW s=>fC K hq [41] (s.p3_3 [0,1,2] Z)) λ_ _=>.pT Z<|.aq Z<|.me _ ⟨Z,Jt⟩ ⟨Z,Z,Jt⟩ (λ_ s=>s) (by first | rw [aG hg,aO] | (rw [aL hg];rfl))
  have hg:¬ o.kd=3:=λe=>aJ h46 (by rw [e];rfl);exact .g2<|.pF Z<|.aq Z<|.me _ ⟨Z,Jt⟩ ⟨Z,Z,Jt⟩ (λ_ s=>s) (by first | rw [aG hg,aO] | (rw [aL hg];rfl))
 have e40:=hC;refine .cd Z (λh40=>?_) (λh40=>?_)
 ·rw [h40] at e40;have y40:=aE _ _ |>.mp e40.symm
  have hk:o.kd=3:=aI y40.1;rw [aK h40];have hk5:o.kd≠5:=by rw [hk];decide
  obtain ⟨SO,FO⟩:=Ops.inv2 S.ops hk5;refine .sm Z<|.xs (X:=Unit) Z (λW s=>sS K (dN K.gd.last hq y40.2) [62,61] (s.p3_3 [0,1,2] Z)) λ_ _=>.ns<|.mv Z<|.mv Z<|.xs (X:=Unit) Z (λW s=>yF K (lR K.gd.last (dN K.gd.last hq y40.2))  (s.p3_3 [0,1,2] Z)) λ_ _=>.yw (.build Z (CD _ _))<|.bl Z (oZ _ _ _ _) Z λb56=>?_
  refine Sx.freezeBoxN λH2 u2 m2=>?_;refine .nC Z<|.fA Z dZ<|.fA Z dB<|.s1Q (uI (n:=r.length * 11) (j:=9) (cs':=oC o (.slice (dI b56) 1 1) s2) hlo Z) Z Z nT Z iJ (by rw [aC,hlo];show r.length * 11+9<r.length * 11+11;omega)<|.ns<|.mv Z<|.mv Z<|.xs (X:=Nat × Nat) Z (λW s=>xQ (K.up u2.up) (zC K.gd.last (lR K.gd.last (dN K.gd.last hq y40.2))) V1.one V1.e.nm aD l1 (s.p3_3 [0,2,1] Z)) λp1 _=>?_
  obtain ⟨q1,q2,ef,FR⟩:=JS V1;rw [ef];refine .bl Z (rV _ _ _ _ _ _ _) Z λb63=>?_;refine Sx.freezeBoxN λH3 u3 m3=>?_;refine .nC Z<|.fA Z dZ<|.fA Z dQ<|.s1Q (uI (n:=r.length * 11) (j:=10) (cs':=oC o (.slice (dI b56) 1 1) (.slice (dI b63) 1 1)) hlo Z) Z Z EW Z iE (by rw [aC,hlo];show r.length * 11+10<r.length * 11+11;omega)<|.nt<|.rg<|.mv Z<|.mv Z<|.nC Z<|.fA Z dZ<|.yw (.loadR (vs:=(cFm .u8 o.f.op o.f.nm o.f.fd o.f.a o.f.b (.slice (dI b56) 1 1) (.slice (dI b63) 1 1))) Z cQ iG Z (λj u h=>by rw [fP];exact lC hlo (by rw [Nat.add_comm 4 j];exact h)))<|.yw (.build Z (RB _ _ _ _ _ _ _ _))<|?_
  have VN:VlR H3 (⟨false,true,zE,(o.f.wEx [(.mk 1 [] ((q.nx.exS l [62,61]).nbV l) [])]).wAr [v.fm]⟩:Vl) (cL) (.slice (dI b56) 1 1) (.slice (dI b63) 1 1):=⟨ExR.zero rfl (aN _),⟨(Rep.mk (n:=1) (c:=1) m2 (.single (ExR.zero (e:=(.mk 1 [] ((q.nx.exS l [62,61]).nbV l) [])) rfl (aN _)).rep rfl) rfl (aY _) aS).up u3.up,(Rep.mk m3 (.single ((FR.up u2.up).up u3.up).rep rfl) rfl (aY _) aS),FO.nm,FO.fd⟩⟩;refine .xs (X:=(Nat × Nat) × (Option Addr × Nat)) Z (λW s=>zI ((K.up u2.up).up u3.up) (zC K.gd.last (lR K.gd.last (dN K.gd.last hq y40.2))) VN.one aD aD hlo (s.p3_3 [0,2,1] Z)) λp9 _=>.nl<|.bN<|?_
  refine jM (.inr Z) rfl .nil rfl λW s=>?_;have e0:nG l (⟨q,o::r,(v::V,bd),true,dn⟩:Ps)=⟨((q.nx.exS l [62,61]).nbS l),r,((⟨false,true,zE,(o.f.wEx [(.mk 1 [] ((q.nx.exS l [62,61]).nbV l) [])]).wAr [v.fm]⟩:Vl)::V,bd || v.noF),true,dn⟩:=aN0 rfl hk y40.2;rw [e0];exact ⟨(_,_,_,_,_,AR),⟨(u2.trans u3),⟨(SO.up u2.up).up u3.up,.cons ((VS1.up u2.up).up u3.up) VN⟩⟩,Z,s.p3_3 [0,1,2] rfl⟩
 rw [h40] at e40;rw [aA (by rw [h40];decide)];refine .cu (X:=Bool) [(0,_),(2,_)] ⟨Z,Z,Jt⟩ (λz=>[(74,.bool z)]) (λz=>H) (λz=>(.box b [.slice tp l.length tc,iN ((if z then Rq.nx q else q).i),(.slice (dI g) (o::r).length c),rv,.bool true,.bool dn,.bool bd,iN ((if z then Rq.nx q else q).off),iN ((if z then Rq.nx q else q).er)] 102::.row 97 11 ((.slice (dI g) (o::r).length c)) ((o::r).length) ((xr++oC o s1 s2))::.row 179 13 (rv) (V.length+1) ((yr++vC v t0 t1 t2))::(AR++bs))) (λz=>z=(decide (o.kd=4) && Rq.ac l [93] q)) ?_ λz hC=>?_
 ·
  refine .rg<|.mv Z<|.nC Z<|.fA Z gZ<|.yw (.loadR1 Z nH cU (lC hlo Z))<|.yw (.eql Z Z)<|.mv Z<|.b2 (λh80=>?_) (λh80=>?_)
  ·have hg:o.kd=4:=aR.1 (by have:=aI h80;show o.kd.toNat=4;omega);exact .gy (.move Z)<|.gd Z Z<|.xs (X:=Unit) Z (λW s=>fC K hq [93] (s.p3_3 [0,1,2] Z)) λ_ _=>.pT Z<|.aq Z<|.me _ ⟨Z,Jt⟩ ⟨Z,Z,Jt⟩ (λ_ s=>s) (by first | rw [aG hg,aO] | (rw [aL hg];rfl))
  have hg:¬ o.kd=4:=λe=>aJ h80 (by rw [e];rfl);exact .g2<|.pF Z<|.aq Z<|.me _ ⟨Z,Jt⟩ ⟨Z,Z,Jt⟩ (λ_ s=>s) (by first | rw [aG hg,aO] | (rw [aL hg];rfl))
 have e74:=hC;refine .cd Z (λh74=>?_) (λh74=>?_)
 ·rw [h74] at e74;have y74:=aE _ _ |>.mp e74.symm
  have hk:o.kd=4:=aI y74.1;rw [aK h74];have hk5:o.kd≠5:=by rw [hk];decide
  obtain ⟨SO,FO⟩:=Ops.inv2 S.ops hk5;refine .sm Z<|.xs (X:=Nat × Nat) Z (λW s=>zQ K (dN K.gd.last hq y74.2) V1.one aD l1 (s.p3_3 [0,2,1] Z)) λp1 _=>.bl Z (oZ _ _ _ _) Z λb86=>?_
  refine Sx.freezeBoxN λH2 u2 m2=>?_;refine .aq Z<|.sq<|.sm Z<|.nC Z<|.fA Z BW<|.yw (.loadR1 Z kO iG (lC hlo Z))<|.yw (.eql Z Z)<|.nt<|.cd Z (λh91=>?_) (λh91=>?_)
  ·have ho6:o.op=6:=aR.1 (by have:=aI h91;show o.op.toNat=6;omega);refine .sm Z<|.mv Z<|.nC Z<|.fA Z dZ<|.fA Z gP<|.yw (.loadR1 Z bT iG (BS (j:=1) hlo Z))<|.mv Z<|.yw (.build Z (PX _ _ _ _ _))<|.yw (.build Z (jV _ _ _ _ _))<|?_
   have VN:VlR H2 (tmv (.mk 6 o.f.nm 0 [v.e])) (.slice (dI b86) 1 1) (cL) (cL):=⟨⟨(Rep.mk m2 (.single (V1.e.up u2.up).rep rfl) rfl (aY _) aS),FO.nm⟩,FmR.zero rfl rfl (aN _) (aN _)⟩;refine .xs (X:=(Nat × Nat) × (Option Addr × Nat)) Z (λW s=>zI (K.up u2.up) (dN K.gd.last hq y74.2) VN.one aD aD hlo (s.p3_3 [0,2,1] Z)) λp9 _=>.nt<|.rt<|.tR<|.bR<|?_
   refine y7 Z .nil rfl λW s=>?_;have e0:nG l (⟨q,o::r,(v::V,bd),true,dn⟩:Ps)=⟨q.nx,r,((tmv (.mk 6 o.f.nm 0 [v.e]))::V,bd || !v.tm),true,dn⟩:=aM9 rfl hk ho6 y74.2;rw [e0];exact ⟨(_,_,_,_,_,AR),⟨u2,⟨SO.up u2.up,.cons (VS1.up u2.up) VN⟩⟩,Z,s.p3_3 [0,1,2] rfl⟩
  have ho6:¬ o.op=6:=λe=>aJ h91 (by rw [e];rfl);refine .sk<|.tN<|.sm Z<|.mv Z<|.nC Z<|.fA Z dZ<|.fA Z dB<|.s1Q (uI (n:=r.length * 11) (j:=9) (cs':=oC o (.slice (dI b86) 1 1) s2) hlo Z) Z Z nT Z iE (by rw [aC,hlo];show r.length * 11+9<r.length * 11+11;omega)<|.nt<|.rg<|.mv Z<|.mv Z<|.nC Z<|.fA Z dZ<|.yw (.loadR (vs:=(cFm .u8 o.f.op o.f.nm o.f.fd o.f.a o.f.b (.slice (dI b86) 1 1) s2)) Z cQ iG Z (λj u h=>by rw [fP];exact lC hlo (by rw [Nat.add_comm 4 j];exact h)))<|.yw (.build Z (jA _ _ _ _ _ _ _))<|?_
  have VN:VlR H2 (fmv (o.f.wEx [v.e])) (cL) (.slice (dI b86) 1 1) s2:=⟨ExR.zero rfl (aN _),⟨(Rep.mk m2 (.single (V1.e.up u2.up).rep rfl) rfl (aY _) aS),FO.ar.up u2.up,FO.nm,FO.fd⟩⟩;refine .xs (X:=(Nat × Nat) × (Option Addr × Nat)) Z (λW s=>zI (K.up u2.up) (dN K.gd.last hq y74.2) VN.one aD aD hlo (s.p3_3 [0,2,1] Z)) λp9 _=>.nl<|.bN<|?_
  refine jM (.inr Z) rfl .nil rfl λW s=>?_;have e0:nG l (⟨q,o::r,(v::V,bd),true,dn⟩:Ps)=⟨q.nx,r,((fmv (o.f.wEx [v.e]))::V,bd || !v.tm),true,dn⟩:=aM8 rfl hk ho6 y74.2;rw [e0];exact ⟨(_,_,_,_,_,AR),⟨u2,⟨SO.up u2.up,.cons (VS1.up u2.up) VN⟩⟩,Z,s.p3_3 [0,1,2] rfl⟩
 rw [h74] at e74;rw [aA (by rw [h74];decide)];refine .cu (X:=Bool) [(0,_),(2,_)] ⟨Z,Z,Jt⟩ (λz=>[(114,.bool z)]) (λz=>H) (λz=>(.box b [.slice tp l.length tc,iN ((if z then Rq.nx q else q).i),(.slice (dI g) (o::r).length c),rv,.bool true,.bool dn,.bool bd,iN ((if z then Rq.nx q else q).off),iN ((if z then Rq.nx q else q).er)] 102::.row 97 11 ((.slice (dI g) (o::r).length c)) ((o::r).length) ((xr++oC o s1 s2))::.row 179 13 (rv) (V.length+1) ((yr++vC v t0 t1 t2))::(AR++bs))) (λz=>z=(decide (o.kd=5) && Rq.ac l [44] q)) ?_ λz hC=>?_
 ·
  refine .rg<|.mv Z<|.nC Z<|.fA Z gZ<|.yw (.loadR1 Z nH cU (lC hlo Z))<|.yw (.eql Z Z)<|.mv Z<|.b2 (λh120=>?_) (λh120=>?_)
  ·have hg:o.kd=5:=aR.1 (by have:=aI h120;show o.kd.toNat=5;omega);exact .gy (.move Z)<|.gd Z Z<|.xs (X:=Unit) Z (λW s=>fC K hq [44] (s.p3_3 [0,1,2] Z)) λ_ _=>.pT Z<|.aq Z<|.me _ ⟨Z,Jt⟩ ⟨Z,Z,Jt⟩ (λ_ s=>s) (by first | rw [aG hg,aO] | (rw [aL hg];rfl))
  have hg:¬ o.kd=5:=λe=>aJ h120 (by rw [e];rfl);exact .g2<|.pF Z<|.aq Z<|.me _ ⟨Z,Jt⟩ ⟨Z,Z,Jt⟩ (λ_ s=>s) (by first | rw [aG hg,aO] | (rw [aL hg];rfl))
 have e114:=hC;refine .cd Z (λh114=>?_) (λh114=>?_)
 ·rw [h114] at e114;have y114:=aE _ _ |>.mp e114.symm
  have hk:o.kd=5:=aI y114.1;rw [aK h114];obtain ⟨AR1,xe,rfl,SO,rfl,hze,har,hnm,hfd⟩:=Ops.inv5 S.ops hk;refine Sx.reSt (λW s=>(s:St _ _ (_::_::_::_::(AR1++bs)) W)) ?_;obtain ⟨AR,rfl⟩:∃ A,A=AR1:=⟨_,Z⟩;refine Sx.At.ra (size:=4) (r:=s1) (e:=76) qL λpA cA e=>?_;subst e;refine .sq<|.fx (p:=.light _ _ (.light _ _ (.light _ _ (.light _ _ (.light _ _ (.light _ _ (.light _ _ (.alt _ _ _ (.alt _ _ _ (.alt _ _ _ (.light _ _ (.light _ _ (.light _ _ (.light _ _ (.alt _ _ _ (.alt _ _ _ (.done) (.no)) (.alt _ _ _ (.alt _ _ _ (.done) (.no)) (.no))))))) (.no)) (.no)) (.alt _ _ _ (.alt _ _ _ (.alt _ _ _ (.light _ _ (.light _ _ (.light _ _ (.light _ _ (.alt _ _ _ (.alt _ _ _ (.done) (.no)) (.alt _ _ _ (.alt _ _ _ (.done) (.no)) (.no))))))) (.no)) (.no)) (.no)))))))))) 16 (.light 0 (.light 1 (.light 2 (.light 3 (.light 4 (.light 5 (.light 7 (.alt 6 2 (.alt 8 0 (.alt 9 2 (.light 10 (.light 12 (.light 13 (.light 14 (.alt 11 2 (.alt 15 2 (.done) (.no)) (.alt 15 2 (.alt 11 2 (.done) (.no)) (.no))))))) (.no)) (.no)) (.alt 8 0 (.alt 6 2 (.alt 9 2 (.light 10 (.light 12 (.light 13 (.light 14 (.alt 11 2 (.alt 15 2 (.done) (.no)) (.alt 15 2 (.alt 11 2 (.done) (.no)) (.no))))))) (.no)) (.no)) (.no)))))))))) fT fT Z<|.mv Z<|.nC Z<|.fA Z dZ<|.fA Z dB<|.yw (.loadR1 Z dR cU (BS (j:=5) hlo Z))<|.mv Z<|.yw (.lenSl eG Z)<|.h ?_ (.h ?_ .nn)
  ·
   refine .x3 (X:=Nat × Nat) Z (λW s=>zQ K (dN K.gd.last hq y114.2) V1.one aD l1 (s.p4_4 [0,2,1,3] Z)) (λ_ _=>(.yv (.lenSl eG Z)<|.dn<|.yv (.loadR1 Z dR iG (BS (j:=5) hlo Z))<|.yv (.fieldAddr Z dB)<|.yv (.fieldAddr Z dZ)<|.yv (.nilCheck Z)<|.yv (.move Z)<|.nl)) λp1 _=>.h1<|.blF Z (oZ _ _ _ _) Z λb132 H3 u3 m3=>.h1<|.apE wM Z (λ_ _=>lJ) Z (Rep.mk (n:=1) (c:=1) (ds:=[dEx .u8 zE]) m3 (.single (TR _) Z) Z (aY _) aS) (Nat.succ_pos _) (by simp only [maxLen];omega) aD Z (λ_ _=>(.d4<|.d3<|.nl)) λnews gE cE hn=>.yw (.indexSl eG Z Z (i:=o.f.ex.length) Z aD (q:=o.f.ex.length * 4) aD)<|.nC Z<|.fA Z dZ<|.fA Z dB<|.h ?_ (.h ?_ .nn)
   ·
    refine .sR Z Z gR (Rep.one V1.e.rep) lJ (by have:=hn.len;have:=hze.len;simp only [aC,aF,aH,aP] at * <;> omega) (.yv (.fieldAddr Z dB)<|.yv (.fieldAddr Z dZ)<|.yv (.nilCheck Z)<|.d4<|.d4<|.nl) <|.h1<|.s1Q (uI (n:=r.length * 11) (j:=9) (cs':=oC o (.slice (dI gE) (o.f.ex.length+1) cE) (cL)) hlo Z) Z Z nT Z iE (by rw [aC,hlo];show r.length * 11+9<r.length * 11+11;omega) (.d3<|.yv (.indexSl eG Z Z (i:=o.f.ex.length) Z aD (q:=o.f.ex.length * 4) aD)<|.d4<|.d3<|.nl) <|.fe<|.tN<|.rg<|.mv Z<|.nC Z<|.fA Z mY<|.st .head Z Z oJ Z (nb Z) Z<|.nl<|.bN<|?_
    refine jM (.inr Z) rfl .nil rfl λW s=>?_;have e0:nG l (⟨q,o::r,(v::V,bd),true,dn⟩:Ps)=⟨q.nx,⟨o.kd,o.lv,o.tm,o.op,o.f.wEx (o.f.ex++[v.e])⟩::r,(V,bd || !v.tm),false,dn⟩:=IJ rfl hk y114.2;rw [e0];have hz:=zG (ds:=o.f.ex.map (dEx .u8)) (hze.up u3.up) hn (V1.e.up u3.up).rep rfl (aP ..);have ha:=Ops.arg (o:=⟨o.kd,o.lv,o.tm,o.op,o.f.wEx (o.f.ex++[v.e])⟩) (SO.up u3.up) hk har hnm hfd (by rw [show (⟨o.kd,o.lv,o.tm,o.op,o.f.wEx (o.f.ex++[v.e])⟩:Ov).f.ex=o.f.ex++[v.e] from rfl,bI];exact hz) (s1:=(.slice (dI gE) (o.f.ex.length+1) cE)) rfl;rw [show (⟨o.kd,o.lv,o.tm,o.op,o.f.wEx (o.f.ex++[v.e])⟩:Ov).f.ex.length=o.f.ex.length+1 from by show (o.f.ex++[v.e]).length=_;rw [aC];rfl] at ha;exact ⟨(H3,(.slice (dI g) (o::r).length c),.slice (some ⟨p1.1,0,none⟩) V.length p1.2,xr++oC ⟨o.kd,o.lv,o.tm,o.op,o.f.wEx (o.f.ex++[v.e])⟩ (.slice (dI gE) (o.f.ex.length+1) cE) (cL),yr,.row 76 4 (.slice (dI gE) (o.f.ex.length+1) cE) (o.f.ex.length+1) (pE (xe++news) (o.f.ex.length * 4) [.int .u8 v.e.op.toNat,bJ v.e.nm,.int .i64 v.e.n.toInt,t0])::AR),⟨u3,⟨ha,(VS1.up u3.up)⟩⟩,Z,s.p4_4 [0,2,1,3] rfl⟩
   refine .s1Q (uI (n:=r.length * 11) (j:=9) (cs':=oC o (.slice (dI gE) (o.f.ex.length+1) cE) (cL)) hlo Z) Z Z nT Z iE (by rw [aC,hlo];show r.length * 11+9<r.length * 11+11;omega) (.d3<|.yv (.indexSl eG Z Z (i:=o.f.ex.length) Z aD (q:=o.f.ex.length * 4) aD)<|.d4<|.d3<|.nl) <|.h1<|.sR Z Z gR (Rep.one V1.e.rep) lJ (by have:=hn.len;have:=hze.len;simp only [aC,aF,aH,aP] at * <;> omega) (.yv (.fieldAddr Z dB)<|.yv (.fieldAddr Z dZ)<|.yv (.nilCheck Z)<|.d4<|.d4<|.nl) <|.fe<|.tN<|.rg<|.mv Z<|.nC Z<|.fA Z mY<|.st .head Z Z oJ Z (nb Z) Z<|.nl<|.bN<|?_
   refine jM (.inr Z) rfl .nil rfl λW s=>?_;have e0:nG l (⟨q,o::r,(v::V,bd),true,dn⟩:Ps)=⟨q.nx,⟨o.kd,o.lv,o.tm,o.op,o.f.wEx (o.f.ex++[v.e])⟩::r,(V,bd || !v.tm),false,dn⟩:=IJ rfl hk y114.2;rw [e0];have hz:=zG (ds:=o.f.ex.map (dEx .u8)) (hze.up u3.up) hn (V1.e.up u3.up).rep rfl (aP ..);have ha:=Ops.arg (o:=⟨o.kd,o.lv,o.tm,o.op,o.f.wEx (o.f.ex++[v.e])⟩) (SO.up u3.up) hk har hnm hfd (by rw [show (⟨o.kd,o.lv,o.tm,o.op,o.f.wEx (o.f.ex++[v.e])⟩:Ov).f.ex=o.f.ex++[v.e] from rfl,bI];exact hz) (s1:=(.slice (dI gE) (o.f.ex.length+1) cE)) rfl;rw [show (⟨o.kd,o.lv,o.tm,o.op,o.f.wEx (o.f.ex++[v.e])⟩:Ov).f.ex.length=o.f.ex.length+1 from by show (o.f.ex++[v.e]).length=_;rw [aC];rfl] at ha;exact ⟨(H3,(.slice (dI g) (o::r).length c),.slice (some ⟨p1.1,0,none⟩) V.length p1.2,xr++oC ⟨o.kd,o.lv,o.tm,o.op,o.f.wEx (o.f.ex++[v.e])⟩ (.slice (dI gE) (o.f.ex.length+1) cE) (cL),yr,.row 76 4 (.slice (dI gE) (o.f.ex.length+1) cE) (o.f.ex.length+1) (pE (xe++news) (o.f.ex.length * 4) [.int .u8 v.e.op.toNat,bJ v.e.nm,.int .i64 v.e.n.toInt,t0])::AR),⟨u3,⟨ha,(VS1.up u3.up)⟩⟩,Z,s.p4_4 [0,2,1,3] rfl⟩
  refine .blF Z (oZ _ _ _ _) Z λb132 H3 u3 m3=>.h1<|.x3 (X:=Nat × Nat) Z (λW s=>zQ (K.up u3.up) (dN K.gd.last hq y114.2) V1.one aD l1 (s.p4_4 [0,2,1,3] Z)) (λ_ _=>(.yv (.lenSl eG Z)<|.dn<|.yv (.loadR1 Z dR iG (BS (j:=5) hlo Z))<|.yv (.fieldAddr Z dB)<|.yv (.fieldAddr Z dZ)<|.yv (.nilCheck Z)<|.yv (.move Z)<|.nl)) λp1 _=>.h1<|.apE wM Z (λ_ _=>lJ) Z (Rep.mk (n:=1) (c:=1) (ds:=[dEx .u8 zE]) m3 (.single (TR _) Z) Z (aY _) aS) (Nat.succ_pos _) (by simp only [maxLen];omega) aD Z (λ_ _=>(.d4<|.d3<|.nl)) λnews gE cE hn=>.yw (.indexSl eG Z Z (i:=o.f.ex.length) Z aD (q:=o.f.ex.length * 4) aD)<|.nC Z<|.fA Z dZ<|.fA Z dB<|.h ?_ (.h ?_ .nn)
  ·
   refine .sR Z Z gR (Rep.one V1.e.rep) lJ (by have:=hn.len;have:=hze.len;simp only [aC,aF,aH,aP] at * <;> omega) (.yv (.fieldAddr Z dB)<|.yv (.fieldAddr Z dZ)<|.yv (.nilCheck Z)<|.d4<|.d4<|.nl) <|.h1<|.s1Q (uI (n:=r.length * 11) (j:=9) (cs':=oC o (.slice (dI gE) (o.f.ex.length+1) cE) (cL)) hlo Z) Z Z nT Z iE (by rw [aC,hlo];show r.length * 11+9<r.length * 11+11;omega) (.d3<|.yv (.indexSl eG Z Z (i:=o.f.ex.length) Z aD (q:=o.f.ex.length * 4) aD)<|.d4<|.d3<|.nl) <|.fe<|.tN<|.rg<|.mv Z<|.nC Z<|.fA Z mY<|.st .head Z Z oJ Z (nb Z) Z<|.nl<|.bN<|?_
   refine jM (.inr Z) rfl .nil rfl λW s=>?_;have e0:nG l (⟨q,o::r,(v::V,bd),true,dn⟩:Ps)=⟨q.nx,⟨o.kd,o.lv,o.tm,o.op,o.f.wEx (o.f.ex++[v.e])⟩::r,(V,bd || !v.tm),false,dn⟩:=IJ rfl hk y114.2;rw [e0];have hz:=zG (ds:=o.f.ex.map (dEx .u8)) (hze.up u3.up) hn (V1.e.up u3.up).rep rfl (aP ..);have ha:=Ops.arg (o:=⟨o.kd,o.lv,o.tm,o.op,o.f.wEx (o.f.ex++[v.e])⟩) (SO.up u3.up) hk har hnm hfd (by rw [show (⟨o.kd,o.lv,o.tm,o.op,o.f.wEx (o.f.ex++[v.e])⟩:Ov).f.ex=o.f.ex++[v.e] from rfl,bI];exact hz) (s1:=(.slice (dI gE) (o.f.ex.length+1) cE)) rfl;rw [show (⟨o.kd,o.lv,o.tm,o.op,o.f.wEx (o.f.ex++[v.e])⟩:Ov).f.ex.length=o.f.ex.length+1 from by show (o.f.ex++[v.e]).length=_;rw [aC];rfl] at ha;exact ⟨(H3,(.slice (dI g) (o::r).length c),.slice (some ⟨p1.1,0,none⟩) V.length p1.2,xr++oC ⟨o.kd,o.lv,o.tm,o.op,o.f.wEx (o.f.ex++[v.e])⟩ (.slice (dI gE) (o.f.ex.length+1) cE) (cL),yr,.row 76 4 (.slice (dI gE) (o.f.ex.length+1) cE) (o.f.ex.length+1) (pE (xe++news) (o.f.ex.length * 4) [.int .u8 v.e.op.toNat,bJ v.e.nm,.int .i64 v.e.n.toInt,t0])::AR),⟨u3,⟨ha,(VS1.up u3.up)⟩⟩,Z,s.p4_4 [0,2,1,3] rfl⟩
  refine .s1Q (uI (n:=r.length * 11) (j:=9) (cs':=oC o (.slice (dI gE) (o.f.ex.length+1) cE) (cL)) hlo Z) Z Z nT Z iE (by rw [aC,hlo];show r.length * 11+9<r.length * 11+11;omega) (.d3<|.yv (.indexSl eG Z Z (i:=o.f.ex.length) Z aD (q:=o.f.ex.length * 4) aD)<|.d4<|.d3<|.nl) <|.h1<|.sR Z Z gR (Rep.one V1.e.rep) lJ (by have:=hn.len;have:=hze.len;simp only [aC,aF,aH,aP] at * <;> omega) (.yv (.fieldAddr Z dB)<|.yv (.fieldAddr Z dZ)<|.yv (.nilCheck Z)<|.d4<|.d4<|.nl) <|.fe<|.tN<|.rg<|.mv Z<|.nC Z<|.fA Z mY<|.st .head Z Z oJ Z (nb Z) Z<|.nl<|.bN<|?_
  refine jM (.inr Z) rfl .nil rfl λW s=>?_;have e0:nG l (⟨q,o::r,(v::V,bd),true,dn⟩:Ps)=⟨q.nx,⟨o.kd,o.lv,o.tm,o.op,o.f.wEx (o.f.ex++[v.e])⟩::r,(V,bd || !v.tm),false,dn⟩:=IJ rfl hk y114.2;rw [e0];have hz:=zG (ds:=o.f.ex.map (dEx .u8)) (hze.up u3.up) hn (V1.e.up u3.up).rep rfl (aP ..);have ha:=Ops.arg (o:=⟨o.kd,o.lv,o.tm,o.op,o.f.wEx (o.f.ex++[v.e])⟩) (SO.up u3.up) hk har hnm hfd (by rw [show (⟨o.kd,o.lv,o.tm,o.op,o.f.wEx (o.f.ex++[v.e])⟩:Ov).f.ex=o.f.ex++[v.e] from rfl,bI];exact hz) (s1:=(.slice (dI gE) (o.f.ex.length+1) cE)) rfl;rw [show (⟨o.kd,o.lv,o.tm,o.op,o.f.wEx (o.f.ex++[v.e])⟩:Ov).f.ex.length=o.f.ex.length+1 from by show (o.f.ex++[v.e]).length=_;rw [aC];rfl] at ha;exact ⟨(H3,(.slice (dI g) (o::r).length c),.slice (some ⟨p1.1,0,none⟩) V.length p1.2,xr++oC ⟨o.kd,o.lv,o.tm,o.op,o.f.wEx (o.f.ex++[v.e])⟩ (.slice (dI gE) (o.f.ex.length+1) cE) (cL),yr,.row 76 4 (.slice (dI gE) (o.f.ex.length+1) cE) (o.f.ex.length+1) (pE (xe++news) (o.f.ex.length * 4) [.int .u8 v.e.op.toNat,bJ v.e.nm,.int .i64 v.e.n.toInt,t0])::AR),⟨u3,⟨ha,(VS1.up u3.up)⟩⟩,Z,s.p4_4 [0,2,1,3] rfl⟩
 rw [h114] at e114;rw [aA (by rw [h114];decide)];refine .cu (X:=Bool) [(0,_),(2,_)] ⟨Z,Z,Jt⟩ (λz=>[(141,.bool z)]) (λz=>H) (λz=>(.box b [.slice tp l.length tc,iN ((if z then Rq.nx q else q).i),(.slice (dI g) (o::r).length c),rv,.bool true,.bool dn,.bool bd,iN ((if z then Rq.nx q else q).off),iN ((if z then Rq.nx q else q).er)] 102::.row 97 11 ((.slice (dI g) (o::r).length c)) ((o::r).length) ((xr++oC o s1 s2))::.row 179 13 (rv) (V.length+1) ((yr++vC v t0 t1 t2))::(AR++bs))) (λz=>z=(decide (o.kd=5) && Rq.ac l [41] q)) ?_ λz hC=>?_
 ·
  refine .rg<|.mv Z<|.nC Z<|.fA Z gZ<|.yw (.loadR1 Z nH cU (lC hlo Z))<|.yw (.eql Z Z)<|.mv Z<|.b2 (λh147=>?_) (λh147=>?_)
  ·have hg:o.kd=5:=aR.1 (by have:=aI h147;show o.kd.toNat=5;omega);exact .gy (.move Z)<|.gd Z Z<|.xs (X:=Unit) Z (λW s=>fC K hq [41] (s.p3_3 [0,1,2] Z)) λ_ _=>.pT Z<|.aq Z<|.me _ ⟨Z,Jt⟩ ⟨Z,Z,Jt⟩ (λ_ s=>s) (by first | rw [aG hg,aO] | (rw [aL hg];rfl))
  have hg:¬ o.kd=5:=λe=>aJ h147 (by rw [e];rfl);exact .g2<|.pF Z<|.aq Z<|.me _ ⟨Z,Jt⟩ ⟨Z,Z,Jt⟩ (λ_ s=>s) (by first | rw [aG hg,aO] | (rw [aL hg];rfl))
 have e141:=hC;refine .cd Z (λh141=>?_) (λh141=>?_)
 ·rw [h141] at e141;have y141:=aE _ _ |>.mp e141.symm
  have hk:o.kd=5:=aI y141.1;rw [aK h141];obtain ⟨AR1,xe,rfl,SO,rfl,hze,har,hnm,hfd⟩:=Ops.inv5 S.ops hk;refine Sx.reSt (λW s=>(s:St _ _ (_::_::_::_::(AR1++bs)) W)) ?_;obtain ⟨AR,rfl⟩:∃ A,A=AR1:=⟨_,Z⟩;refine Sx.At.ra (size:=4) (r:=s1) (e:=76) qL λpA cA e=>?_;subst e;refine .sq<|.fx (p:=.light _ _ (.light _ _ (.light _ _ (.light _ _ (.light _ _ (.light _ _ (.light _ _ (.alt _ _ _ (.alt _ _ _ (.alt _ _ _ (.light _ _ (.light _ _ (.light _ _ (.light _ _ (.alt _ _ _ (.alt _ _ _ (.done) (.no)) (.alt _ _ _ (.alt _ _ _ (.done) (.no)) (.no))))))) (.no)) (.no)) (.alt _ _ _ (.alt _ _ _ (.alt _ _ _ (.light _ _ (.light _ _ (.light _ _ (.light _ _ (.alt _ _ _ (.alt _ _ _ (.done) (.no)) (.alt _ _ _ (.alt _ _ _ (.done) (.no)) (.no))))))) (.no)) (.no)) (.no)))))))))) 16 (.light 0 (.light 1 (.light 2 (.light 3 (.light 4 (.light 5 (.light 7 (.alt 6 2 (.alt 8 0 (.alt 9 2 (.light 10 (.light 12 (.light 13 (.light 14 (.alt 11 2 (.alt 15 2 (.done) (.no)) (.alt 15 2 (.alt 11 2 (.done) (.no)) (.no))))))) (.no)) (.no)) (.alt 8 0 (.alt 6 2 (.alt 9 2 (.light 10 (.light 12 (.light 13 (.light 14 (.alt 11 2 (.alt 15 2 (.done) (.no)) (.alt 15 2 (.alt 11 2 (.done) (.no)) (.no))))))) (.no)) (.no)) (.no)))))))))) fT fT Z<|.mv Z<|.nC Z<|.fA Z dZ<|.fA Z dB<|.yw (.loadR1 Z dR cU (BS (j:=5) hlo Z))<|.mv Z<|.yw (.lenSl eG Z)<|.h ?_ (.h ?_ .nn)
  ·
   refine .x3 (X:=Nat × Nat) Z (λW s=>zQ K (dN K.gd.last hq y141.2) V1.one aD l1 (s.p4_4 [0,2,1,3] Z)) (λ_ _=>(.yv (.lenSl eG Z)<|.dn<|.yv (.loadR1 Z dR iG (BS (j:=5) hlo Z))<|.yv (.fieldAddr Z dB)<|.yv (.fieldAddr Z dZ)<|.yv (.nilCheck Z)<|.yv (.move Z)<|.nl)) λp1 _=>.h1<|.blF Z (oZ _ _ _ _) Z λb159 H39 u39 m39=>.h1<|.apE wM Z (λ_ _=>lJ) Z (Rep.mk (n:=1) (c:=1) (ds:=[dEx .u8 zE]) m39 (.single (TR _) Z) Z (aY _) aS) (Nat.succ_pos _) (by simp only [maxLen];omega) aD Z (λ_ _=>(.d4<|.d3<|.nl)) λnews9 gE9 cE9 hn9=>.yw (.indexSl eG Z Z (i:=o.f.ex.length) Z aD (q:=o.f.ex.length * 4) aD)<|.nC Z<|.fA Z dZ<|.fA Z dB<|.h ?_ (.h ?_ .nn)
   ·
    refine .sR Z Z gR (Rep.one V1.e.rep) lJ (by have:=hn9.len;have:=hze.len;simp only [aC,aF,aH,aP] at * <;> omega) (.yv (.fieldAddr Z dB)<|.yv (.fieldAddr Z dZ)<|.yv (.nilCheck Z)<|.d4<|.d4<|.nl) <|.h1<|.s1Q (uI (n:=r.length * 11) (j:=9) (cs':=oC o (.slice (dI gE9) (o.f.ex.length+1) cE9) (cL)) hlo Z) Z Z nT Z iE (by rw [aC,hlo];show r.length * 11+9<r.length * 11+11;omega) (.d3<|.yv (.indexSl eG Z Z (i:=o.f.ex.length) Z aD (q:=o.f.ex.length * 4) aD)<|.d4<|.d3<|.nl) <|.fe<|.tN<|.rg<|.mv Z<|.mv Z<|.nC Z<|.fA Z dZ<|.yw (.loadR (vs:=(cFm .u8 o.f.op o.f.nm o.f.fd o.f.a o.f.b (.slice (dI gE9) (o.f.ex.length+1) cE9) (cL))) Z cQ iG Z (λj u h=>by rw [fP];exact lC hlo (by rw [Nat.add_comm 4 j];exact h)))<|.yw (.build Z (jA _ _ _ _ _ _ _))<|.xs (X:=(Nat × Nat) × (Option Addr × Nat)) Z (λW s=>zI (K.up u39.up) (dN K.gd.last hq y141.2) (by simp [Value.oneCell',bJ]) aD aD hlo (s.p4_4 [0,2,1,3] Z)) λp9 _=>.nl<|.bN<|?_
    refine Sx.reSt (λW s=>s.p4_4 [3,0,1,2] rfl) ?_;refine iI (ds:=(o.f.ex++[v.e]).map (dEx .u8)) (by rw [aP,aC];rfl) (by rw [bI];exact zG (ds:=o.f.ex.map (dEx .u8)) (hze.up u39.up) hn9 (V1.e.up u39.up).rep rfl (aP ..)) λH8 p8 c8 u8 e8 h8=>?_;refine jM (.inr Z) rfl .nil rfl λW s=>?_;have e0:nG l (⟨q,o::r,(v::V,bd),true,dn⟩:Ps)=⟨q.nx,r,((fmv (o.f.wEx (o.f.ex++[v.e])))::V,bd || !v.tm),true,dn⟩:=IK rfl hk y141.2;rw [e0];exact ⟨(_,_,_,_,_,AR),⟨(u39.trans u8),⟨((SO.up u39.up).up u8.up),.cons ((VS1.up u39.up).up u8.up) (v:=(fmv (o.f.wEx (o.f.ex++[v.e])))) ⟨ExR.zero rfl (aN _),⟨h8,by show Rep _ (.seq 7 (o.f.args.map _)) _;rw [har];exact Rep.nil4,hnm,hfd⟩⟩⟩⟩,Z,s.p3_3 [0,1,2] rfl⟩
   refine .s1Q (uI (n:=r.length * 11) (j:=9) (cs':=oC o (.slice (dI gE9) (o.f.ex.length+1) cE9) (cL)) hlo Z) Z Z nT Z iE (by rw [aC,hlo];show r.length * 11+9<r.length * 11+11;omega) (.d3<|.yv (.indexSl eG Z Z (i:=o.f.ex.length) Z aD (q:=o.f.ex.length * 4) aD)<|.d4<|.d3<|.nl) <|.h1<|.sR Z Z gR (Rep.one V1.e.rep) lJ (by have:=hn9.len;have:=hze.len;simp only [aC,aF,aH,aP] at * <;> omega) (.yv (.fieldAddr Z dB)<|.yv (.fieldAddr Z dZ)<|.yv (.nilCheck Z)<|.d4<|.d4<|.nl) <|.fe<|.tN<|.rg<|.mv Z<|.mv Z<|.nC Z<|.fA Z dZ<|.yw (.loadR (vs:=(cFm .u8 o.f.op o.f.nm o.f.fd o.f.a o.f.b (.slice (dI gE9) (o.f.ex.length+1) cE9) (cL))) Z cQ iG Z (λj u h=>by rw [fP];exact lC hlo (by rw [Nat.add_comm 4 j];exact h)))<|.yw (.build Z (jA _ _ _ _ _ _ _))<|.xs (X:=(Nat × Nat) × (Option Addr × Nat)) Z (λW s=>zI (K.up u39.up) (dN K.gd.last hq y141.2) (by simp [Value.oneCell',bJ]) aD aD hlo (s.p4_4 [0,2,1,3] Z)) λp9 _=>.nl<|.bN<|?_
   refine Sx.reSt (λW s=>s.p4_4 [3,0,1,2] rfl) ?_;refine iI (ds:=(o.f.ex++[v.e]).map (dEx .u8)) (by rw [aP,aC];rfl) (by rw [bI];exact zG (ds:=o.f.ex.map (dEx .u8)) (hze.up u39.up) hn9 (V1.e.up u39.up).rep rfl (aP ..)) λH8 p8 c8 u8 e8 h8=>?_;refine jM (.inr Z) rfl .nil rfl λW s=>?_;have e0:nG l (⟨q,o::r,(v::V,bd),true,dn⟩:Ps)=⟨q.nx,r,((fmv (o.f.wEx (o.f.ex++[v.e])))::V,bd || !v.tm),true,dn⟩:=IK rfl hk y141.2;rw [e0];exact ⟨(_,_,_,_,_,AR),⟨(u39.trans u8),⟨((SO.up u39.up).up u8.up),.cons ((VS1.up u39.up).up u8.up) (v:=(fmv (o.f.wEx (o.f.ex++[v.e])))) ⟨ExR.zero rfl (aN _),⟨h8,by show Rep _ (.seq 7 (o.f.args.map _)) _;rw [har];exact Rep.nil4,hnm,hfd⟩⟩⟩⟩,Z,s.p3_3 [0,1,2] rfl⟩
  refine .blF Z (oZ _ _ _ _) Z λb159 H39 u39 m39=>.h1<|.x3 (X:=Nat × Nat) Z (λW s=>zQ (K.up u39.up) (dN K.gd.last hq y141.2) V1.one aD l1 (s.p4_4 [0,2,1,3] Z)) (λ_ _=>(.yv (.lenSl eG Z)<|.dn<|.yv (.loadR1 Z dR iG (BS (j:=5) hlo Z))<|.yv (.fieldAddr Z dB)<|.yv (.fieldAddr Z dZ)<|.yv (.nilCheck Z)<|.yv (.move Z)<|.nl)) λp1 _=>.h1<|.apE wM Z (λ_ _=>lJ) Z (Rep.mk (n:=1) (c:=1) (ds:=[dEx .u8 zE]) m39 (.single (TR _) Z) Z (aY _) aS) (Nat.succ_pos _) (by simp only [maxLen];omega) aD Z (λ_ _=>(.d4<|.d3<|.nl)) λnews9 gE9 cE9 hn9=>.yw (.indexSl eG Z Z (i:=o.f.ex.length) Z aD (q:=o.f.ex.length * 4) aD)<|.nC Z<|.fA Z dZ<|.fA Z dB<|.h ?_ (.h ?_ .nn)
  ·
   refine .sR Z Z gR (Rep.one V1.e.rep) lJ (by have:=hn9.len;have:=hze.len;simp only [aC,aF,aH,aP] at * <;> omega) (.yv (.fieldAddr Z dB)<|.yv (.fieldAddr Z dZ)<|.yv (.nilCheck Z)<|.d4<|.d4<|.nl) <|.h1<|.s1Q (uI (n:=r.length * 11) (j:=9) (cs':=oC o (.slice (dI gE9) (o.f.ex.length+1) cE9) (cL)) hlo Z) Z Z nT Z iE (by rw [aC,hlo];show r.length * 11+9<r.length * 11+11;omega) (.d3<|.yv (.indexSl eG Z Z (i:=o.f.ex.length) Z aD (q:=o.f.ex.length * 4) aD)<|.d4<|.d3<|.nl) <|.fe<|.tN<|.rg<|.mv Z<|.mv Z<|.nC Z<|.fA Z dZ<|.yw (.loadR (vs:=(cFm .u8 o.f.op o.f.nm o.f.fd o.f.a o.f.b (.slice (dI gE9) (o.f.ex.length+1) cE9) (cL))) Z cQ iG Z (λj u h=>by rw [fP];exact lC hlo (by rw [Nat.add_comm 4 j];exact h)))<|.yw (.build Z (jA _ _ _ _ _ _ _))<|.xs (X:=(Nat × Nat) × (Option Addr × Nat)) Z (λW s=>zI (K.up u39.up) (dN K.gd.last hq y141.2) (by simp [Value.oneCell',bJ]) aD aD hlo (s.p4_4 [0,2,1,3] Z)) λp9 _=>.nl<|.bN<|?_
   refine Sx.reSt (λW s=>s.p4_4 [3,0,1,2] rfl) ?_;refine iI (ds:=(o.f.ex++[v.e]).map (dEx .u8)) (by rw [aP,aC];rfl) (by rw [bI];exact zG (ds:=o.f.ex.map (dEx .u8)) (hze.up u39.up) hn9 (V1.e.up u39.up).rep rfl (aP ..)) λH8 p8 c8 u8 e8 h8=>?_;refine jM (.inr Z) rfl .nil rfl λW s=>?_;have e0:nG l (⟨q,o::r,(v::V,bd),true,dn⟩:Ps)=⟨q.nx,r,((fmv (o.f.wEx (o.f.ex++[v.e])))::V,bd || !v.tm),true,dn⟩:=IK rfl hk y141.2;rw [e0];exact ⟨(_,_,_,_,_,AR),⟨(u39.trans u8),⟨((SO.up u39.up).up u8.up),.cons ((VS1.up u39.up).up u8.up) (v:=(fmv (o.f.wEx (o.f.ex++[v.e])))) ⟨ExR.zero rfl (aN _),⟨h8,by show Rep _ (.seq 7 (o.f.args.map _)) _;rw [har];exact Rep.nil4,hnm,hfd⟩⟩⟩⟩,Z,s.p3_3 [0,1,2] rfl⟩
  refine .s1Q (uI (n:=r.length * 11) (j:=9) (cs':=oC o (.slice (dI gE9) (o.f.ex.length+1) cE9) (cL)) hlo Z) Z Z nT Z iE (by rw [aC,hlo];show r.length * 11+9<r.length * 11+11;omega) (.d3<|.yv (.indexSl eG Z Z (i:=o.f.ex.length) Z aD (q:=o.f.ex.length * 4) aD)<|.d4<|.d3<|.nl) <|.h1<|.sR Z Z gR (Rep.one V1.e.rep) lJ (by have:=hn9.len;have:=hze.len;simp only [aC,aF,aH,aP] at * <;> omega) (.yv (.fieldAddr Z dB)<|.yv (.fieldAddr Z dZ)<|.yv (.nilCheck Z)<|.d4<|.d4<|.nl) <|.fe<|.tN<|.rg<|.mv Z<|.mv Z<|.nC Z<|.fA Z dZ<|.yw (.loadR (vs:=(cFm .u8 o.f.op o.f.nm o.f.fd o.f.a o.f.b (.slice (dI gE9) (o.f.ex.length+1) cE9) (cL))) Z cQ iG Z (λj u h=>by rw [fP];exact lC hlo (by rw [Nat.add_comm 4 j];exact h)))<|.yw (.build Z (jA _ _ _ _ _ _ _))<|.xs (X:=(Nat × Nat) × (Option Addr × Nat)) Z (λW s=>zI (K.up u39.up) (dN K.gd.last hq y141.2) (by simp [Value.oneCell',bJ]) aD aD hlo (s.p4_4 [0,2,1,3] Z)) λp9 _=>.nl<|.bN<|?_
  refine Sx.reSt (λW s=>s.p4_4 [3,0,1,2] rfl) ?_;refine iI (ds:=(o.f.ex++[v.e]).map (dEx .u8)) (by rw [aP,aC];rfl) (by rw [bI];exact zG (ds:=o.f.ex.map (dEx .u8)) (hze.up u39.up) hn9 (V1.e.up u39.up).rep rfl (aP ..)) λH8 p8 c8 u8 e8 h8=>?_;refine jM (.inr Z) rfl .nil rfl λW s=>?_;have e0:nG l (⟨q,o::r,(v::V,bd),true,dn⟩:Ps)=⟨q.nx,r,((fmv (o.f.wEx (o.f.ex++[v.e])))::V,bd || !v.tm),true,dn⟩:=IK rfl hk y141.2;rw [e0];exact ⟨(_,_,_,_,_,AR),⟨(u39.trans u8),⟨((SO.up u39.up).up u8.up),.cons ((VS1.up u39.up).up u8.up) (v:=(fmv (o.f.wEx (o.f.ex++[v.e])))) ⟨ExR.zero rfl (aN _),⟨h8,by show Rep _ (.seq 7 (o.f.args.map _)) _;rw [har];exact Rep.nil4,hnm,hfd⟩⟩⟩⟩,Z,s.p3_3 [0,1,2] rfl⟩
 rw [h141] at e141;rw [aA (by rw [h141];decide)];refine .rg<|.mv Z<|.xs (X:=Unit) Z (λW s=>rU K hq 8 (s.p3_3 [0,1,2] Z)) λ_ _=>.nl<|.bN<|?_
 refine jM (.inr Z) rfl .nil rfl λW s=>?_;have n2:∀ {n:UInt8} {w:Str},false=(decide (o.kd=n) && Rq.ac l w q)->o.kd=n->Rq.ac l w q=false:=λe k=>by rw [aG k,aO] at e;exact e.symm
 have e0:nG l (⟨q,o::r,(v::V,bd),true,dn⟩:Ps)=(⟨q,o::r,(v::V,bd),true,dn⟩:Ps).at (q.fail l 8):=DP (λe e2=>by rw [aG (show o.kd=1 from e),aG (show (tkf l q.i).k=0 from e2)] at e9;cases e9) (λe=>by
  rcases e with e | e | e
  ·exact n2 e24 e
  ·exact n2 e40 e
  ·exact n2 e141 e) (n2 e74) (n2 e114)
 rw [e0];exact ⟨(_,_,_,_,_,AR),⟨.refl,⟨S.ops,S.vls⟩⟩,Z,s.p3_3 [0,1,2] rfl⟩
def LM (t:Str) (i:Nat):Bool:=decide (nE.getD i []=t) && decide (¬ i=0)
theorem aP0 {t:Str} (hk:k<22) (h:LM t k=true) (hp:∀ j,j<k->LM t j=false):aP2 t=some k:=List.find?_range_eq_some.2 ⟨h,bZ.2 hk,λj hj=>by
 have:=hp j hj;unfold LM at this;rw [this];rfl⟩
theorem ZD {p:Nat->Prop} (h:∀ j,j<k->p j) (hk:p k):∀ j,j<k+1->p j:=λj hj=>by
 by_cases e:j=k
 ·rw [e];exact hk
 ·exact h j aD
theorem aP1 {t:Str} (hp:∀ j,j<22->LM t j=false):aP2 t=none:=List.find?_range_eq_none.2 λj hj=>by
 have:=hp j hj;unfold LM at this;rw [this];rfl
theorem cM6 (h:k<256):IntKind.u8.wrap (k:Int)=(((UInt8.ofNat k).toNat:Nat):Int):=by
 have key:∀ i∈List.range 256,IntKind.u8.wrap (i:Int)=(i:Int):=by decide +kernel
 rw [key k (bZ.2 h),dH h]
set_option maxHeartbeats 2000000 in
theorem aC6 {l:Tks} {tp:Option Addr} {tc:Nat} {op:List Ov} {x:Vb} {dn:Bool} (K:Tkf H l tp tc) (Wq:Fwf l ⟨q,op,x,true,dn⟩) (S:Sq H ⟨q,op,x,true,dn⟩ xo xv AR) (G:Gf H) (h0:q.er=0) (FE:Fex (⟨q,op,x,true,dn⟩:Ps)) (s:St H w0 (.box b [.slice tp l.length tc,iN q.i,ro,rv,.bool true,.bool dn,.bool x.2,iN q.off,iN q.er] 102::.row 97 11 (ro) (op.length) (xo)::.row 179 13 (rv) (x.1.length) (xv)::(AR++bs)) W) :
 Calls prg 55 #[.pointer (dI b)] W (Get w0 bs b l tp tc H (gB l ⟨q,op,x,true,dn⟩)):=by
 have hq:q.i<l.length:=Wq.i;have hcap:=K.rep.cap;refine iB func55 rfl ntmps55 rfl s ?_;refine .sm Z<|.xs (X:=Unit) Z (λW s=>zD K hq  (s.p3_3 [0,1,2] Z)) λ_ _=>.al yQ Z λb2=>.sW .head Z Z yT (by simp [cTk,Value.oneCell',bJ]) Z<|.nt<|.sq<|.cu (X:=Bool) [(0,_),(2,_)] ⟨Z,Z,Jt⟩ (λz=>[(14,.bool z)]) (λz=>H) (λz=>(.box b2 (cTk .u8 (tkf l q.i)) 108::.box b [.slice tp l.length tc,iN q.i,ro,rv,.bool true,.bool dn,.bool x.2,iN q.off,iN q.er] 102::.row 97 11 (ro) (op.length) (xo)::.row 179 13 (rv) (x.1.length) (xv)::(AR++bs))) (λz=>z=(decide ((tkf l q.i).k=2) || decide ((tkf l q.i).k=4))) ?_ λz hC=>?_
 ·
  refine .rg<|.fA Z jT<|.lD Z pP Hm Z<|.yw (.eql Z Z)<|.mv Z<|.b2 (λh10=>?_) (λh10=>?_)
  ·exact .g3<|.pT Z<|.nt<|.me _ ⟨Z,Jt⟩ ⟨Z,Z,Jt⟩ (λ_ s=>s) (by first | (rw [<-k82,<-k84,h11,Bool.true_or]) | (rw [<-k82,<-k84,h11,aT]) | (rw [<-k82,<-k84,h10,Bool.true_or]) | (rw [<-k82,<-k84,h10,aT]))
  exact .gy (.fieldAddr Z jT)<|.gy (.load Z pP Hm Z)<|.gy (.eql Z Z)<|.pF Z<|.nt<|.me _ ⟨Z,Jt⟩ ⟨Z,Z,Jt⟩ (λ_ s=>s) (by first | (rw [<-k82,<-k84,h11,Bool.true_or]) | (rw [<-k82,<-k84,h11,aT]) | (rw [<-k82,<-k84,h10,Bool.true_or]) | (rw [<-k82,<-k84,h10,aT]))
 have e14:=hC;refine .cd Z (λh14=>?_) (λh14=>?_)
 ·have hk24:(tkf l q.i).k=2\/(tkf l q.i).k=4:=by
   rw [h14] at e14;rcases aW _ _ |>.mp e14.symm with h | h
   ·exact .inl (aI h)
   ·exact .inr (aI h)
  refine .sr<|.yw (.loadMW Z aX3 G.syms Z)<|.mv Z<|.nt<|.bk<|.lp (X:=Nat) [(0,_),(2,_),(15,_)] ⟨Z,Z,Z,Jt⟩ ((AR++bs)) (λk=>[(16,iN k)]) (λk=>H) (λk=>[.box b2 (cTk .u8 (tkf l q.i)) 108,.box b [.slice tp l.length tc,iN q.i,ro,rv,.bool true,.bool dn,.bool x.2,iN q.off,iN q.er] 102,.row 97 11 (ro) (op.length) (xo),.row 179 13 (rv) (x.1.length) (xv)]) (λk=>k<=22/\∀ j,j<k->LM (tkf l q.i).t j=false) (λk=>22 - k) 0 (λ_ s=>s) ⟨Z,Jt⟩ ⟨aS,λj h=>by omega⟩ λk hC=>?_
  obtain ⟨hk0,hpk⟩:=hC;refine .sr<|.yw (.lss Z Z)<|.nt<|.sq<|.ce Z (λh17=>?_) (λh17=>?_)
  ·have hk:k<22:=aD
   refine .sk<|.tN<|.sq<|.bk<|.sm Z<|.yw (.idxA KL aX0 Z Z Z aD (tI (by show k<22;omega) []))<|.a Z Z<|.a Z Z<|.ns<|.mv Z<|.fA Z lM<|.lD Z bT Hm Z<|.yw (.eqS Z Z)<|.mv Z<|.b2 (λh24=>?_) (λh24=>?_)
   ·have q24:nE.getD k []=(tkf l q.i).t:=aI h24;refine .gy (.move Z)<|.gy (.neq Z Z)<|.pT Z<|.nt<|.cd Z (λh27=>?_) (λh27=>?_)
    ·have hyk:LM (tkf l q.i).t k=true:=by unfold LM;rw [aG q24,aG (show ¬ k=0 by have:=aI h27;omega)];rfl
     have hsy:q.sym l=some k:=by unfold Rq.sym;rw [aK hk24];exact aP0 hk hyk hpk
     have hac:=(aB4 K.gd.last h0 hsy).1;refine .sm Z<|.mv Z<|.yw (.conv Z kG kN (c:=(((UInt8.ofNat k).toNat:Nat):Int)) (cM6 aD))<|.xs (X:=Hp × Value × Value × List Value × List Value × List Res) Z (λW s=>aT5 K Wq S (UInt8.ofNat k) (dN K.gd.last hq hac) (St.mid (a:=[_,_,_]) (d:=[_]) (s.p4_4 [1,2,3,0] Z))) λz9 hz9=>?_
     obtain ⟨H1,ro,rv,xo,xv,AR⟩:=z9;obtain ⟨u1,S⟩:=hz9;dsimp only at u1 S|-;refine Sx.reSt (λW s=>St.mid (a:=[_,_,_]) (d:=AR) (c:=[_]) s) ?_;refine .zR<|.tR<|.bR<|.tR<|?_
     refine y7 Z .nil rfl λW s=>?_;have e0:gB l (⟨q,op,x,true,dn⟩:Ps)=sL l (UInt8.ofNat k) (⟨q,op,x,true,dn⟩:Ps):=by unfold gB;rw [hsy]
     rw [e0];exact ⟨(_,_,_,_,_,AR),⟨u1,⟨S.ops,S.vls⟩⟩,Z,s.p4_3 [0,1,2] rfl⟩
    have hnk:LM (tkf l q.i).t k=false:=by unfold LM;rw [aL (show ¬ ¬ k=0 by have:=aJ h27;omega),Bool.and_false]
    exact .sk<|.bN<|.tN<|.rg<|.yw (.add Z Z w7)<|.mv Z<|.nt<|.ag (k+1) ⟨Z,Jt⟩ ⟨Z,Z,Z,Jt⟩ (λ_ s=>s) ⟨aD,ZD hpk hnk⟩ aD
   have hnk:LM (tkf l q.i).t k=false:=by unfold LM;rw [aL (aJ h24)];rfl
   exact .g2<|.pF Z<|.nt<|.cF Z<|.sk<|.bN<|.tN<|.rg<|.yw (.add Z Z w7)<|.mv Z<|.nt<|.ag (k+1) ⟨Z,Jt⟩ ⟨Z,Z,Z,Jt⟩ (λ_ s=>s) ⟨aD,ZD hpk hnk⟩ aD
  obtain rfl:k=22:=aD
  have hsy:q.sym l=none:=by unfold Rq.sym;rw [aK hk24];exact aP1 hpk
  refine .ex<|.eb<|.bk<|.cu (X:=Bool) [(0,_),(2,_)] ⟨Z,Z,Jt⟩ (λz=>[(35,.bool z)]) (λz=>H) (λz=>(.box b2 (cTk .u8 (tkf l q.i)) 108::.box b [.slice tp l.length tc,iN q.i,ro,rv,.bool true,.bool dn,.bool x.2,iN q.off,iN q.er] 102::.row 97 11 (ro) (op.length) (xo)::.row 179 13 (rv) (x.1.length) (xv)::(AR++bs))) (λz=>z=q.wrd l) ?_ λz hC=>?_
  ·
   refine .sm Z<|.xs (X:=Unit) Z (λW s=>GP K hq [115,105,110,99,101] (s.p4_4 [1,0,2,3] Z)) λ_ _=>.aq Z<|.cd Z (λh35=>?_) (λh35=>?_)
   ·have i1:=h35;exact .sk<|.tN<|.me _ ⟨Z,Jt⟩ ⟨Z,Z,Jt⟩ (λ_ s=>(s.p4_4 [1,0,2,3] Z)) (by unfold Rq.wrd;first | simp only [i1,i2,i3,aT,Bool.true_or,Bool.or_true,Bool.or_false] | simp only [i1,i2,aT,Bool.true_or,Bool.or_true] | simp only [i1,aT,Bool.true_or,Bool.or_true])
   have i1:=h35;refine .sm Z<|.xs (X:=Unit) Z (λW s=>GP K hq [97,110,100] (s.p4_4 [0,1,2,3] Z)) λ_ _=>.aq Z<|.cd Z (λh35=>?_) (λh35=>?_)
   ·have i2:=h35;exact .sk<|.tN<|.me _ ⟨Z,Jt⟩ ⟨Z,Z,Jt⟩ (λ_ s=>(s.p4_4 [1,0,2,3] Z)) (by unfold Rq.wrd;first | simp only [i1,i2,i3,aT,Bool.true_or,Bool.or_true,Bool.or_false] | simp only [i1,i2,aT,Bool.true_or,Bool.or_true] | simp only [i1,aT,Bool.true_or,Bool.or_true])
   have i2:=h35;refine .sm Z<|.xs (X:=Unit) Z (λW s=>GP K hq [111,114] (s.p4_4 [0,1,2,3] Z)) λ_ _=>.aq Z<|.cd Z (λh35=>?_) (λh35=>?_)
   ·have i3:=h35;exact .sk<|.tN<|.me _ ⟨Z,Jt⟩ ⟨Z,Z,Jt⟩ (λ_ s=>(s.p4_4 [1,0,2,3] Z)) (by unfold Rq.wrd;first | simp only [i1,i2,i3,aT,Bool.true_or,Bool.or_true,Bool.or_false] | simp only [i1,i2,aT,Bool.true_or,Bool.or_true] | simp only [i1,aT,Bool.true_or,Bool.or_true])
   have i3:=h35;exact .rg<|.mv Z<|.xs (X:=Unit) Z (λW s=>GP K hq [105,109,112,108,105,101,115] (s.p4_4 [0,1,2,3] Z)) λ_ _=>.aq Z<|.me _ ⟨Z,Jt⟩ ⟨Z,Z,Jt⟩ (λ_ s=>(s.p4_4 [1,0,2,3] Z)) (by unfold Rq.wrd;first | simp only [i1,i2,i3,aT,Bool.true_or,Bool.or_true,Bool.or_false] | simp only [i1,i2,aT,Bool.true_or,Bool.or_true] | simp only [i1,aT,Bool.true_or,Bool.or_true])
  have ew:=hC;refine .cd Z (λh35=>?_) (λh35=>?_)
  ·have w35:=h35;refine .rg<|.mv Z<|.xs (X:=Hp × Value × Value × List Value × List Value × List Res) Z (λW s=>bH5 K Wq S G h0 (by rw [<-ew];exact w35) (St.mid (a:=[_,_,_]) (d:=[_]) (s.p4_4 [1,2,3,0] Z))) λz9 hz9=>?_
   obtain ⟨H1,ro,rv,xo,xv,AR⟩:=z9;obtain ⟨u1,S⟩:=hz9;dsimp only at u1 S|-;refine Sx.reSt (λW s=>St.mid (a:=[_,_,_]) (d:=AR) (c:=[_]) s) ?_;refine .nl<|.bN<|?_
   refine jM (.inr Z) rfl .nil rfl λW s=>?_;have e0:gB l (⟨q,op,x,true,dn⟩:Ps)=rS l (⟨q,op,x,true,dn⟩:Ps):=by unfold gB;rw [show q.sym l=none from hsy]
   rw [e0];have e1:rS l (⟨q,op,x,true,dn⟩:Ps)=yJ l (⟨q,op,x,true,dn⟩:Ps):=by unfold rS;exact aK (by rw [<-ew];exact w35)
   rw [e1];exact ⟨(_,_,_,_,_,AR),⟨u1,⟨S.ops,S.vls⟩⟩,Z,s.p4_3 [0,1,2] rfl⟩
  have w35:=h35;refine .cu (X:=Bool) [(0,_)] ⟨Z,Jt⟩ (λz=>[(46,.bool z)]) (λz=>H) (λz=>(.box b2 (cTk .u8 (tkf l q.i)) 108::.box b [.slice tp l.length tc,iN q.i,ro,rv,.bool true,.bool dn,.bool x.2,iN q.off,iN q.er] 102::.row 97 11 (ro) (op.length) (xo)::.row 179 13 (rv) (x.1.length) (xv)::(AR++bs))) (λz=>z=q.endB l) ?_ λz hC=>?_
  ·
   refine .sm Z<|.xs (X:=Unit) Z (λW s=>GP K hq [41] (s.p4_4 [1,0,2,3] Z)) λ_ _=>.aq Z<|.cd Z (λh46=>?_) (λh46=>?_)
   ·have j1:=h46;exact .sk<|.tN<|.me _ ⟨Z,Jt⟩ ⟨Z,Jt⟩ (λ_ s=>(s.p4_4 [1,0,2,3] Z)) (by unfold Rq.endB;rw [<-k80];first | simp only [j1,j2,j3,aT,Bool.true_or,Bool.or_true,Bool.or_false] | simp only [j1,j2,aT,Bool.true_or,Bool.or_true] | simp only [j1,aT,Bool.true_or,Bool.or_true])
   have j1:=h46;refine .sm Z<|.xs (X:=Unit) Z (λW s=>GP K hq [93] (s.p4_4 [0,1,2,3] Z)) λ_ _=>.aq Z<|.cd Z (λh46=>?_) (λh46=>?_)
   ·have j2:=h46;exact .sk<|.tN<|.me _ ⟨Z,Jt⟩ ⟨Z,Jt⟩ (λ_ s=>(s.p4_4 [1,0,2,3] Z)) (by unfold Rq.endB;rw [<-k80];first | simp only [j1,j2,j3,aT,Bool.true_or,Bool.or_true,Bool.or_false] | simp only [j1,j2,aT,Bool.true_or,Bool.or_true] | simp only [j1,aT,Bool.true_or,Bool.or_true])
   have j2:=h46;refine .sm Z<|.xs (X:=Unit) Z (λW s=>GP K hq [44] (s.p4_4 [0,1,2,3] Z)) λ_ _=>.aq Z<|.cd Z (λh46=>?_) (λh46=>?_)
   ·have j3:=h46;exact .sk<|.tN<|.me _ ⟨Z,Jt⟩ ⟨Z,Jt⟩ (λ_ s=>(s.p4_4 [1,0,2,3] Z)) (by unfold Rq.endB;rw [<-k80];first | simp only [j1,j2,j3,aT,Bool.true_or,Bool.or_true,Bool.or_false] | simp only [j1,j2,aT,Bool.true_or,Bool.or_true] | simp only [j1,aT,Bool.true_or,Bool.or_true])
   have j3:=h46;exact .rg<|.fA Z jT<|.lD Z pP cU Z<|.yw (.eql Z Z)<|.aq Z<|.me _ ⟨Z,Jt⟩ ⟨Z,Jt⟩ (λ_ s=>(s.p4_4 [1,0,2,3] Z)) (by unfold Rq.endB;rw [<-k80];first | simp only [j1,j2,j3,aT,Bool.true_or,Bool.or_true,Bool.or_false] | simp only [j1,j2,aT,Bool.true_or,Bool.or_true] | simp only [j1,aT,Bool.true_or,Bool.or_true])
  have ee:=hC;refine .cd Z (λh46=>?_) (λh46=>?_)
  ·have w46:=h46;refine .sm Z<|.xs (X:=Hp × Value × Value × List Value × List Value × List Res) Z (λW s=>uK K Wq S 1 aD (St.mid (a:=[_,_,_]) (d:=[_]) (s.p4_4 [1,2,3,0] Z))) λz9 hz9=>?_
   obtain ⟨H1,ro,rv,xo,xv,AR⟩:=z9;obtain ⟨u1,S⟩:=hz9;dsimp only at u1 S|-;refine Sx.reSt (λW s=>St.mid (a:=[_,_,_]) (d:=AR) (c:=[_]) s) ?_;obtain ⟨op7,x7,e7⟩:∃ op7 x7,kD 1 ((⟨q,op,x,true,dn⟩:Ps):Ps)=⟨q,op7,x7,true,dn⟩:=⟨_,_,Z⟩;rw [e7] at S|-;dsimp only at S|-;have W7:Fwf l ⟨q,op7,x7,true,dn⟩:=by rw [<-e7];exact vJ aD Wq rfl
   obtain ⟨hm1,hm2⟩:=pW W7 K.few;dsimp only at hm1 hm2;have hne7:op7≠[]:=W7.ne;have FE1:Fex (⟨q,op7,x7,true,dn⟩:Ps):=by rw [<-e7];exact BO FE
   refine .nt<|.rg<|.mv Z<|.xs (X:=Hp × Value × Value × List Value × List Value × List Res) Z (λW s=>SZ (K.up u1.up) W7 S (λz hz=>aZ (FE1 z hz) (aZ (tK hq) K.few)) (St.mid (a:=[_,_,_]) (d:=[_]) (s.p4_4 [0,1,2,3] Z))) λz9 hz9=>?_
   obtain ⟨H2,ro,rv,xo,xv,AR⟩:=z9;obtain ⟨u2,S⟩:=hz9;dsimp only at u2 S|-;refine Sx.reSt (λW s=>St.mid (a:=[_,_,_]) (d:=AR) (c:=[_]) s) ?_;refine .nl<|.bN<|?_
   refine jM (.inr Z) rfl .nil rfl λW s=>?_;have e0:gB l (⟨q,op,x,true,dn⟩:Ps)=rS l (⟨q,op,x,true,dn⟩:Ps):=by unfold gB;rw [show q.sym l=none from hsy]
   rw [e0];have e1:rS l (⟨q,op,x,true,dn⟩:Ps)=nG l (⟨q,op7,x7,true,dn⟩:Ps):=by unfold rS;rw [aA (show ¬ q.wrd l=true by rw [<-ew,w35];decide),aK (show q.endB l=true by rw [<-ee];exact w46),e7]
   rw [e1];exact ⟨(_,_,_,_,_,AR),⟨(u1.trans u2),⟨S.ops,S.vls⟩⟩,Z,s.p4_3 [0,1,2] rfl⟩
  have w46:=h46;refine .rg<|.mv Z<|.xs (X:=Unit) Z (λW s=>rU K hq 8 (s.p4_4 [1,0,2,3] Z)) λ_ _=>.nl<|.bN<|?_
  refine jM (.inr Z) rfl .nil rfl λW s=>?_;have e0:gB l (⟨q,op,x,true,dn⟩:Ps)=rS l (⟨q,op,x,true,dn⟩:Ps):=by unfold gB;rw [show q.sym l=none from hsy]
  rw [e0];have e1:rS l (⟨q,op,x,true,dn⟩:Ps)=(⟨q,op,x,true,dn⟩:Ps).at (q.fail l 8):=by unfold rS;rw [aA (show ¬ q.wrd l=true by rw [<-ew,w35];decide),aA (show ¬ q.endB l=true by rw [<-ee,w46];decide)]
  rw [e1];exact ⟨(_,_,_,_,_,AR),⟨.refl,⟨S.ops,S.vls⟩⟩,Z,s.p4_3 [0,2,3] rfl⟩
 have hk24:¬ ((tkf l q.i).k=2\/(tkf l q.i).k=4):=λh=>by
  rw [h14] at e14;rcases h with h | h <;> rw [h] at e14 <;> simp at e14
 have hsy:q.sym l=none:=by unfold Rq.sym;rw [aA hk24]
 refine .sk<|.tN<|.bk<|.cu (X:=Bool) [(0,_),(2,_)] ⟨Z,Z,Jt⟩ (λz=>[(35,.bool z)]) (λz=>H) (λz=>(.box b2 (cTk .u8 (tkf l q.i)) 108::.box b [.slice tp l.length tc,iN q.i,ro,rv,.bool true,.bool dn,.bool x.2,iN q.off,iN q.er] 102::.row 97 11 (ro) (op.length) (xo)::.row 179 13 (rv) (x.1.length) (xv)::(AR++bs))) (λz=>z=q.wrd l) ?_ λz hC=>?_
 ·
  refine .sm Z<|.xs (X:=Unit) Z (λW s=>GP K hq [115,105,110,99,101] (s.p4_4 [1,0,2,3] Z)) λ_ _=>.aq Z<|.cd Z (λh35=>?_) (λh35=>?_)
  ·have i1:=h35;exact .sk<|.tN<|.me _ ⟨Z,Jt⟩ ⟨Z,Z,Jt⟩ (λ_ s=>(s.p4_4 [1,0,2,3] Z)) (by unfold Rq.wrd;first | simp only [i1,i2,i3,aT,Bool.true_or,Bool.or_true,Bool.or_false] | simp only [i1,i2,aT,Bool.true_or,Bool.or_true] | simp only [i1,aT,Bool.true_or,Bool.or_true])
  have i1:=h35;refine .sm Z<|.xs (X:=Unit) Z (λW s=>GP K hq [97,110,100] (s.p4_4 [0,1,2,3] Z)) λ_ _=>.aq Z<|.cd Z (λh35=>?_) (λh35=>?_)
  ·have i2:=h35;exact .sk<|.tN<|.me _ ⟨Z,Jt⟩ ⟨Z,Z,Jt⟩ (λ_ s=>(s.p4_4 [1,0,2,3] Z)) (by unfold Rq.wrd;first | simp only [i1,i2,i3,aT,Bool.true_or,Bool.or_true,Bool.or_false] | simp only [i1,i2,aT,Bool.true_or,Bool.or_true] | simp only [i1,aT,Bool.true_or,Bool.or_true])
  have i2:=h35;refine .sm Z<|.xs (X:=Unit) Z (λW s=>GP K hq [111,114] (s.p4_4 [0,1,2,3] Z)) λ_ _=>.aq Z<|.cd Z (λh35=>?_) (λh35=>?_)
  ·have i3:=h35;exact .sk<|.tN<|.me _ ⟨Z,Jt⟩ ⟨Z,Z,Jt⟩ (λ_ s=>(s.p4_4 [1,0,2,3] Z)) (by unfold Rq.wrd;first | simp only [i1,i2,i3,aT,Bool.true_or,Bool.or_true,Bool.or_false] | simp only [i1,i2,aT,Bool.true_or,Bool.or_true] | simp only [i1,aT,Bool.true_or,Bool.or_true])
  have i3:=h35;exact .rg<|.mv Z<|.xs (X:=Unit) Z (λW s=>GP K hq [105,109,112,108,105,101,115] (s.p4_4 [0,1,2,3] Z)) λ_ _=>.aq Z<|.me _ ⟨Z,Jt⟩ ⟨Z,Z,Jt⟩ (λ_ s=>(s.p4_4 [1,0,2,3] Z)) (by unfold Rq.wrd;first | simp only [i1,i2,i3,aT,Bool.true_or,Bool.or_true,Bool.or_false] | simp only [i1,i2,aT,Bool.true_or,Bool.or_true] | simp only [i1,aT,Bool.true_or,Bool.or_true])
 have ew:=hC;refine .cd Z (λh35=>?_) (λh35=>?_)
 ·have w35:=h35;refine .rg<|.mv Z<|.xs (X:=Hp × Value × Value × List Value × List Value × List Res) Z (λW s=>bH5 K Wq S G h0 (by rw [<-ew];exact w35) (St.mid (a:=[_,_,_]) (d:=[_]) (s.p4_4 [1,2,3,0] Z))) λz9 hz9=>?_
  obtain ⟨H1,ro,rv,xo,xv,AR⟩:=z9;obtain ⟨u1,S⟩:=hz9;dsimp only at u1 S|-;refine Sx.reSt (λW s=>St.mid (a:=[_,_,_]) (d:=AR) (c:=[_]) s) ?_;refine .nl<|.bN<|?_
  refine jM (.inr Z) rfl .nil rfl λW s=>?_;have e0:gB l (⟨q,op,x,true,dn⟩:Ps)=rS l (⟨q,op,x,true,dn⟩:Ps):=by unfold gB;rw [show q.sym l=none from hsy]
  rw [e0];have e1:rS l (⟨q,op,x,true,dn⟩:Ps)=yJ l (⟨q,op,x,true,dn⟩:Ps):=by unfold rS;exact aK (by rw [<-ew];exact w35)
  rw [e1];exact ⟨(_,_,_,_,_,AR),⟨u1,⟨S.ops,S.vls⟩⟩,Z,s.p4_3 [0,1,2] rfl⟩
 have w35:=h35;refine .cu (X:=Bool) [(0,_)] ⟨Z,Jt⟩ (λz=>[(46,.bool z)]) (λz=>H) (λz=>(.box b2 (cTk .u8 (tkf l q.i)) 108::.box b [.slice tp l.length tc,iN q.i,ro,rv,.bool true,.bool dn,.bool x.2,iN q.off,iN q.er] 102::.row 97 11 (ro) (op.length) (xo)::.row 179 13 (rv) (x.1.length) (xv)::(AR++bs))) (λz=>z=q.endB l) ?_ λz hC=>?_
 ·
  refine .sm Z<|.xs (X:=Unit) Z (λW s=>GP K hq [41] (s.p4_4 [1,0,2,3] Z)) λ_ _=>.aq Z<|.cd Z (λh46=>?_) (λh46=>?_)
  ·have j1:=h46;exact .sk<|.tN<|.me _ ⟨Z,Jt⟩ ⟨Z,Jt⟩ (λ_ s=>(s.p4_4 [1,0,2,3] Z)) (by unfold Rq.endB;rw [<-k80];first | simp only [j1,j2,j3,aT,Bool.true_or,Bool.or_true,Bool.or_false] | simp only [j1,j2,aT,Bool.true_or,Bool.or_true] | simp only [j1,aT,Bool.true_or,Bool.or_true])
  have j1:=h46;refine .sm Z<|.xs (X:=Unit) Z (λW s=>GP K hq [93] (s.p4_4 [0,1,2,3] Z)) λ_ _=>.aq Z<|.cd Z (λh46=>?_) (λh46=>?_)
  ·have j2:=h46;exact .sk<|.tN<|.me _ ⟨Z,Jt⟩ ⟨Z,Jt⟩ (λ_ s=>(s.p4_4 [1,0,2,3] Z)) (by unfold Rq.endB;rw [<-k80];first | simp only [j1,j2,j3,aT,Bool.true_or,Bool.or_true,Bool.or_false] | simp only [j1,j2,aT,Bool.true_or,Bool.or_true] | simp only [j1,aT,Bool.true_or,Bool.or_true])
  have j2:=h46;refine .sm Z<|.xs (X:=Unit) Z (λW s=>GP K hq [44] (s.p4_4 [0,1,2,3] Z)) λ_ _=>.aq Z<|.cd Z (λh46=>?_) (λh46=>?_)
  ·have j3:=h46;exact .sk<|.tN<|.me _ ⟨Z,Jt⟩ ⟨Z,Jt⟩ (λ_ s=>(s.p4_4 [1,0,2,3] Z)) (by unfold Rq.endB;rw [<-k80];first | simp only [j1,j2,j3,aT,Bool.true_or,Bool.or_true,Bool.or_false] | simp only [j1,j2,aT,Bool.true_or,Bool.or_true] | simp only [j1,aT,Bool.true_or,Bool.or_true])
  have j3:=h46;exact .rg<|.fA Z jT<|.lD Z pP cU Z<|.yw (.eql Z Z)<|.aq Z<|.me _ ⟨Z,Jt⟩ ⟨Z,Jt⟩ (λ_ s=>(s.p4_4 [1,0,2,3] Z)) (by unfold Rq.endB;rw [<-k80];first | simp only [j1,j2,j3,aT,Bool.true_or,Bool.or_true,Bool.or_false] | simp only [j1,j2,aT,Bool.true_or,Bool.or_true] | simp only [j1,aT,Bool.true_or,Bool.or_true])
 have ee:=hC;refine .cd Z (λh46=>?_) (λh46=>?_)
 ·have w46:=h46;refine .sm Z<|.xs (X:=Hp × Value × Value × List Value × List Value × List Res) Z (λW s=>uK K Wq S 1 aD (St.mid (a:=[_,_,_]) (d:=[_]) (s.p4_4 [1,2,3,0] Z))) λz9 hz9=>?_
  obtain ⟨H1,ro,rv,xo,xv,AR⟩:=z9;obtain ⟨u1,S⟩:=hz9;dsimp only at u1 S|-;refine Sx.reSt (λW s=>St.mid (a:=[_,_,_]) (d:=AR) (c:=[_]) s) ?_;obtain ⟨op7,x7,e7⟩:∃ op7 x7,kD 1 ((⟨q,op,x,true,dn⟩:Ps):Ps)=⟨q,op7,x7,true,dn⟩:=⟨_,_,Z⟩;rw [e7] at S|-;dsimp only at S|-;have W7:Fwf l ⟨q,op7,x7,true,dn⟩:=by rw [<-e7];exact vJ aD Wq rfl
  obtain ⟨hm1,hm2⟩:=pW W7 K.few;dsimp only at hm1 hm2;have hne7:op7≠[]:=W7.ne;have FE1:Fex (⟨q,op7,x7,true,dn⟩:Ps):=by rw [<-e7];exact BO FE
  refine .nt<|.rg<|.mv Z<|.xs (X:=Hp × Value × Value × List Value × List Value × List Res) Z (λW s=>SZ (K.up u1.up) W7 S (λz hz=>aZ (FE1 z hz) (aZ (tK hq) K.few)) (St.mid (a:=[_,_,_]) (d:=[_]) (s.p4_4 [0,1,2,3] Z))) λz9 hz9=>?_
  obtain ⟨H2,ro,rv,xo,xv,AR⟩:=z9;obtain ⟨u2,S⟩:=hz9;dsimp only at u2 S|-;refine Sx.reSt (λW s=>St.mid (a:=[_,_,_]) (d:=AR) (c:=[_]) s) ?_;refine .nl<|.bN<|?_
  refine jM (.inr Z) rfl .nil rfl λW s=>?_;have e0:gB l (⟨q,op,x,true,dn⟩:Ps)=rS l (⟨q,op,x,true,dn⟩:Ps):=by unfold gB;rw [show q.sym l=none from hsy]
  rw [e0];have e1:rS l (⟨q,op,x,true,dn⟩:Ps)=nG l (⟨q,op7,x7,true,dn⟩:Ps):=by unfold rS;rw [aA (show ¬ q.wrd l=true by rw [<-ew,w35];decide),aK (show q.endB l=true by rw [<-ee];exact w46),e7]
  rw [e1];exact ⟨(_,_,_,_,_,AR),⟨(u1.trans u2),⟨S.ops,S.vls⟩⟩,Z,s.p4_3 [0,1,2] rfl⟩
 have w46:=h46;refine .rg<|.mv Z<|.xs (X:=Unit) Z (λW s=>rU K hq 8 (s.p4_4 [1,0,2,3] Z)) λ_ _=>.nl<|.bN<|?_
 refine jM (.inr Z) rfl .nil rfl λW s=>?_;have e0:gB l (⟨q,op,x,true,dn⟩:Ps)=rS l (⟨q,op,x,true,dn⟩:Ps):=by unfold gB;rw [show q.sym l=none from hsy]
 rw [e0];have e1:rS l (⟨q,op,x,true,dn⟩:Ps)=(⟨q,op,x,true,dn⟩:Ps).at (q.fail l 8):=by unfold rS;rw [aA (show ¬ q.wrd l=true by rw [<-ew,w35];decide),aA (show ¬ q.endB l=true by rw [<-ee,w46];decide)]
 rw [e1];exact ⟨(_,_,_,_,_,AR),⟨.refl,⟨S.ops,S.vls⟩⟩,Z,s.p4_3 [0,2,3] rfl⟩
variable {l:List Value}
theorem aZ0 {x:TkS} (h:dT H 3 [dTk .u8 x.1] l):dT H' 3 (List.map (dTk .u8) (List.map (·.1) [x])) l:=by
 unfold dT at h;obtain ⟨a,y,rfl,_,h1,h2⟩:=h;unfold dT at h2;subst h2;rw [eL];obtain ⟨rfl,_⟩:=MA h1;exact .single (LZ x.2) Z
theorem JA (H:Hp):Rep H (dFm .u8 zF) [.int .u8 0,dV,dV,.int .i64 0,.int .i64 0,cL,cL]:=xI (op:=0) (nm:=[]) (fd:=[]) (a:=0) (b:=0) (ex:=[]) (args:=[]) aS aS Rep.nil4 Rep.nil4
def muF (l:Tks) (q:Ps):Nat:=if q.fin then 0 else l.length - q.c.i
theorem aK4 {l:Tks} {q q':Ps} (h:¬ q.fin) (g:q'.fin\/q.c.i<q'.c.i) (hi:q.c.i<l.length):muF l q'<muF l q:=by
 unfold muF;rw [aA h]
 split
 ·omega
 ·rename_i h2;rcases g with g | g
  ·exact absurd g h2
  ·omega
section
variable {c:Rq} {op:List Ov} {v:Vl} {V:List Vl} {bd rd dn:Bool} {x:Vb}
theorem bK7 (h:¬ c.er=0):JY ⟨c,op,x,rd,dn⟩=(zF,c.off,c.er):=by unfold JY;exact aK h
theorem aM1 (h:c.er=0) (hb:(bd || v.noF)=true):JY ⟨c,op,(v::V,bd),rd,dn⟩=(zF,0,6):=by
 unfold JY;rw [aA (show ¬ ¬ c.er=0 by rw [h];decide),aK (show (fS (v::V,bd)).2=true from hb)]
theorem aM0 (h:c.er=0) (hb:(bd || v.noF)=false) (hc:¬ gT v.fm=0):JY ⟨c,op,(v::V,bd),rd,dn⟩=(zF,0,gT v.fm):=by
 unfold JY;rw [aA (show ¬ ¬ c.er=0 by rw [h];decide),aA (show ¬ (fS (v::V,bd)).2=true by rw [show (fS (v::V,bd)).2=false from hb];decide)];exact aK hc
theorem bK5 (h:c.er=0) (hb:(bd || v.noF)=false) (hc:gT v.fm=0):JY ⟨c,op,(v::V,bd),rd,dn⟩=(v.fm,0,0):=by
 unfold JY;rw [aA (show ¬ ¬ c.er=0 by rw [h];decide),aA (show ¬ (fS (v::V,bd)).2=true by rw [show (fS (v::V,bd)).2=false from hb];decide)];exact aA (show ¬ ¬ gT v.fm=0 by rw [hc];decide)
end
set_option maxHeartbeats 4000000 in
theorem aE0 (H:Hp) (G:Gl H) (Gt:Gf H) (t:Str) (hl:t.length<=400000) (w:World) (hA:Agr H w) :
 Calls prg 26 #[bJ t] w λe W'=>∃ (cs:List Value) (H':Hp),Rep H' (dFm .u8 (EY (pX t)).1) cs/\e=.returned (.tuple #[.agg cs.toArray,iN ((EY (pX t)).2.1),iN ((EY (pX t)).2.2)])/\wV H w H' W':=by
 refine Sx.enterM (H:=H) func26 rfl ntmps26 rfl hA ?_;refine .sr<|.al fB Z λb2=>.a Z Z<|.a Z Z<|.ns<|.yw (.build Z (HC _))<|.blR (z:=11) Z (HA _ _ _ _ _ _ _ _ _ _ _) Z Z (by simp [maxLen]) λb10=>.yw (.build Z (ZY _ _ _))<|.bx Z Z Z λb12=>.al aU2 Z λb5=>.st .head Z Z aU4 Z (nb Z) Z<|.nt<|.sq<|.sm Z<|.xt (X:=Nat) Z (λW s=>bW1 H t W s.agr) λb1 H1 m1 u1=>.nt<|.bk<|?_
 refine Sx.row0 108 3 ?_;refine At.pm [0,2,1,3,4] [_,_,_,_,_] rfl rfl ?_
 refine At.rfB (α:=TkS) (Z:=Value × Nat × List Value) (N:=t.length+1) (e:=108) (T:=102) (TX:=108) (size:=3) (p:=b12) (fx:=[.box b5 [.pointer (dI b12)] 94,.row 97 11 (.slice (dI b10) 1 1) 1 [.int .u8 1,.int .i64 0,.bool false,.int .u8 0,.int .u8 0,dV,dV,.int .i64 0,.int .i64 0,cL,cL],.box b2 [.int .u8 0,dV,dV,.int .i64 0,.int .i64 0,cL,cL] 35]) (enc:=λx:TkS=>.agg (cTk .u8 x.1).toArray) (S:=λxs=>xs.map (·.1)=pL t)
  (λpre z=>z.2.1=pre.length/\dT H1 3 ((pre.map (·.1)).map (dTk .u8)) z.2.2) (λz=>z.1) (λz=>z.2.1) (λz=>z.2.2) (λ_=>[.int .i64 0,.slice (dI b10) 1 1,cL,.bool false,.bool false,.bool false,.int .i64 0,.int .i64 0]) (cL,0,[])
  (λ_ b=>[(0,bJ t),(5,.pointer (dI b5)),(6,.pointer (dI b))]) (λx=>cTk .u8 x.1) rfl (λ_ _=>BH aV4) rfl (λw hA=>bW0 H1 (G.up u1.up) t aD (λx hx=>aZ (LC t x hx) aD) b1 m1 w hA) ⟨rfl,dT.nil⟩ rfl rfl ?_ ?_ ?_
 ·intro l x bs' K h;exact .rgI<|.alI yQ Z λb=>.sWI .head Z Z yT (by simp [cTk,Value.oneCell',bJ]) Z<|.nlI<|.tN<|λa W f s=>h b a W (f.sub ⟨rfl,rfl,rfl,trivial⟩) s
 ·intro l' pre x z tl b H2 hC hlen u2 m2;obtain ⟨v,k,xs⟩:=z;obtain ⟨hk,hz⟩:=hC;dsimp only at hk hz|-;change At [] _ _ H2 w (.row 108 3 v k xs::.box b12 (v::[.int .i64 0,.slice (dI b10) 1 1,cL,.bool false,.bool false,.bool false,.int .i64 0,.int .i64 0]) 102::.box b5 [.pointer (dI b12)] 94::.row 97 11 (.slice (dI b10) 1 1) 1 [.int .u8 1,.int .i64 0,.bool false,.int .u8 0,.int .u8 0,dV,dV,.int .i64 0,.int .i64 0,cL,cL]::.box b2 [.int .u8 0,dV,dV,.int .i64 0,.int .i64 0,cL,cL] 35::tl) _;refine At.ra Hm λpv cv ev=>?_;subst ev;refine .bkI<|.flI (trip:=[(_,_,_),(_,_,_),(_,_,_),(_,_,_),(_,_,_),(_,_,_),(_,_,_),(_,_,_)]) 8 [(0,0),(1,0),(2,0),(3,0),(4,0),(5,0),(6,1),(7,3)] fT fT fT Z<|.lD Z iO iG Z<|.lD Z iO iG Z<|.nC Z<|.fA Z qX<|.lD Z IV cU Z<|.yw (.loadMW Z KO m2 Z)<|.blF Z (PT _ _ _) Z λb22 H3 u3 m3=>.apD ZG Z (λ_ _=>.head) Z (Rep.mk (n:=1) (c:=1) (ds:=[dTk .u8 x.1]) m3 (.single (LZ x.2) Z) Z (aY _) aS) (by simp [maxLen];omega) aD Z (λ_ _=>(.d3<|.d2<|.yv (.load Z iO iG Z)<|.nl)) λxs26 p26 c26 hz26=>.fn (tl:=[_,_,_]) Z<|.nC Z<|.fA Z qX<|.st iJ Z Z TL Z (nb Z) Z<|.nlQ<|.bN<|?_
  refine At.rE ((.slice p26 (k+1) c26,k+1,xs++xs26):Value × Nat × List Value) (u2.trans u3.up) ?_ rfl;exact ⟨by simp [hk],by rw [bI,bI];exact hz.app (aZ0 hz26)⟩
 intro D ys z hS hC;obtain ⟨v,k,xs⟩:=z;obtain ⟨hk,hz⟩:=hC;dsimp only at hk hz|-;change At _ _ _ H1 w (.obj D (.deferred (some []))::.row 108 3 v k xs::.box b12 (v::[.int .i64 0,.slice (dI b10) 1 1,cL,.bool false,.bool false,.bool false,.int .i64 0,.int .i64 0]) 102::.box b5 [.pointer (dI b12)] 94::.row 97 11 (.slice (dI b10) 1 1) 1 [.int .u8 1,.int .i64 0,.bool false,.int .u8 0,.int .u8 0,dV,dV,.int .i64 0,.int .i64 0,cL,cL]::.box b2 [.int .u8 0,dV,dV,.int .i64 0,.int .i64 0,cL,cL] 35::[]) _;refine At.ra cU λpv cv ev=>?_;subst ev;have hkl:k<=t.length:=by have:=XU t;rw [<-hS,aP] at this;omega
 refine .bN<|.tN<|.sq<|.fL 10 [(0,0),(1,0),(2,0),(3,0),(4,0),(5,0),(6,0),(7,0),(8,1),(9,3)]<|.lD Z iO qL Z<|.lD Z iO qL Z<|.nC Z<|.fA Z qX<|.lD Z IV iG Z<|.mv Z<|.yw (.lenS dX Z)<|.yw (.build Z (ZX _))<|.blF Z (PT _ _ _) Z λb34 H3 u3 m3=>.apD ZG Z (λ_ _=>iJ) Z (Rep.mk (n:=1) (c:=1) (ds:=[dTk .u8 (cK7 t)]) m3 (.single (LZ (x:=cK7 t) (aN _)) Z) Z (aY _) aS) (by simp [maxLen];omega) aD Z (λ_ _=>(.d4<|.d3<|.yv (.load Z iO qL Z)<|.nl)) λxs35 p35 c35 hz35=>.fn (tl:=[_,_,_]) Z<|.nC Z<|.fA Z qX<|.st iE Z Z TL Z (nb Z) Z<|?_
 refine At.pm [1,0,2,3,4,5] [_,_,_,_,_,_] rfl rfl ?_
 have hz2:dT H3 3 ((pX t).map (dTk .u8)) (xs++xs35):=by
  unfold pX;rw [bI,<-hS];exact (hz.up u3.up).app hz35
 have hlen:((pX t).map (dTk .u8)).length=k+1:=by rw [aP,xW,<-hS,aP,hk]
 refine iI hlen hz2 λH4 p4 c4 u4 e4 h4=>?_;injection e4 with e5 _ e6
 subst e5 e6;rw [aP] at hlen;rw [<-hlen]
 have K:Tkf H4 (pX t) p35 c35:=⟨by rw [hlen];exact h4,aZ7 t,λx hx=>by
  rcases cJ.1 hx with hx | hx
  ·exact aZ (LC t x hx) hl
  ·rw [bS.1 hx];exact aN _,by rw [xW];have:=XU t;omega,λx hx hk=>by
  rcases cJ.1 hx with hx | hx
  ·exact ⟨aR5 t x hx hk,(SF t x hx).2.2⟩
  ·rw [bS.1 hx] at hk;exact (by cases hk)⟩
 obtain ⟨p4,hp4⟩:∃ p,p=p35:=⟨_,rfl⟩;obtain ⟨c4,hc4⟩:∃ c,c=c35:=⟨_,rfl⟩;subst hp4 hc4;have G4:=((G.up u1.up).up u3.up).up u4.up;have GT4:=((Gt.up u1.up).up u3.up).up u4.up;refine Sx.row0 179 13 ?_;refine .nt<|.sq<|.bk<|.pm [2,4,0,1,3,5] [_,_,_,_,_,_] Z Z<|.lp (X:=Hp × Value × Value × List Value × List Value × List Res × Ps) [(2,_),(5,_)] ⟨rfl,rfl,trivial⟩ [_,_,_] (λz=>[]) (λz=>z.1) (λz=>[.box b12 [.slice p4 (pX t).length c4,iN z.2.2.2.2.2.2.c.i,z.2.1,z.2.2.1,.bool z.2.2.2.2.2.2.rd,.bool z.2.2.2.2.2.2.dn,.bool z.2.2.2.2.2.2.x.2,iN z.2.2.2.2.2.2.c.off,iN z.2.2.2.2.2.2.c.er] 102,.row 97 11 (z.2.1) (z.2.2.2.2.2.2.op.length) (z.2.2.2.1),.row 179 13 (z.2.2.1) (z.2.2.2.2.2.2.x.1.length) (z.2.2.2.2.1)]++z.2.2.2.2.2.1) (λz=>HUp w H4 z.1/\Sq z.1 z.2.2.2.2.2.2 z.2.2.2.1 z.2.2.2.2.1 z.2.2.2.2.2.1/\Fwf (pX t) z.2.2.2.2.2.2/\Fex z.2.2.2.2.2.2/\Fbd 600000 z.2.2.2.2.2.2/\Rch (pX t) ON z.2.2.2.2.2.2/\Dnr z.2.2.2.2.2.2) (λz=>muF (pX t) z.2.2.2.2.2.2) (H4,.slice (dI b10) 1 1,cL,[.int .u8 1,.int .i64 0,.bool false,.int .u8 0,.int .u8 0,dV,dV,.int .i64 0,.int .i64 0,cL,cL],[],[],ON) (λ_ s=>s) trivial ⟨.refl,⟨Ops.cons (xo:=[]) (AR:=[]) .nil aS (FmR.zero Z Z (aN _) (aN _)),.nil⟩,TT (by rw [xW];exact Nat.succ_pos _),(λo ho=>by rw [bS.1 ho];exact aN _),bY8,.refl,.inl Z⟩ λz hC=>?_
 obtain ⟨H5,ro,rv,xo,xv,AR,q1⟩:=z;obtain ⟨u5,S,Wq,FE,FB,RC,DR⟩:=hC;dsimp only at u5 S Wq FE FB RC DR|-;have K5:=K.up u5.up;refine Sx.reSt (λW s=>St.mid (a:=[_,_,_]) (d:=AR) (c:=[_,_,_]) (e:=[]) s) ?_;obtain ⟨q,op,x,rd,dn⟩:=q1;dsimp only;refine .sq<|.sr<|.lD Z iO wI Z<|.nC Z<|.fA Z GA<|.lD Z kW Hm Z<|.yw (.not Z)<|.mv Z<|.b2 (λh43=>?_) (λh43=>?_)
 ·have hd:dn=false:=by simpa using h43
  refine .gy (.load Z iO wI Z)<|.gy (.nilCheck Z)<|.gy (.fieldAddr Z jD)<|.gy (.load Z rW Hm Z)<|.gy (.eql Z Z)<|.pT Z<|.nt<|.cd Z (λh49=>?_) (λh49=>?_)
  ·have h0:q.er=0:=by have:=aI h49;omega
   have hnf:¬ (Ps.fin ⟨q,op,x,rd,dn⟩):=λe=>by
    rcases e with e | e
    ·rw [show dn=true from e] at hd;cases hd
    ·exact e h0
   have ST:=XA K.gd.last Wq hnf;have RS:=RC.trans (.one h0 hd rfl);have DS:=bK9 (l:=pX t) (q:=⟨q,op,x,rd,dn⟩) hd;have FS:=bK0 (l:=pX t) aS FB FE (eK Wq.i K.few);have FT:=bJ2 (l:=pX t) FE;refine .sk<|.tN<|.bk<|.sr<|.lD Z iO wI Z<|.nC Z<|.fA Z mY<|.lD Z kW Hm Z<|.nt<|.cd Z (λh53=>?_) (λh53=>?_)
   ·have hr:rd=true:=h53;subst hr;refine .rg<|.lD Z iO wI Z<|.xs (X:=Hp × Value × Value × List Value × List Value × List Res) Z (λW s=>aC6 K5 Wq S (GT4.up u5.up) h0 FE (St.mid (a:=[_,_,_]) (d:=[_,_,_]) (s.p6_6 [0,1,2,3,4,5] Z))) λz9 hz9=>?_
    obtain ⟨H6,ro6,rv6,xo6,xv6,AR6⟩:=z9;obtain ⟨u6,S⟩:=hz9;dsimp only at u6 S|-;refine Sx.reSt (λW s=>St.mid (a:=[_,_,_]) (d:=AR6) (c:=[_,_,_]) s) ?_;exact .nl<|.bN<|.tN<|.ag (x:=((H5,ro,rv,xo,xv,AR,(⟨q,op,x,true,dn⟩:Ps)):Hp × Value × Value × List Value × List Value × List Res × Ps)) (H6,ro6,rv6,xo6,xv6,AR6,lS (pX t) ⟨q,op,x,true,dn⟩) trivial ⟨rfl,rfl,trivial⟩ (λ_ s=>St.mid (a:=[_,_,_]) (d:=[_,_,_]) (c:=AR6) (e:=[]) s) ⟨u5.trans u6,S,ST.wf,FT,FS,RS,DS⟩ (aK4 hnf ST.go Wq.i)
   have hr:rd=false:=h53;subst hr;refine .rg<|.lD Z iO wI Z<|.xs (X:=Hp × Value × Value × List Value × List Value × List Res) Z (λW s=>aQ4 K5 Wq S (St.mid (a:=[_,_,_]) (d:=[_,_,_]) (s.p6_6 [0,1,2,3,4,5] Z))) λz9 hz9=>?_
   obtain ⟨H6,ro6,rv6,xo6,xv6,AR6⟩:=z9;obtain ⟨u6,S⟩:=hz9;dsimp only at u6 S|-;refine Sx.reSt (λW s=>St.mid (a:=[_,_,_]) (d:=AR6) (c:=[_,_,_]) s) ?_;exact .nl<|.bN<|.tN<|.ag (x:=((H5,ro,rv,xo,xv,AR,(⟨q,op,x,false,dn⟩:Ps)):Hp × Value × Value × List Value × List Value × List Res × Ps)) (H6,ro6,rv6,xo6,xv6,AR6,lS (pX t) ⟨q,op,x,false,dn⟩) trivial ⟨rfl,rfl,trivial⟩ (λ_ s=>St.mid (a:=[_,_,_]) (d:=[_,_,_]) (c:=AR6) (e:=[]) s) ⟨u5.trans u6,S,ST.wf,FT,FS,RS,DS⟩ (aK4 hnf ST.go Wq.i)
  have hfin:(Ps.fin ⟨q,op,x,rd,dn⟩):=.inr (λe=>aJ h49 (by rw [show q.er=0 from e];rfl));refine .ex<|.eb<|.sq<|.sq<|?_
  have EP:EY (pX t)=JY ⟨q,op,x,rd,dn⟩:=by unfold EY;rw [BG RC hfin (ME K.gd.last (pX t).length ON (TT (by rw [xW];exact Nat.succ_pos _)) (by show _<=0+_;omega)).1]
  refine .rg<|.lD Z iO wI Z<|.nC Z<|.fA Z jD<|.lD Z rW Hm Z<|.yw (.neq Z Z)<|.nt<|.cd Z (λh62=>?_) (λh62=>?_)
  ·have hne:¬ q.er=0:=λe=>aI h62 (by rw [e];rfl);refine .sq<|.fL 11 [(0,0),(1,0),(2,0),(3,0),(4,0),(5,0),(6,0),(7,0),(8,0),(9,3),(10,0)]<|.yw (.build Z AW)<|.lD Z iO wI Z<|.nC Z<|.fA Z tD<|.lD Z bQ Hm Z<|.lD Z iO wI Z<|.nC Z<|.fA Z jD<|.lD Z rW Hm Z<|.sW cD6 Z Z dK (by simp [Value.oneCell',bJ]) Z ((.yv (.load Z rW Hm Z)<|.yv (.fieldAddr Z jD)<|.yv (.nilCheck Z)<|.yv (.load Z iO wI Z)<|.yv (.load Z bQ Hm Z)<|.yv (.fieldAddr Z tD)<|.yv (.nilCheck Z)<|.yv (.load Z iO wI Z)<|.dn<|.nl))<|.a Z Z<|.fn (tl:=[_]) Z<|.az Z<|.tR<|?_
   refine Sx.retM (.inl rfl) lJ ?_;refine y7 Z (.cons (.cell rfl cQ aR3 rfl) (.cons (.tmp rfl) (.cons (.tmp rfl) .nil))) rfl λW s=>?_;rw [EP,bK7 hne];exact ⟨[.int .u8 0,dV,dV,.int .i64 0,.int .i64 0,cL,cL],H5,JA _,rfl,(((u1.trans u3).trans u4).trans u5).grow s⟩
  have he0:q.er=0:=by have:=aJ h62;omega
  have hd:dn=true:=by
   rcases hfin with e | e
   ·exact e
   ·exact (e he0).elim
  have hr:rd=true:=by
   rcases DR with e | e
   ·rw [show dn=false from e] at hd;cases hd
   ·exact e
  subst hr;have hv1:1<=x.1.length:=by have:=Wq.vs;dsimp only at this;rw [this];exact Nat.le_add_left _ _
  obtain ⟨hn1,hn2⟩:=pW Wq K.few;dsimp only at hn1 hn2;obtain ⟨vs,bd⟩:=x;dsimp only at hv1 hn2;obtain ⟨v,V,rfl⟩:=CZ hv1;dsimp only [List.length_cons] at hn2;obtain ⟨yr,t0,t1,t2,e8,VS1,V1⟩:=VR.inv S.vls;try dsimp only at e8
  subst e8;have l1:=VS1.len;obtain ⟨q1,q2,ef,FR⟩:=JS V1;have FBv:=JC FB.x;dsimp only;refine .sk<|.tN<|.sr<|.lD Z iO wI Z<|.xs (X:=Nat × Nat) Z (λW s=>xQ K5 Wq.i V1.one V1.e.nm aD l1 (s.p6_6 [0,2,1,3,4,5] Z)) λp1 _=>?_
  rw [ef];refine .al fB Z λb7=>.sW .head Z Z dK (by intro a ha;exact Rep.one FR.rep a ha) Z<|.nt<|.sq<|.sr<|.lD Z iO aR3 Z<|.nC Z<|.fA Z oY<|.lD Z kW cU Z<|.nt<|.cd Z (λh77=>?_) (λh77=>?_)
  ·have hbd:(bd || v.noF)=true:=h77;refine .sr<|.yw (.build Z AW)<|.sX aO8 Z Z dK Z<|.a Z Z<|.az Z<|.tR<|?_
   refine Sx.retM (.inl rfl) QD ?_;refine y7 Z (.cons (.cell rfl cQ aR2 rfl) (.cons (.tmp rfl) (.cons (.tmp rfl) .nil))) rfl λW s=>?_;rw [EP,aM1 he0 hbd];exact ⟨[.int .u8 0,dV,dV,.int .i64 0,.int .i64 0,cL,cL],H5,JA _,rfl,(((u1.trans u3).trans u4).trans u5).grow s⟩
  have hbd:(bd || v.noF)=false:=h77;refine .sk<|.tN<|.sq<|.sr<|.yw (.loadW Z cQ Hm Z)<|.yw (.xl Z (λW s=>yM H5 (G4.up u5.up) (GT4.up u5.up) v.fm FBv _ W FR.rep s.agr))<|.a Z Z<|.ns<|.mv Z<|.yw (.neq Z Z)<|.nt<|.cd Z (λh82=>?_) (λh82=>?_)
  ·have hck:¬ gT v.fm=0:=λe=>aI h82 (by rw [e];rfl);refine .sr<|.yw (.build Z AW)<|.mv Z<|.sX aO8 Z Z dK Z<|.a Z Z<|.az Z<|.tR<|?_
   refine Sx.retM (.inl rfl) QD ?_;refine y7 Z (.cons (.cell rfl cQ aR2 rfl) (.cons (.tmp rfl) (.cons (.tmp rfl) .nil))) rfl λW s=>?_;rw [EP,aM0 he0 hbd hck];exact ⟨[.int .u8 0,dV,dV,.int .i64 0,.int .i64 0,cL,cL],H5,JA _,rfl,(((u1.trans u3).trans u4).trans u5).grow s⟩
  have hck:gT v.fm=0:=by have:=aJ h82;omega
  refine .sk<|.tN<|.sr<|.yw (.loadW Z cQ Hm Z)<|.sW aO8 Z Z dK (by intro a ha;exact Rep.one FR.rep a ha) Z<|.a Z Z<|.az Z<|?_
  refine Sx.retM (.inl rfl) QD ?_;refine y7 Z (.cons (.cell rfl cQ aR2 rfl) (.cons (.tmp rfl) (.cons (.tmp rfl) .nil))) rfl λW s=>?_;rw [EP,bK5 he0 hbd hck];exact ⟨cFm .u8 v.fm.op v.fm.nm v.fm.fd v.fm.a v.fm.b q1 q2,H5,FR.rep,rfl,(((u1.trans u3).trans u4).trans u5).grow s⟩
 have hd:dn=true:=by simpa using h43
 have hfin:(Ps.fin ⟨q,op,x,rd,dn⟩):=.inl hd;refine .g4<|.gG<|.pF Z<|.nt<|.cF Z<|.ex<|.eb<|.sq<|.sq<|?_
 have EP:EY (pX t)=JY ⟨q,op,x,rd,dn⟩:=by unfold EY;rw [BG RC hfin (ME K.gd.last (pX t).length ON (TT (by rw [xW];exact Nat.succ_pos _)) (by show _<=0+_;omega)).1]
 refine .rg<|.lD Z iO wI Z<|.nC Z<|.fA Z jD<|.lD Z rW Hm Z<|.yw (.neq Z Z)<|.nt<|.cd Z (λh62=>?_) (λh62=>?_)
 ·have hne:¬ q.er=0:=λe=>aI h62 (by rw [e];rfl);refine .sq<|.fL 11 [(0,0),(1,0),(2,0),(3,0),(4,0),(5,0),(6,0),(7,0),(8,0),(9,3),(10,0)]<|.yw (.build Z AW)<|.lD Z iO wI Z<|.nC Z<|.fA Z tD<|.lD Z bQ Hm Z<|.lD Z iO wI Z<|.nC Z<|.fA Z jD<|.lD Z rW Hm Z<|.sW cD6 Z Z dK (by simp [Value.oneCell',bJ]) Z ((.yv (.load Z rW Hm Z)<|.yv (.fieldAddr Z jD)<|.yv (.nilCheck Z)<|.yv (.load Z iO wI Z)<|.yv (.load Z bQ Hm Z)<|.yv (.fieldAddr Z tD)<|.yv (.nilCheck Z)<|.yv (.load Z iO wI Z)<|.dn<|.nl))<|.a Z Z<|.fn (tl:=[_]) Z<|.az Z<|.tR<|?_
  refine Sx.retM (.inl rfl) lJ ?_;refine y7 Z (.cons (.cell rfl cQ aR3 rfl) (.cons (.tmp rfl) (.cons (.tmp rfl) .nil))) rfl λW s=>?_;rw [EP,bK7 hne];exact ⟨[.int .u8 0,dV,dV,.int .i64 0,.int .i64 0,cL,cL],H5,JA _,rfl,(((u1.trans u3).trans u4).trans u5).grow s⟩
 have he0:q.er=0:=by have:=aJ h62;omega
 have hd:dn=true:=by
  rcases hfin with e | e
  ·exact e
  ·exact (e he0).elim
 have hr:rd=true:=by
  rcases DR with e | e
  ·rw [show dn=false from e] at hd;cases hd
  ·exact e
 subst hr;have hv1:1<=x.1.length:=by have:=Wq.vs;dsimp only at this;rw [this];exact Nat.le_add_left _ _
 obtain ⟨hn1,hn2⟩:=pW Wq K.few;dsimp only at hn1 hn2;obtain ⟨vs,bd⟩:=x;dsimp only at hv1 hn2;obtain ⟨v,V,rfl⟩:=CZ hv1;dsimp only [List.length_cons] at hn2;obtain ⟨yr,t0,t1,t2,e8,VS1,V1⟩:=VR.inv S.vls;try dsimp only at e8
 subst e8;have l1:=VS1.len;obtain ⟨q1,q2,ef,FR⟩:=JS V1;have FBv:=JC FB.x;dsimp only;refine .sk<|.tN<|.sr<|.lD Z iO wI Z<|.xs (X:=Nat × Nat) Z (λW s=>xQ K5 Wq.i V1.one V1.e.nm aD l1 (s.p6_6 [0,2,1,3,4,5] Z)) λp1 _=>?_
 rw [ef];refine .al fB Z λb7=>.sW .head Z Z dK (by intro a ha;exact Rep.one FR.rep a ha) Z<|.nt<|.sq<|.sr<|.lD Z iO aR3 Z<|.nC Z<|.fA Z oY<|.lD Z kW cU Z<|.nt<|.cd Z (λh77=>?_) (λh77=>?_)
 ·have hbd:(bd || v.noF)=true:=h77;refine .sr<|.yw (.build Z AW)<|.sX aO8 Z Z dK Z<|.a Z Z<|.az Z<|.tR<|?_
  refine Sx.retM (.inl rfl) QD ?_;refine y7 Z (.cons (.cell rfl cQ aR2 rfl) (.cons (.tmp rfl) (.cons (.tmp rfl) .nil))) rfl λW s=>?_;rw [EP,aM1 he0 hbd];exact ⟨[.int .u8 0,dV,dV,.int .i64 0,.int .i64 0,cL,cL],H5,JA _,rfl,(((u1.trans u3).trans u4).trans u5).grow s⟩
 have hbd:(bd || v.noF)=false:=h77;refine .sk<|.tN<|.sq<|.sr<|.yw (.loadW Z cQ Hm Z)<|.yw (.xl Z (λW s=>yM H5 (G4.up u5.up) (GT4.up u5.up) v.fm FBv _ W FR.rep s.agr))<|.a Z Z<|.ns<|.mv Z<|.yw (.neq Z Z)<|.nt<|.cd Z (λh82=>?_) (λh82=>?_)
 ·have hck:¬ gT v.fm=0:=λe=>aI h82 (by rw [e];rfl);refine .sr<|.yw (.build Z AW)<|.mv Z<|.sX aO8 Z Z dK Z<|.a Z Z<|.az Z<|.tR<|?_
  refine Sx.retM (.inl rfl) QD ?_;refine y7 Z (.cons (.cell rfl cQ aR2 rfl) (.cons (.tmp rfl) (.cons (.tmp rfl) .nil))) rfl λW s=>?_;rw [EP,aM0 he0 hbd hck];exact ⟨[.int .u8 0,dV,dV,.int .i64 0,.int .i64 0,cL,cL],H5,JA _,rfl,(((u1.trans u3).trans u4).trans u5).grow s⟩
 have hck:gT v.fm=0:=by have:=aJ h82;omega
 refine .sk<|.tN<|.sr<|.yw (.loadW Z cQ Hm Z)<|.sW aO8 Z Z dK (by intro a ha;exact Rep.one FR.rep a ha) Z<|.a Z Z<|.az Z<|?_
 refine Sx.retM (.inl rfl) QD ?_;refine y7 Z (.cons (.cell rfl cQ aR2 rfl) (.cons (.tmp rfl) (.cons (.tmp rfl) .nil))) rfl λW s=>?_;rw [EP,bK5 he0 hbd hck];exact ⟨cFm .u8 v.fm.op v.fm.nm v.fm.fd v.fm.a v.fm.b q1 q2,H5,FR.rep,rfl,(((u1.trans u3).trans u4).trans u5).grow s⟩
def bN1:Str:=[111,110,99,101,91,48,44,32,53,93,32,40,97,114,114,105,118,101,115,32,102,114,111,110,116,46,103,101,116,40,95,44,32,55,41,32,97,110,100,32,110,111,116,32,102,108,97,103,32,115,108,111,119,41]
def cR2:Str:=[40,97,46,120,32,43,32,49,41,32,42,32,50,32,62,32,110,111,119]
def bN2:Fm:=.mk 13 [] [] 0 5 [] [.mk 9 [] [] 0 0 [] [.mk 7 [102,114,111,110,116] [103,101,116] 0 0 [.mk 0 [] 0 [],.mk 1 [] 7 []] [],.mk 8 [] [] 0 0 [] [.mk 6 [115,108,111,119] [] 0 0 [] []]]]
def cR3:Fm:=.mk 3 [] [] 0 0 [.mk 20 [] 0 [.mk 11 [] 0 [.mk 14 [] 0 [.mk 5 [97,46,120] 0 [],.mk 1 [] 1 []],.mk 1 [] 2 []],.mk 4 [] 0 []]] []
theorem bN0:EY (pX bN1)=(bN2,0,0):=by kernel_rfl
theorem bM8:EY (pX cR2)=(cR3,0,0):=by kernel_rfl
theorem bM9:NK bN2=bN1:=by kernel_rfl
theorem JR (H:Hp) (GL:Gl H) (G:Gf H) (t:Str) (f:Fm) (hl:t.length<=400000) (hp:EY (pX t)=(f,0,0)) (w:World) (hA:Agr H w) :
 Calls prg 26 #[bJ t] w λe W'=>∃ (cs:List Value) (H':Hp),Rep H' (dFm .u8 f) cs/\e=.returned (.tuple #[.agg cs.toArray,.int .i64 0,.int .i64 0])/\wV H w H' W':=by
 have h:=aE0 H GL G t hl w hA;rw [hp] at h;exact h
theorem aT6 (H:Hp) (GL:Gl H) (G:Gf H) (gq:Gq H) (cs:List Value) (w:World) (h:Rep H (dFm .u8 bN2) cs) (hA:Agr H w):Calls prg 19 #[.agg cs.toArray] w λr w'=>r=.returned (bJ bN1)/\Ext w w':=by
 have h1:=SM H GL G gq bN2 qS cs w h hA;rw [bM9] at h1;exact h1
theorem aT7 (H:Hp) (GL:Gl H) (G:Gf H) (gq:Gq H) (w:World) (hA:Agr H w):Calls prg 13 #[] w λr w'=>r=.returned (.bool true)/\Ext w w':=by
 refine Sx.enter (H:=H) func13 rfl ntmps13 rfl hA ?_;refine .sr<|.a Z Z<|.ns<|.xt (X:=List Value) Z (λW s=>JR H GL G bN1 bN2 aS bN0 W s.agr) λx1 H1 r1 u1=>?_
 have r1f:Rep H1 (dFm .u8 (Fm.mk 13 [] [] 0 5 [] [.mk 9 [] [] 0 0 [] [.mk 7 [102,114,111,110,116] [103,101,116] 0 0 [.mk 0 [] 0 [],.mk 1 [] 7 []] [],.mk 8 [] [] 0 0 [] [.mk 6 [115,108,111,119] [] 0 0 [] []]]])) x1:=r1;obtain ⟨p1,c1,p2,c2,rfl,hs1,hs2,_,_⟩:=gK r1f;obtain ⟨bE,oE,cE,hpE,rE,lE,mE⟩:=hs2.elem (i:=0) (d:=dFm .u8 (Fm.mk 9 [] [] 0 0 [] [.mk 7 [102,114,111,110,116] [103,101,116] 0 0 [.mk 0 [] 0 [],.mk 1 [] 7 []] [],.mk 8 [] [] 0 0 [] [.mk 6 [115,108,111,119] [] 0 0 [] []]])) rfl;cases hpE;obtain ⟨q1,d1,q2,d2,rfl,g1,g2,_,_⟩:=gK rE;refine .mv Z<|.yw (.extract Z Z)<|.yw (.extract Z Z)<|.yw (.extract Z Z)<|.al fB Z λb1=>.sW .head Z Z dK (Rep.one r1) Z<|.a Z Z<|.aq Z<|.sq<|.sm Z<|.yw (.cast (.neq Z Z) (congrArg Value.bool (aL (λh=>h Z))))<|.mv Z<|.gy (.move Z)<|.gy (.cast (.neq Z Z) (congrArg Value.bool (aL (λh=>h Z))))<|.pF Z<|.mv Z<|.gy (.fieldAddr Z eY)<|.gy (.load Z iP Hm Z)<|.gy (.cast (.neq Z Z) (congrArg Value.bool (aL (λh=>h Z))))<|.pF Z<|.mv Z<|.gy (.fieldAddr Z fH)<|.gy (.load Z bQ Hm Z)<|.gy (.cast (.neq Z Z) (congrArg Value.bool (aL (λh=>h Z))))<|.pF Z<|.mv Z<|.gy (.fieldAddr Z dQ)<|.gy (.load Z gM Hm Z)<|.gy (.lenSl fJ Z)<|.gy (.cast (.neq Z Z) (congrArg Value.bool (aL (λh=>h Z))))<|.pF Z<|.mv Z<|.gy (.fieldAddr Z dQ)<|.gy (.load Z gM Hm Z)<|.gy (.indexSl fJ Z Z (i:=0) Z aS (q:=oE+0 * 7) Z)<|.gy (.fieldAddr Z eY)<|.gy (.loadM Z iP mE (k:=0) Z Z)<|.gy (.cast (.neq Z Z) (congrArg Value.bool (aL (λh=>h Z))))<|.pF Z<|.mv Z<|.gy (.loadW Z cQ Hm Z)<|.gy (.xl (v:=bJ bN1) Z (λW s=>aT6 H1 (GL.up u1.up) (G.up u1.up) (gq.up u1.up) _ W r1 s.agr))<|.gy (.cast (.neS Z Z) (congrArg Value.bool (aL (λh=>h Z))))<|.pF Z<|.nt<|.cF Z<|.sk<|.tN<|.sr<|.xt (X:=List Value) Z (λW s=>JR H1 (GL.up u1.up) (G.up u1.up) cR2 cR3 aS bM8 W s.agr) λx2 H2 r2 u2=>?_
 have r2f:Rep H2 (dFm .u8 (Fm.mk 3 [] [] 0 0 [(Ex.mk 20 [] 0 [(Ex.mk 11 [] 0 [.mk 14 [] 0 [.mk 5 [97,46,120] 0 [],.mk 1 [] 1 []],.mk 1 [] 2 []]),.mk 4 [] 0 []])] [])) x2:=r2;obtain ⟨p3,c3,p4,c4,rfl,hs3,hs4,_,_⟩:=gK r2f;obtain ⟨bF,oF,cF,hpF,rF,lF,mF⟩:=hs3.elem (i:=0) (d:=dEx .u8 (Ex.mk 20 [] 0 [(Ex.mk 11 [] 0 [.mk 14 [] 0 [.mk 5 [97,46,120] 0 [],.mk 1 [] 1 []],.mk 1 [] 2 []]),.mk 4 [] 0 []])) rfl;cases hpF;obtain ⟨p5,c5,rfl,hs5,_⟩:=eV rF;obtain ⟨bG,oG,cG,hpG,rG,lG,mG⟩:=hs5.elem (i:=0) (d:=dEx .u8 (Ex.mk 11 [] 0 [.mk 14 [] 0 [.mk 5 [97,46,120] 0 [],.mk 1 [] 1 []],.mk 1 [] 2 []])) rfl;cases hpG;obtain ⟨p6,c6,rfl,hs6,_⟩:=eV rG;refine .mv Z<|.yw (.extract Z Z)<|.yw (.extract Z Z)<|.yw (.extract Z Z)<|.al fB Z λb4=>.sW .head Z Z dK (Rep.one r2) Z<|.a Z Z<|.a Z Z<|.ns<|.mv Z<|.yw (.cast (.eql Z Z) (congrArg Value.bool (aG Z)))<|.mv Z<|.gy (.fieldAddr Z eY)<|.gy (.load Z iP Hm Z)<|.gy (.cast (.eql Z Z) (congrArg Value.bool (aG Z)))<|.pT Z<|.mv Z<|.gy (.fieldAddr Z dB)<|.gy (.load Z dR Hm Z)<|.gy (.lenSl eG Z)<|.gy (.cast (.eql Z Z) (congrArg Value.bool (aG Z)))<|.pT Z<|.mv Z<|.gy (.fieldAddr Z dB)<|.gy (.load Z dR Hm Z)<|.gy (.indexSl eG Z Z (i:=0) Z aS (q:=oF+0 * 4) Z)<|.gy (.fieldAddr Z hP)<|.gy (.loadM Z kO mF (k:=0) Z Z)<|.gy (.cast (.eql Z Z) (congrArg Value.bool (aG Z)))<|.pT Z<|.mv Z<|.gy (.fieldAddr Z dB)<|.gy (.load Z dR Hm Z)<|.gy (.indexSl eG Z Z (i:=0) Z aS (q:=oF+0 * 4) Z)<|.gy (.fieldAddr Z eS)<|.gy (.loadM Z dR mF (k:=3) Z Z)<|.gy (.indexSl eG Z Z (i:=0) Z aS (q:=oG+0 * 4) Z)<|.gy (.fieldAddr Z hP)<|.gy (.loadM Z kO mG (k:=0) Z Z)<|.gy (.cast (.eql Z Z) (congrArg Value.bool (aG Z)))<|.pT Z<|.az Z<|?_
 exact yE Z Z Z
variable {N:Nat}
theorem cI9 (hN:3<=N) (e:Ex) (h:Ex.all OD e=true):blE N e=true:=by
 induction e using Ex.ind with | _ op nm n args ih
 rw [uR,SB,aE,aB,nS,bD] at h;exact GV.2 ⟨aD,λa ha=>ih a ha (h.2 a ha)⟩
theorem VB (hN:4<=N) (f:Fm) (h:gdF f=true):blF N f=true:=by
 induction f using Fm.ind with | _ op nm fd a b ex args ih
 obtain ⟨⟨_,h1,h2,h3⟩,h4⟩:=JP.1 h;exact yN.2 ⟨⟨aD,aD,λe he=>cI9 aD e (aL1 (h3 e he))⟩,λg hg=>ih g hg (h4 g hg)⟩
theorem iL {a b:Bool} (h:a=b):Ending.returned (.bool a)=.returned (.bool b):=by rw [h]
theorem BR {op:UInt8} (k:Nat) {i:Int} (hk:k<256) (hi:i=(k:Int)):decide (op=UInt8.ofNat k)=decide (((op.toNat:Nat):Int)=i):=by
 subst hi;rw [aQ,aB,aB]
 constructor
 ·rintro rfl;rw [dH hk]
 ·intro h;exact aR.1 (by rw [dH hk];omega)
theorem d_n {n:Int64} :decide (n=0)=decide (n.toInt=0):=by
 rw [aQ,aB,aB];exact ⟨λh=>by rw [h];rfl,λh=>nK.1 h⟩
theorem cC9 (k:Nat) {i:Int} (hi:i=(k:Int)):decide (n=k)=decide (((n:Nat):Int)=i):=by
 subst hi;rw [aQ,aB,aB];omega
theorem FC {op:UInt8} {nm:Str} {n:Int64} {args:List Ex} :CM (.mk op nm n args)=(decide (((op.toNat:Nat):Int)=0) && decide (nm=[]) && decide (n.toInt=0) && decide (((args.length:Nat):Int)=0)):=by
 rw [<-BR 0 (i:=0) aS rfl,<-d_n,<-cC9 0 (i:=0) rfl];rfl
theorem NY (H:Hp) (e:Ex) (cs:List Value) (w:World) (h:Rep H (dEx .i64 e) cs) (hA:Agr H w):Calls prg 88 #[.agg cs.toArray] w λr w'=>r=.returned (.bool (CM e))/\Ext w w':=by
 obtain ⟨op,nm,nn,args⟩:=e;obtain ⟨pp,c,rfl,hs,hnm⟩:=eV h;have hcap:=hs.cap;refine Sx.enter (H:=H) func88 rfl ntmps88 rfl hA ?_;refine .sr<|.bx Z Z Z λb1=>.a Z Z<|.ns<|.fA Z eH<|.lD Z bQ Hm Z<|.yw (.eql Z Z)<|.mv Z<|.e2 (λh6=>?_) (λh6=>?_)
 ·refine .gy (.fieldAddr Z jW)<|.gy (.load Z bT Hm Z)<|.gy (.eqS Z Z)<|.pT Z<|.mv Z<|.e2 (λh11=>?_) (λh11=>?_)
  ·refine .gy (.fieldAddr Z mU)<|.gy (.load Z jN Hm Z)<|.gy (.eql Z Z)<|.pT Z<|.mv Z<|.e2 (λh16=>?_) (λh16=>?_)
   ·refine .gy (.fieldAddr Z hI)<|.gy (.load Z fM Hm Z)<|.gy (.lenSl fK Z)<|.gy (.eql Z Z)<|.pT Z<|.az Z<|?_
    refine yE Z Z (iL ?_)
    first
     | (rw [FC,aG h6,aG h11,aG h16];simp;done)
     | (rw [FC,aG h6,aG h11,aL h16];simp;done)
     | (rw [FC,aG h6,aL h11];simp;done)
     | (rw [FC,aL h6];simp;done)
   refine .g4<|.pF Z<|.az Z<|?_
   refine yE Z Z (iL ?_)
   first
    | (rw [FC,aG h6,aG h11,aG h16];simp;done)
    | (rw [FC,aG h6,aG h11,aL h16];simp;done)
    | (rw [FC,aG h6,aL h11];simp;done)
    | (rw [FC,aL h6];simp;done)
  refine .g3<|.pF Z<|.mv Z<|.g4<|.pF Z<|.az Z<|?_
  refine yE Z Z (iL ?_)
  first
   | (rw [FC,aG h6,aG h11,aG h16];simp;done)
   | (rw [FC,aG h6,aG h11,aL h16];simp;done)
   | (rw [FC,aG h6,aL h11];simp;done)
   | (rw [FC,aL h6];simp;done)
 refine .g3<|.pF Z<|.mv Z<|.g3<|.pF Z<|.mv Z<|.g4<|.pF Z<|.az Z<|?_
 refine yE Z Z (iL ?_)
 first
  | (rw [FC,aG h6,aG h11,aG h16];simp;done)
  | (rw [FC,aG h6,aG h11,aL h16];simp;done)
  | (rw [FC,aG h6,aL h11];simp;done)
  | (rw [FC,aL h6];simp;done)
def bR3 (op:UInt8):Bool:=decide (op=1) || decide (op=4) || decide (op=5) || decide (op=6) || decide (op=8) || decide (op=9) || (decide (11<=op.toNat) && decide (op.toNat<=15))
theorem WP {op:UInt8} :bR3 op=(decide (((op.toNat:Nat):Int)=1) || decide (((op.toNat:Nat):Int)=4) || decide (((op.toNat:Nat):Int)=5) || decide (((op.toNat:Nat):Int)=6) || decide (((op.toNat:Nat):Int)=8) || decide (((op.toNat:Nat):Int)=9) || (decide ((11:Int)<=((op.toNat:Nat):Int)) && decide (((op.toNat:Nat):Int)<=15))):=by
 unfold bR3;rw [<-BR 1 (i:=1) aS rfl,<-BR 4 (i:=4) aS rfl,<-BR 5 (i:=5) aS rfl,<-BR 6 (i:=6) aS rfl,<-BR 8 (i:=8) aS rfl,<-BR 9 (i:=9) aS rfl,show decide ((11:Int)<=((op.toNat:Nat):Int))=decide (11<=op.toNat) from decide_eq_decide.2 aD,show decide (((op.toNat:Nat):Int)<=15)=decide (op.toNat<=15) from decide_eq_decide.2 aD];rfl
theorem JD {op:UInt8} {nm:Str} {n:Int64} :WL op nm n k=(bR3 op && decide (arR op.toNat=((k:Nat):Int)) && (decide (((op.toNat:Nat):Int)=1) || decide (n.toInt=0)) && decide (0<=n.toInt) && (decide (nm=[]) || decide (((op.toNat:Nat):Int)=5) || decide (((op.toNat:Nat):Int)=6) || decide (((op.toNat:Nat):Int)=8))):=by
 rw [<-BR 1 (i:=1) aS rfl,<-BR 5 (i:=5) aS rfl,<-BR 6 (i:=6) aS rfl,<-BR 8 (i:=8) aS rfl,<-d_n];rfl
theorem AF (e:Ex):∀ (H:Hp) (cs:List Value) (w:World),Rep H (dEx .i64 e) cs->Agr H w->Calls prg 133 #[.agg cs.toArray] w λr w'=>r=.returned (.bool (eI e))/\Ext w w':=by
 induction e using Ex.ind with | _ op nm nn args ih
 intro H cs w h hA;obtain ⟨pp,c,rfl,hs,hnm⟩:=eV h;have hcap:=hs.cap;refine Sx.enter (H:=H) func133 rfl ntmps133 rfl hA ?_;refine .sr<|.bx Z Z Z λb1=>.aq Z<|.cu (X:=Bool) [(1,_)] ⟨Z,Jt⟩ (λz3=>[(3,.bool z3)]) (λz3=>H) (λz3=>[.box b1 [.int .i64 op.toNat,bJ nm,.int .i64 nn.toInt,.slice pp args.length c] 83]) (λz3=>z3=bR3 op) ?_ λz3 hC=>?_
 ·
  refine .rg<|.fA Z eH<|.lD Z bQ Hm Z<|.yw (.eql Z Z)<|.mv Z<|.e2 (λh9=>?_) (λh9=>?_)
  ·exact .g3<|.pT Z<|.mv Z<|.g3<|.pT Z<|.mv Z<|.g3<|.pT Z<|.mv Z<|.g3<|.pT Z<|.mv Z<|.g3<|.pT Z<|.mv Z<|.g4<|.gV<|.gV<|.gV<|.gG<|.pT Z<|.aq Z<|.me _ ⟨Z,Jt⟩ ⟨Z,Jt⟩ (λ_ s=>s) (by rw [WP,aG h9];simp)
  refine .gy (.fieldAddr Z eH)<|.gy (.load Z bQ Hm Z)<|.gy (.eql Z Z)<|.pF Z<|.mv Z<|.e2 (λh14=>?_) (λh14=>?_)
  ·exact .g3<|.pT Z<|.mv Z<|.g3<|.pT Z<|.mv Z<|.g3<|.pT Z<|.mv Z<|.g3<|.pT Z<|.mv Z<|.g4<|.gV<|.gV<|.gV<|.gG<|.pT Z<|.aq Z<|.me _ ⟨Z,Jt⟩ ⟨Z,Jt⟩ (λ_ s=>s) (by rw [WP,aL h9,aG h14];simp)
  refine .gy (.fieldAddr Z eH)<|.gy (.load Z bQ Hm Z)<|.gy (.eql Z Z)<|.pF Z<|.mv Z<|.e2 (λh19=>?_) (λh19=>?_)
  ·exact .g3<|.pT Z<|.mv Z<|.g3<|.pT Z<|.mv Z<|.g3<|.pT Z<|.mv Z<|.g4<|.gV<|.gV<|.gV<|.gG<|.pT Z<|.aq Z<|.me _ ⟨Z,Jt⟩ ⟨Z,Jt⟩ (λ_ s=>s) (by rw [WP,aL h9,aL h14,aG h19];simp)
  refine .gy (.fieldAddr Z eH)<|.gy (.load Z bQ Hm Z)<|.gy (.eql Z Z)<|.pF Z<|.mv Z<|.e2 (λh24=>?_) (λh24=>?_)
  ·exact .g3<|.pT Z<|.mv Z<|.g3<|.pT Z<|.mv Z<|.g4<|.gV<|.gV<|.gV<|.gG<|.pT Z<|.aq Z<|.me _ ⟨Z,Jt⟩ ⟨Z,Jt⟩ (λ_ s=>s) (by rw [WP,aL h9,aL h14,aL h19,aG h24];simp)
  refine .gy (.fieldAddr Z eH)<|.gy (.load Z bQ Hm Z)<|.gy (.eql Z Z)<|.pF Z<|.mv Z<|.e2 (λh29=>?_) (λh29=>?_)
  ·exact .g3<|.pT Z<|.mv Z<|.g4<|.gV<|.gV<|.gV<|.gG<|.pT Z<|.aq Z<|.me _ ⟨Z,Jt⟩ ⟨Z,Jt⟩ (λ_ s=>s) (by rw [WP,aL h9,aL h14,aL h19,aL h24,aG h29];simp)
  refine .gy (.fieldAddr Z eH)<|.gy (.load Z bQ Hm Z)<|.gy (.eql Z Z)<|.pF Z<|.mv Z<|.e2 (λh34=>?_) (λh34=>?_)
  ·exact .g4<|.gV<|.gV<|.gV<|.gG<|.pT Z<|.aq Z<|.me _ ⟨Z,Jt⟩ ⟨Z,Jt⟩ (λ_ s=>s) (by rw [WP,aL h9,aL h14,aL h19,aL h24,aL h29,aG h34];simp)
  refine .gy (.fieldAddr Z eH)<|.gy (.load Z bQ Hm Z)<|.gy (.geq Z Z)<|.gy (.move Z)<|.e2 (λh38=>?_) (λh38=>?_)
  ·exact .gy (.fieldAddr Z eH)<|.gy (.load Z bQ Hm Z)<|.gy (.leq Z Z)<|.gy (.pickT Z Z)<|.pF Z<|.aq Z<|.me _ ⟨Z,Jt⟩ ⟨Z,Jt⟩ (λ_ s=>s) (by rw [WP,aL h9,aL h14,aL h19,aL h24,aL h29,aL h34,aG h38];simp)
  exact .g3<|.gy (.pickF Z Z)<|.pF Z<|.aq Z<|.me _ ⟨Z,Jt⟩ ⟨Z,Jt⟩ (λ_ s=>s) (by rw [WP,aL h9,aL h14,aL h19,aL h24,aL h29,aL h34,aL h38];simp)
 have e3:=hC;refine .sq<|.cu (X:=Bool) [(1,_)] ⟨Z,Jt⟩ (λz9=>[(89,.bool z9)]) (λz9=>H) (λz9=>[.box b1 [.int .i64 op.toNat,bJ nm,.int .i64 nn.toInt,.slice pp args.length c] 83]) (λz9=>z9=!WL op nm nn args.length) ?_ λz9 hC=>?_
 ·
  refine .fL 45 [(0,0),(1,0),(2,0),(3,0),(4,0),(5,0),(6,0),(7,0),(8,0),(9,0),(10,0),(11,0),(12,0),(13,0),(14,0),(15,0),(16,0),(17,0),(18,0),(19,0),(20,0),(21,0),(22,0),(23,0),(24,0),(25,0),(26,0),(27,0),(28,0),(29,0),(30,0),(31,0),(32,0),(33,0),(34,0),(35,0),(36,0),(37,0),(38,0),(39,0),(40,0),(41,0),(42,0),(43,0),(44,0)]<|.mv Z<|.yw (.not Z)<|.mv Z<|.b2 (λh46=>?_) (λh46=>?_)
  ·try simp only [dt] at h46
   exact .g4<|.g3<|.pT Z<|.mv Z<|.g4<|.gV<|.gV<|.gV<|.gG<|.pT Z<|.mv Z<|.g3<|.pT Z<|.mv Z<|.g4<|.gV<|.gV<|.gV<|.g2<|.gV<|.gV<|.gV<|.g2<|.gV<|.gV<|.gV<|.gG<|.fn (tl:=[_]) Z<|.pT Z<|.nt<|.me _ ⟨Z,Jt⟩ ⟨Z,Jt⟩ (λ_ s=>s) (by rw [JD,<-e3,show z3=false by simpa using h46];rfl)
  try simp only [df] at h46
  refine .yg Z Z (.fieldAddr Z eH) Z<|.yg Z Z (.load Z bQ Hm Z) Z<|.yg Z Z (.xl Z (λW s=>aU0 _ op.toNat W s.agr)) Z<|.yg Z Z (.fieldAddr Z hI) Z<|.yg Z Z (.load Z fM Hm Z) Z<|.yg Z Z (.lenSl fK Z) Z<|.yg Z Z (.neq Z Z) Z<|.pF Z<|.mv Z<|.e2 (λh55=>?_) (λh55=>?_)
  ·exact .g4<|.gV<|.gV<|.gV<|.gG<|.pT Z<|.mv Z<|.g3<|.pT Z<|.mv Z<|.g4<|.gV<|.gV<|.gV<|.g2<|.gV<|.gV<|.gV<|.g2<|.gV<|.gV<|.gV<|.gG<|.fn (tl:=[_]) Z<|.pT Z<|.nt<|.me _ ⟨Z,Jt⟩ ⟨Z,Jt⟩ (λ_ s=>s) (by rw [JD,<-e3,show z3=true by simpa using h46,aL h55];simp)
  refine .yg Z Z (.fieldAddr Z eH) Z<|.yg Z Z (.load Z bQ Hm Z) Z<|.yg Z Z (.neq Z Z) Z<|.yg Z Z (.move Z) Z<|.e2 (λh59=>?_) (λh59=>?_)
  ·refine .yg Z Z (.fieldAddr Z mU) Z<|.yg Z Z (.load Z jN Hm Z) Z<|.yg Z Z (.neq Z Z) Z<|.yg Z Z (.pickT Z Z) Z<|.pF Z<|.mv Z<|.e2 (λh65=>?_) (λh65=>?_)
   ·exact .g3<|.pT Z<|.mv Z<|.g4<|.gV<|.gV<|.gV<|.g2<|.gV<|.gV<|.gV<|.g2<|.gV<|.gV<|.gV<|.gG<|.fn (tl:=[_]) Z<|.pT Z<|.nt<|.me _ ⟨Z,Jt⟩ ⟨Z,Jt⟩ (λ_ s=>s) (by rw [JD,<-e3,show z3=true by simpa using h46,aG (bP.1 h55),aL h59,aL h65];simp)
   refine .yg Z Z (.fieldAddr Z mU) Z<|.yg Z Z (.load Z jN Hm Z) Z<|.yg Z Z (.lss Z Z) Z<|.pF Z<|.mv Z<|.b2 (λh70=>?_) (λh70=>?_)
   ·try simp only [dt] at h70
    exact .g4<|.gV<|.gV<|.gV<|.g2<|.gV<|.gV<|.gV<|.g2<|.gV<|.gV<|.gV<|.gG<|.fn (tl:=[_]) Z<|.pT Z<|.nt<|.me _ ⟨Z,Jt⟩ ⟨Z,Jt⟩ (λ_ s=>s) (by rw [JD,<-e3,show z3=true by simpa using h46,aG (bP.1 h55),aL h59,aG (bP.1 h65),aL (show ¬ 0<=nn.toInt by omega)];simp)
   try simp only [df] at h70
   refine .yg Z Z (.fieldAddr Z jW) Z<|.yg Z Z (.load Z bT Hm Z) Z<|.yg Z Z (.neS Z Z) Z<|.yg Z Z (.move Z) Z<|.b2 (λh74=>?_) (λh74=>?_)
   ·try simp only [dt] at h74
    refine .yg Z Z (.fieldAddr Z eH) Z<|.yg Z Z (.load Z bQ Hm Z) Z<|.yg Z Z (.neq Z Z) Z<|.yg Z Z (.pickT Z Z) Z<|.yg Z Z (.move Z) Z<|.b2 (λh79=>?_) (λh79=>?_)
    ·try simp only [dt] at h79
     refine .yg Z Z (.fieldAddr Z eH) Z<|.yg Z Z (.load Z bQ Hm Z) Z<|.yg Z Z (.neq Z Z) Z<|.yg Z Z (.pickT Z Z) Z<|.yg Z Z (.move Z) Z<|.b2 (λh84=>?_) (λh84=>?_)
     ·try simp only [dt] at h84
      exact .yg Z Z (.fieldAddr Z eH) Z<|.yg Z Z (.load Z bQ Hm Z) Z<|.yg Z Z (.neq Z Z) Z<|.yg Z Z (.pickT Z Z) Z<|.fn (tl:=[_]) Z<|.pF Z<|.nt<|.me _ ⟨Z,Jt⟩ ⟨Z,Jt⟩ (λ_ s=>s) (by rw [JD,<-e3,show z3=true by simpa using h46,aG (bP.1 h55),aL h59,aG (bP.1 h65),aG (show 0<=nn.toInt by omega),aL h74,aL h79,aL h84];simp)
     try simp only [df] at h84
     exact .g3<|.yg Z Z (.pickF Z Z) Z<|.fn (tl:=[_]) Z<|.pF Z<|.nt<|.me _ ⟨Z,Jt⟩ ⟨Z,Jt⟩ (λ_ s=>s) (by rw [JD,<-e3,show z3=true by simpa using h46,aG (bP.1 h55),aL h59,aG (bP.1 h65),aG (show 0<=nn.toInt by omega),aL h74,aL h79,aG (bP.1 h84)];simp)
    try simp only [df] at h79
    exact .g3<|.yg Z Z (.pickF Z Z) Z<|.yg Z Z (.move Z) Z<|.g3<|.yg Z Z (.pickF Z Z) Z<|.fn (tl:=[_]) Z<|.pF Z<|.nt<|.me _ ⟨Z,Jt⟩ ⟨Z,Jt⟩ (λ_ s=>s) (by rw [JD,<-e3,show z3=true by simpa using h46,aG (bP.1 h55),aL h59,aG (bP.1 h65),aG (show 0<=nn.toInt by omega),aL h74,aG (bP.1 h79)];simp)
   try simp only [df] at h74
   exact .g3<|.yg Z Z (.pickF Z Z) Z<|.yg Z Z (.move Z) Z<|.g3<|.yg Z Z (.pickF Z Z) Z<|.yg Z Z (.move Z) Z<|.g3<|.yg Z Z (.pickF Z Z) Z<|.fn (tl:=[_]) Z<|.pF Z<|.nt<|.me _ ⟨Z,Jt⟩ ⟨Z,Jt⟩ (λ_ s=>s) (by rw [JD,<-e3,show z3=true by simpa using h46,aG (bP.1 h55),aL h59,aG (bP.1 h65),aG (show 0<=nn.toInt by omega),aG (bP.1 h74)];simp)
  refine .g3<|.yg Z Z (.pickF Z Z) Z<|.pF Z<|.mv Z<|.yg Z Z (.fieldAddr Z mU) Z<|.yg Z Z (.load Z jN Hm Z) Z<|.yg Z Z (.lss Z Z) Z<|.pF Z<|.mv Z<|.b2 (λh70=>?_) (λh70=>?_)
  ·try simp only [dt] at h70
   exact .g4<|.gV<|.gV<|.gV<|.g2<|.gV<|.gV<|.gV<|.g2<|.gV<|.gV<|.gV<|.gG<|.fn (tl:=[_]) Z<|.pT Z<|.nt<|.me _ ⟨Z,Jt⟩ ⟨Z,Jt⟩ (λ_ s=>s) (by rw [JD,<-e3,show z3=true by simpa using h46,aG (bP.1 h55),aG (bP.1 h59),aL (show ¬ 0<=nn.toInt by omega)];simp)
  try simp only [df] at h70
  refine .yg Z Z (.fieldAddr Z jW) Z<|.yg Z Z (.load Z bT Hm Z) Z<|.yg Z Z (.neS Z Z) Z<|.yg Z Z (.move Z) Z<|.b2 (λh74=>?_) (λh74=>?_)
  ·try simp only [dt] at h74
   refine .yg Z Z (.fieldAddr Z eH) Z<|.yg Z Z (.load Z bQ Hm Z) Z<|.yg Z Z (.neq Z Z) Z<|.yg Z Z (.pickT Z Z) Z<|.yg Z Z (.move Z) Z<|.b2 (λh79=>?_) (λh79=>?_)
   ·try simp only [dt] at h79
    refine .yg Z Z (.fieldAddr Z eH) Z<|.yg Z Z (.load Z bQ Hm Z) Z<|.yg Z Z (.neq Z Z) Z<|.yg Z Z (.pickT Z Z) Z<|.yg Z Z (.move Z) Z<|.b2 (λh84=>?_) (λh84=>?_)
    ·try simp only [dt] at h84
     exact .yg Z Z (.fieldAddr Z eH) Z<|.yg Z Z (.load Z bQ Hm Z) Z<|.yg Z Z (.neq Z Z) Z<|.yg Z Z (.pickT Z Z) Z<|.fn (tl:=[_]) Z<|.pF Z<|.nt<|.me _ ⟨Z,Jt⟩ ⟨Z,Jt⟩ (λ_ s=>s) (by rw [JD,<-e3,show z3=true by simpa using h46,aG (bP.1 h55),aG (bP.1 h59),aG (show 0<=nn.toInt by omega),aL h74,aL h79,aL h84];simp)
    try simp only [df] at h84
    exact .g3<|.yg Z Z (.pickF Z Z) Z<|.fn (tl:=[_]) Z<|.pF Z<|.nt<|.me _ ⟨Z,Jt⟩ ⟨Z,Jt⟩ (λ_ s=>s) (by rw [JD,<-e3,show z3=true by simpa using h46,aG (bP.1 h55),aG (bP.1 h59),aG (show 0<=nn.toInt by omega),aL h74,aL h79,aG (bP.1 h84)];simp)
   try simp only [df] at h79
   exact .g3<|.yg Z Z (.pickF Z Z) Z<|.yg Z Z (.move Z) Z<|.g3<|.yg Z Z (.pickF Z Z) Z<|.fn (tl:=[_]) Z<|.pF Z<|.nt<|.me _ ⟨Z,Jt⟩ ⟨Z,Jt⟩ (λ_ s=>s) (by rw [JD,<-e3,show z3=true by simpa using h46,aG (bP.1 h55),aG (bP.1 h59),aG (show 0<=nn.toInt by omega),aL h74,aG (bP.1 h79)];simp)
  try simp only [df] at h74
  exact .g3<|.yg Z Z (.pickF Z Z) Z<|.yg Z Z (.move Z) Z<|.g3<|.yg Z Z (.pickF Z Z) Z<|.yg Z Z (.move Z) Z<|.g3<|.yg Z Z (.pickF Z Z) Z<|.fn (tl:=[_]) Z<|.pF Z<|.nt<|.me _ ⟨Z,Jt⟩ ⟨Z,Jt⟩ (λ_ s=>s) (by rw [JD,<-e3,show z3=true by simpa using h46,aG (bP.1 h55),aG (bP.1 h59),aG (show 0<=nn.toInt by omega),aG (bP.1 h74)];simp)
 have e9:=hC;refine .cd Z (λh89=>?_) (λh89=>?_)
 ·have ht:WL op nm nn args.length=false:=by rw [h89] at e9;simpa using e9.symm
  refine .sr<|.az Z<|.tR<|?_
  refine yE Z Z (iL ?_)
  (rw [CQ,ht];rfl;done)
 have ht:WL op nm nn args.length=true:=by rw [h89] at e9;simpa using e9.symm
 refine .sk<|.tN<|.sq<|.sr<|.fA Z hI<|.lD Z fM Hm Z<|.yw (.lenSl fK Z)<|.mv Z<|.nt<|.bk<|.lp (X:=Nat) [(91,_),(92,_)] ⟨Z,Z,Jt⟩ [_] (λk=>[(93,iN k)]) (λk=>H) (λk=>[]) (λk=>k<=args.length/\(args.take k).all eI=true) (λk=>args.length - k) 0 (λ_ s=>s) ⟨Z,Jt⟩ ⟨aN _,Z⟩ λk hC=>?_
 obtain ⟨hk0,hal⟩:=hC;refine .sr<|.yw (.lss Z Z)<|.nt<|.sq<|.ce Z (λh94=>?_) (λh94=>?_)
 ·have hk:k<args.length:=aD
  obtain ⟨bE,oE,cE,hpE,rE,lE,mE⟩:=hs.elem (eR (f:=dEx .i64) hk);cases hpE;refine .sk<|.tN<|.sq<|.bk<|.sr<|.yw (.indexSl fK Z Z Z aD (q:=oE+k * 4) Z)<|.yw (.loadMW Z cY mE lE)<|.al gX Z λb5=>.sV .head Z Z eD lE rE.one Z<|.ns<|.yw (.loadW Z cY Hm lE)<|.yw (.xl Z (λW s=>ih _ (aX hk) H cE W rE s.agr))<|.yw (.not Z)<|.nt<|.cd Z (λh99=>?_) (λh99=>?_)
  ·refine .sr<|.az Z<|.bR<|.tR<|.tR<|.bR<|.tR<|?_
   refine yE Z Z (iL ?_)
   (rw [CQ,bO0 hk (by simpa using h99)];simp;done)
  exact .sk<|.bN<|.tN<|.rg<|.yw (.add Z Z w7)<|.mv Z<|.nt<|.ag (k+1) ⟨Z,Jt⟩ ⟨Z,Z,Jt⟩ (λ_ s=>s.pick [1] [_] Z Z) ⟨aD,IL hk hal (by simpa using h99)⟩ aD
 obtain rfl:k=args.length:=aD
 rw [bW] at hal;refine .ex<|.eb<|.sr<|.az Z<|?_
 refine yE Z Z (iL ?_)
 (rw [CQ,ht,hal];rfl;done)
end Go.Proofs.YtidclioghdbphaaGreatDoor
