/- Texts of the proof, one behind the other. -/
import Derived.Test.YtidclioghdbphaaGreatDoorMh
import Derived.Test.YtidclioghdbphaaGreatDoorTie
import Derived.ProofKit
import Derived.OpenShut
import Derived.ShutString
import Derived.Lay
import Derived.Stop.LaidErr
import Derived.Stop.Joined
import Derived.Shelf.Vars
import Derived.Lib.LaidTab
import Derived.Lib.SmallJoins
import Derived.SevenTiedAt
import Derived.Test.YtidclioghdbphaaGreatDoorCards
set_option linter.all false
set_option maxRecDepth 100000
namespace Go.Proofs.YtidclioghdbphaaGreatDoor
open Go.RowKit Go.Par Go.Sx _root_.Go.Proofs.Tryz
theorem aY0 (op:UInt8):(cK op).wn=decide (op=13\/op=14\/op=15):=pK (q:=λop=>(cK op).wn=decide (op=13\/op=14\/op=15)) qS op
theorem bN8 (op:UInt8):(cK op).am=decide (op=16\/op=17\/op=18):=pK (q:=λop=>(cK op).am=decide (op=16\/op=17\/op=18)) qS op
theorem aA1 {op:UInt8} (h:(op=13\/op=14\/op=15)):(cK op).wn=true:=by rw [aY0,aG h]
theorem aO4 {op:UInt8} (h:¬ (op=13\/op=14\/op=15)):(cK op).wn=false:=by rw [aY0,aL h]
theorem cA9 {op:UInt8} (h:(op=16\/op=17\/op=18)):(cK op).am=true:=by rw [bN8,aG h]
theorem cR7 {op:UInt8} (h:¬ (op=16\/op=17\/op=18)):(cK op).am=false:=by rw [bN8,aL h]
theorem zH (H:Hp) (f:Fm) (cs:List Value) (w:World) (h:Rep H (dFm .i64 f) cs) (hA:Agr H w):Calls prg 86 #[.agg cs.toArray] w λr w'=>r=.returned (.bool (DU f))/\Ext w w':=by
 obtain ⟨op,nm,fd,a,b,ex,args⟩:=f;obtain ⟨p1,c1,p2,c2,rfl,hs1,hs2,hnm,hfd⟩:=gK h;have hcap1:=hs1.cap;have hcap2:=hs2.cap;refine Sx.enter (H:=H) func86 rfl ntmps86 rfl hA ?_;refine .sr<|.bx Z Z Z λb1=>.aq Z<|.sq<|.sr<|.fA Z hQ<|.lD Z bQ Hm Z<|.nt<|.bk<|.cu (X:=Bool) [(1,_),(4,_)] ⟨Z,Z,Jt⟩ (λz=>[(5,.bool z)]) (λz=>H) (λz=>[.box b1 [.int .i64 op.toNat,bJ nm,bJ fd,.int .i64 a.toInt,.int .i64 b.toInt,.slice p1 ex.length c1,.slice p2 args.length c2] 27]) (λz=>z=decide (op=13\/op=14\/op=15)) ?_ λz hC=>?_
 ·
  refine .sr<|.yw (.eql Z Z)<|.aq Z<|.cr Z (λh5=>?_) (λh5=>?_)
  ·have qw:op=13:=aR.1 (by have:=aI h5;show op.toNat=13;omega);exact .sk<|.tN<|.me _ ⟨Z,Jt⟩ ⟨Z,Z,Jt⟩ (λ_ s=>s) (by first | (rw [qw];rfl) | (simp only [qw13,qw14,false_or];exact k8 (m:=15) aS))
  have qw13:¬ op=13:=λe=>aJ h5 (by rw [e];rfl);refine .sr<|.yw (.eql Z Z)<|.aq Z<|.cr Z (λh5=>?_) (λh5=>?_)
  ·have qw:op=14:=aR.1 (by have:=aI h5;show op.toNat=14;omega);exact .sk<|.tN<|.me _ ⟨Z,Jt⟩ ⟨Z,Z,Jt⟩ (λ_ s=>s) (by first | (rw [qw];rfl) | (simp only [qw13,qw14,false_or];exact k8 (m:=15) aS))
  have qw14:¬ op=14:=λe=>aJ h5 (by rw [e];rfl);exact .rg<|.yw (.eql Z Z)<|.aq Z<|.me _ ⟨Z,Jt⟩ ⟨Z,Z,Jt⟩ (λ_ s=>s) (by first | (rw [qw];rfl) | (simp only [qw13,qw14,false_or];exact k8 (m:=15) aS))
 have eqW:=hC;refine .cr Z (λh5=>?_) (λh5=>?_)
 ·have qW:(op=13\/op=14\/op=15):=by rw [h5] at eqW;exact aI eqW.symm

  refine .sr<|.fA Z iX<|.lD Z bQ Hm Z<|.yw (.eql Z Z)<|.mv Z<|.e2 (λh12=>?_) (λh12=>?_)
  ·refine .gy (.fieldAddr Z iW)<|.gy (.load Z bQ Hm Z)<|.gy (.eql Z Z)<|.pT Z<|.mv Z<|.e2 (λh17=>?_) (λh17=>?_)
   ·refine .g4<|.gV<|.gV<|.gV<|.gV<|.gV<|.g2<|.gV<|.gV<|.gV<|.gG<|.pT Z<|.az Z<|.bR<|.tR<|?_
    refine yE Z Z (iL ?_)
    (rw [DT (aA1 qW),aQ];(try simp only [aW,aE,aB,reduceCtorEq,cO,cI,cP,cH,bC,aM]);omega;done)
   refine .gy (.fieldAddr Z iX)<|.gy (.load Z bQ Hm Z)<|.gy (.geq Z Z)<|.gy (.move Z)<|.b2 (λh21=>?_) (λh21=>?_)
   ·try simp only [dt] at h21
    refine .gy (.fieldAddr Z iX)<|.gy (.load Z bQ Hm Z)<|.gy (.fieldAddr Z iW)<|.gy (.load Z bQ Hm Z)<|.gy (.leq Z Z)<|.gy (.pickT Z Z)<|.gy (.move Z)<|.b2 (λh28=>?_) (λh28=>?_)
    ·try simp only [dt] at h28
     refine .gy (.fieldAddr Z iW)<|.gy (.load Z bQ Hm Z)<|.gy (.leq Z Z)<|.gy (.pickT Z Z)<|.pF Z<|.az Z<|.bR<|.tR<|?_
     refine yE Z Z (iL ?_)
     (rw [DT (aA1 qW),aQ];(try simp only [aW,aE,aB,reduceCtorEq,cO,cI,cP,cH,bC,aM]);omega;done)
    try simp only [df] at h28
    refine .g3<|.gy (.pickF Z Z)<|.pF Z<|.az Z<|.bR<|.tR<|?_
    refine yE Z Z (iL ?_)
    (rw [DT (aA1 qW),aQ];(try simp only [aW,aE,aB,reduceCtorEq,cO,cI,cP,cH,bC,aM]);omega;done)
   try simp only [df] at h21
   refine .g4<|.gG<|.gy (.pickF Z Z)<|.gy (.move Z)<|.g3<|.gy (.pickF Z Z)<|.pF Z<|.az Z<|.bR<|.tR<|?_
   refine yE Z Z (iL ?_)
   (rw [DT (aA1 qW),aQ];(try simp only [aW,aE,aB,reduceCtorEq,cO,cI,cP,cH,bC,aM]);omega;done)
  refine .g3<|.pF Z<|.mv Z<|.gy (.fieldAddr Z iX)<|.gy (.load Z bQ Hm Z)<|.gy (.geq Z Z)<|.gy (.move Z)<|.b2 (λh21=>?_) (λh21=>?_)
  ·try simp only [dt] at h21
   refine .gy (.fieldAddr Z iX)<|.gy (.load Z bQ Hm Z)<|.gy (.fieldAddr Z iW)<|.gy (.load Z bQ Hm Z)<|.gy (.leq Z Z)<|.gy (.pickT Z Z)<|.gy (.move Z)<|.b2 (λh28=>?_) (λh28=>?_)
   ·try simp only [dt] at h28
    refine .gy (.fieldAddr Z iW)<|.gy (.load Z bQ Hm Z)<|.gy (.leq Z Z)<|.gy (.pickT Z Z)<|.pF Z<|.az Z<|.bR<|.tR<|?_
    refine yE Z Z (iL ?_)
    (rw [DT (aA1 qW),aQ];(try simp only [aW,aE,aB,reduceCtorEq,cO,cI,cP,cH,bC,aM]);omega;done)
   try simp only [df] at h28
   refine .g3<|.gy (.pickF Z Z)<|.pF Z<|.az Z<|.bR<|.tR<|?_
   refine yE Z Z (iL ?_)
   (rw [DT (aA1 qW),aQ];(try simp only [aW,aE,aB,reduceCtorEq,cO,cI,cP,cH,bC,aM]);omega;done)
  try simp only [df] at h21
  refine .g4<|.gG<|.gy (.pickF Z Z)<|.gy (.move Z)<|.g3<|.gy (.pickF Z Z)<|.pF Z<|.az Z<|.bR<|.tR<|?_
  refine yE Z Z (iL ?_)
  (rw [DT (aA1 qW),aQ];(try simp only [aW,aE,aB,reduceCtorEq,cO,cI,cP,cH,bC,aM]);omega;done)
 have qW:¬ (op=13\/op=14\/op=15):=by rw [h5] at eqW;exact aJ eqW.symm
 refine .cu (X:=Bool) [(1,_)] ⟨Z,Jt⟩ (λz=>[(34,.bool z)]) (λz=>H) (λz=>[.box b1 [.int .i64 op.toNat,bJ nm,bJ fd,.int .i64 a.toInt,.int .i64 b.toInt,.slice p1 ex.length c1,.slice p2 args.length c2] 27]) (λz=>z=decide (op=16\/op=17\/op=18)) ?_ λz hC=>?_
 ·
  refine .sr<|.yw (.eql Z Z)<|.aq Z<|.cr Z (λh34=>?_) (λh34=>?_)
  ·have qa:op=16:=aR.1 (by have:=aI h34;show op.toNat=16;omega);exact .sk<|.tN<|.me _ ⟨Z,Jt⟩ ⟨Z,Jt⟩ (λ_ s=>s) (by first | (rw [qa];rfl) | (simp only [qa16,qa17,false_or];exact k8 (m:=18) aS))
  have qa16:¬ op=16:=λe=>aJ h34 (by rw [e];rfl);refine .sr<|.yw (.eql Z Z)<|.aq Z<|.cr Z (λh34=>?_) (λh34=>?_)
  ·have qa:op=17:=aR.1 (by have:=aI h34;show op.toNat=17;omega);exact .sk<|.tN<|.me _ ⟨Z,Jt⟩ ⟨Z,Jt⟩ (λ_ s=>s) (by first | (rw [qa];rfl) | (simp only [qa16,qa17,false_or];exact k8 (m:=18) aS))
  have qa17:¬ op=17:=λe=>aJ h34 (by rw [e];rfl);exact .rg<|.yw (.eql Z Z)<|.aq Z<|.me _ ⟨Z,Jt⟩ ⟨Z,Jt⟩ (λ_ s=>s) (by first | (rw [qa];rfl) | (simp only [qa16,qa17,false_or];exact k8 (m:=18) aS))
 have eqA:=hC;refine .cr Z (λh34=>?_) (λh34=>?_)
 ·have qA:(op=16\/op=17\/op=18):=by rw [h34] at eqA;exact aI eqA.symm

  refine .sr<|.fA Z iX<|.lD Z bQ Hm Z<|.yw (.geq Z Z)<|.mv Z<|.e2 (λh41=>?_) (λh41=>?_)
  ·refine .gy (.fieldAddr Z iW)<|.gy (.load Z bQ Hm Z)<|.gy (.leq Z Z)<|.pT Z<|.mv Z<|.e2 (λh46=>?_) (λh46=>?_)
   ·refine .gy (.fieldAddr Z iX)<|.gy (.load Z bQ Hm Z)<|.gy (.fieldAddr Z iW)<|.gy (.load Z bQ Hm Z)<|.gy (.leq Z Z)<|.pT Z<|.mv Z<|.e2 (λh53=>?_) (λh53=>?_)
    ·refine .gy (.fieldAddr Z iW)<|.gy (.load Z bQ Hm Z)<|.gy (.fieldAddr Z iX)<|.gy (.load Z bQ Hm Z)<|.gy (.sub Z Z (c:=b.toInt - a.toInt) (w6 aD))<|.gy (.lss Z Z)<|.pT Z<|.az Z<|.bR<|.tR<|?_
     refine yE Z Z (iL ?_)
     (rw [LJ (aO4 qW) (cA9 qA),aQ];(try simp only [aW,aE,aB,reduceCtorEq,cO,cI,cP,cH,bC,aM]);omega;done)
    refine .g4<|.g2<|.pF Z<|.az Z<|.bR<|.tR<|?_
    refine yE Z Z (iL ?_)
    (rw [LJ (aO4 qW) (cA9 qA),aQ];(try simp only [aW,aE,aB,reduceCtorEq,cO,cI,cP,cH,bC,aM]);omega;done)
   refine .g4<|.gG<|.pF Z<|.mv Z<|.g4<|.g2<|.pF Z<|.az Z<|.bR<|.tR<|?_
   refine yE Z Z (iL ?_)
   (rw [LJ (aO4 qW) (cA9 qA),aQ];(try simp only [aW,aE,aB,reduceCtorEq,cO,cI,cP,cH,bC,aM]);omega;done)
  refine .g3<|.pF Z<|.mv Z<|.g4<|.gG<|.pF Z<|.mv Z<|.g4<|.g2<|.pF Z<|.az Z<|.bR<|.tR<|?_
  refine yE Z Z (iL ?_)
  (rw [LJ (aO4 qW) (cA9 qA),aQ];(try simp only [aW,aE,aB,reduceCtorEq,cO,cI,cP,cH,bC,aM]);omega;done)
 have qA:¬ (op=16\/op=17\/op=18):=by rw [h34] at eqA;exact aJ eqA.symm
 refine .sk<|.bN<|.tN<|.sr<|.fA Z iX<|.lD Z bQ Hm Z<|.yw (.eql Z Z)<|.mv Z<|.e2 (λh64=>?_) (λh64=>?_)
 ·refine .gy (.fieldAddr Z iW)<|.gy (.load Z bQ Hm Z)<|.gy (.eql Z Z)<|.pT Z<|.az Z<|?_
  refine yE Z Z (iL ?_)
  (rw [TE (aO4 qW) (cR7 qA),aQ];(try simp only [aW,aE,aB,reduceCtorEq,cO,cI,cP,cH,bC,aM]);omega;done)
 refine .g3<|.pF Z<|.az Z<|?_
 refine yE Z Z (iL ?_)
 (rw [TE (aO4 qW) (cR7 qA),aQ];(try simp only [aW,aE,aB,reduceCtorEq,cO,cI,cP,cH,bC,aM]);omega;done)
theorem VI (op:UInt8):(cK op).ex=if op=3\/op=5\/op=18 then 1 else 0:=pK (q:=λop=>(cK op).ex=if op=3\/op=5\/op=18 then 1 else 0) qS op
theorem ne7 {op:UInt8} (h:op=3\/op=5\/op=18):¬ op=7:=by rcases h with rfl | rfl | rfl <;> decide
theorem aF6 {op:UInt8} {nm:Str} {n:Int64} {args:List Ex} :KA (.mk op nm n args)=(decide ((16:Int)<=((op.toNat:Nat):Int)) && decide (((op.toNat:Nat):Int)<=21) && decide (nm=[]) && decide (n.toInt=0) && (args.all eI && decide (((args.length:Nat):Int)=2))):=by
 rw [JZ,d_n,cC9 2 (i:=2) rfl,show decide ((16:Int)<=((op.toNat:Nat):Int))=decide (16<=op.toNat) from decide_eq_decide.2 aD,show decide (((op.toNat:Nat):Int)<=21)=decide (op.toNat<=21) from decide_eq_decide.2 aD]
theorem cR8 {l:List Ex} {p:Ex->Bool} (h:l.length=2):l.all p=(p l[0] && p l[1]):=by
 match l,h with
 | [x,y],_=>simp
variable {k:Nat}
theorem cB1 {l:List Ex} {p:Ex->Bool} (hk:k<l.length) (hp:p l[k]=false):l.all p=false:=List.all_eq_false.2 ⟨_,aX hk,by rw [hp];decide⟩
variable {n:Nat}
theorem cQ2:decide (((n:Nat):Int)<=4)=decide (n<=4):=decide_eq_decide.2 aD
theorem d_0:decide (((n:Nat):Int)=0)=decide (n=0):=decide_eq_decide.2 aD
theorem BI (H:Hp) (f:Fm) (cs:List Value) (w:World) (h:Rep H (dFm .i64 f) cs) (hA:Agr H w):Calls prg 85 #[.agg cs.toArray] w λr w'=>r=.returned (.bool (vN f))/\Ext w w':=by
 obtain ⟨op,nm,fd,a,b,ex,args⟩:=f;obtain ⟨p1,c1,p2,c2,rfl,hs1,hs2,hnm,hfd⟩:=gK h;have hcap1:=hs1.cap;have hcap2:=hs2.cap;refine Sx.enter (H:=H) func85 rfl ntmps85 rfl hA ?_;refine .sr<|.bx Z Z Z λb1=>.aq Z<|.sq<|.sr<|.fA Z hQ<|.lD Z bQ Hm Z<|.nt<|.bk<|.sr<|.yw (.eql Z Z)<|.aq Z<|.cd Z (λh8=>?_) (λh8=>?_)
 ·have q3:op=3:=aR.1 (by have:=aI h8;show op.toNat=3;omega);refine .sq<|.sr<|.fA Z eZ<|.lD Z fM Hm Z<|.yw (.lenSl fK Z)<|.yw (.neq Z Z)<|.nt<|.ce Z (λh13=>?_) (λh13=>?_)
  ·refine .sr<|.az Z<|.tR<|.bR<|.tR<|?_
   refine yE Z Z (iL ?_);rw [bZ2 (ne7 (.inl q3)) (show ¬ ex.length=(cK op).ex by rw [VI,aK (.inl q3)];omega)]
  obtain ⟨e0,rfl⟩:∃ e0,ex=[e0]:=List.length_eq_one_iff.1 aD;obtain ⟨bX,oX,cX,hpX,rX,lX,mX⟩:=hs1.elem (i:=0) (d:=dEx .i64 e0) rfl;cases hpX;obtain ⟨op0,nm0,m0,args0⟩:=e0;obtain ⟨p0,c0,rfl,hs0,hn0⟩:=eV rX;have hcap0:=hs0.cap;refine .sk<|.tN<|.sr<|.fA Z eZ<|.lD Z fM Hm Z<|.yw (.indexSl fK Z Z (i:=0) Z (Nat.succ_pos _) (q:=oX+0 * 4) Z)<|.yw (.loadMW Z cY mX Z)<|.al gX Z λb3=>.sV .head Z Z eD Z (by simp [Value.oneCell',bJ]) Z<|.ns<|.fA Z eH<|.lD Z bQ Hm Z<|.yw (.geq Z Z)<|.mv Z<|.e2 (λh21=>?_) (λh21=>?_)
  ·refine .gy (.fieldAddr Z eH)<|.gy (.load Z bQ Hm Z)<|.gy (.leq Z Z)<|.pT Z<|.mv Z<|.e2 (λh26=>?_) (λh26=>?_)
   ·refine .gy (.fieldAddr Z jW)<|.gy (.load Z bT Hm Z)<|.gy (.eqS Z Z)<|.pT Z<|.mv Z<|.e2 (λh31=>?_) (λh31=>?_)
    ·refine .gy (.fieldAddr Z mU)<|.gy (.load Z jN Hm Z)<|.gy (.eql Z Z)<|.pT Z<|.mv Z<|.e2 (λh36=>?_) (λh36=>?_)
     ·refine .gy (.fieldAddr Z hI)<|.gy (.load Z fM Hm Z)<|.gy (.lenSl fK Z)<|.gy (.eql Z Z)<|.pT Z<|.mv Z<|.e2 (λh42=>?_) (λh42=>?_)
      ·have hl2:args0.length=2:=aD
       have h0:0<args0.length:=aD
       have h1:1<args0.length:=aD
       obtain ⟨bA,oA,cA,hpA,rA,lA,mA⟩:=hs0.elem (eR (f:=dEx .i64) h0);cases hpA;obtain ⟨bB,oB,cB,hpB,rB,lB,mB⟩:=hs0.elem (eR (f:=dEx .i64) h1);cases hpB;refine .gy (.fieldAddr Z hI)<|.gy (.load Z fM Hm Z)<|.gy (.indexSl fK Z Z (i:=0) Z aD (q:=oA+0 * 4) Z)<|.gy (.loadMW Z cY mA lA)<|.gy (.xl Z (λW s=>AF _ H _ W rA s.agr))<|.pT Z<|.mv Z<|.b2 (λh49=>?_) (λh49=>?_)
       ·try simp only [dt] at h49
        refine .gy (.fieldAddr Z hI)<|.gy (.load Z fM Hm Z)<|.gy (.indexSl fK Z Z (i:=1) Z aD (q:=oA+1 * 4) Z)<|.gy (.loadMW Z cY mB lB)<|.gy (.xl Z (λW s=>AF _ H _ W rB s.agr))<|.pT Z<|.az Z<|.bR<|.tR<|?_
        refine yE Z Z (iL ?_);rw [YR q3,aF6,aG h21,aG h26,aG h31,aG h36,aG h42,cR8 hl2,show eI args0[0]=true by simpa using h49];simp
       try simp only [df] at h49
       refine .g4<|.gG<|.pF Z<|.az Z<|.bR<|.tR<|?_
       refine yE Z Z (iL ?_);rw [YR q3,aF6,aG h21,aG h26,aG h31,aG h36,aG h42,cR8 hl2,show eI args0[0]=false by simpa using h49];simp
      refine .g4<|.gG<|.pF Z<|.mv Z<|.g4<|.gG<|.pF Z<|.az Z<|.bR<|.tR<|?_
      refine yE Z Z (iL ?_);rw [YR q3,aF6,aG h21,aG h26,aG h31,aG h36,aL h42];simp
     refine .g4<|.pF Z<|.mv Z<|.g4<|.gG<|.pF Z<|.mv Z<|.g4<|.gG<|.pF Z<|.az Z<|.bR<|.tR<|?_
     refine yE Z Z (iL ?_);rw [YR q3,aF6,aG h21,aG h26,aG h31,aL h36];simp
    refine .g3<|.pF Z<|.mv Z<|.g4<|.pF Z<|.mv Z<|.g4<|.gG<|.pF Z<|.mv Z<|.g4<|.gG<|.pF Z<|.az Z<|.bR<|.tR<|?_
    refine yE Z Z (iL ?_);rw [YR q3,aF6,aG h21,aG h26,aL h31];simp
   refine .g3<|.pF Z<|.mv Z<|.g3<|.pF Z<|.mv Z<|.g4<|.pF Z<|.mv Z<|.g4<|.gG<|.pF Z<|.mv Z<|.g4<|.gG<|.pF Z<|.az Z<|.bR<|.tR<|?_
   refine yE Z Z (iL ?_);rw [YR q3,aF6,aG h21,aL h26];simp
  refine .g3<|.pF Z<|.mv Z<|.g3<|.pF Z<|.mv Z<|.g3<|.pF Z<|.mv Z<|.g4<|.pF Z<|.mv Z<|.g4<|.gG<|.pF Z<|.mv Z<|.g4<|.gG<|.pF Z<|.az Z<|.bR<|.tR<|?_
  refine yE Z Z (iL ?_);rw [YR q3,aF6,aL h21];simp
 have q3:¬ op=3:=λe=>aJ h8 (by rw [e];rfl);refine .sr<|.yw (.eql Z Z)<|.aq Z<|.cd Z (λh56=>?_) (λh56=>?_)
 ·have q5:op=5:=aR.1 (by have:=aI h56;show op.toNat=5;omega);refine .sr<|.fA Z eZ<|.lD Z fM Hm Z<|.yw (.lenSl fK Z)<|.yw (.eql Z Z)<|.mv Z<|.e2 (λh62=>?_) (λh62=>?_)
  ·obtain ⟨e0,rfl⟩:∃ e0,ex=[e0]:=List.length_eq_one_iff.1 aD;obtain ⟨bX,oX,cX,hpX,rX,lX,mX⟩:=hs1.elem (i:=0) (d:=dEx .i64 e0) rfl;cases hpX;refine .gy (.fieldAddr Z eZ)<|.gy (.load Z fM Hm Z)<|.gy (.indexSl fK Z Z (i:=0) Z (Nat.succ_pos _) (q:=oX+0 * 4) Z)<|.gy (.loadMW Z cY mX lX)<|.gy (.xl Z (λW s=>AF _ H _ W rX s.agr))<|.pT Z<|.az Z<|.bR<|.tR<|?_
   refine yE Z Z (iL ?_);rw [cP8 q5]
  refine .g4<|.gG<|.pF Z<|.az Z<|.bR<|.tR<|?_
  refine yE Z Z (iL ?_);rw [bZ2 (ne7 (.inr (.inl q5))) (show ¬ ex.length=(cK op).ex by rw [VI,aK (.inr (.inl q5))];omega)]
 have q5:¬ op=5:=λe=>aJ h56 (by rw [e];rfl);refine .sr<|.yw (.eql Z Z)<|.aq Z<|.cd Z (λh69=>?_) (λh69=>?_)
 ·have q7:op=7:=aR.1 (by have:=aI h69;show op.toNat=7;omega);refine .sq<|.sr<|.fA Z eZ<|.lD Z fM Hm Z<|.yw (.lenSl fK Z)<|.mv Z<|.nt<|.bk<|.lp (X:=Nat) [(1,_),(72,_),(73,_)] ⟨Z,Z,Z,Jt⟩ [_] (λk=>[(74,iN k)]) (λk=>H) (λk=>[]) (λk=>k<=ex.length/\(ex.take k).all (λe=>CM e || eI e)=true) (λk=>ex.length - k) 0 (λ_ s=>s) ⟨Z,Jt⟩ ⟨aN _,Z⟩ λk hC=>?_
  obtain ⟨hk0,hal⟩:=hC;refine .sr<|.yw (.lss Z Z)<|.nt<|.sq<|.ce Z (λh75=>?_) (λh75=>?_)
  ·have hk:k<ex.length:=aD
   obtain ⟨bE,oE,cE,hpE,rE,lE,mE⟩:=hs1.elem (eR (f:=dEx .i64) hk);cases hpE;refine .sk<|.tN<|.sq<|.bk<|.sr<|.yw (.indexSl fK Z Z Z aD (q:=oE+k * 4) Z)<|.yw (.loadMW Z cY mE lE)<|.al gX Z λb5=>.sV .head Z Z eD lE rE.one Z<|.ns<|.yw (.loadW Z cY Hm lE)<|.yw (.xl Z (λW s=>NY H _ _ W rE s.agr))<|.yw (.not Z)<|.mv Z<|.b2 (λh81=>?_) (λh81=>?_)
   ·try simp only [dt] at h81
    refine .gy (.loadW Z cY Hm lE)<|.gy (.xl Z (λW s=>AF _ H _ W rE s.agr))<|.gy (.not Z)<|.pT Z<|.nt<|.cd Z (λh85=>?_) (λh85=>?_)
    ·refine .sr<|.az Z<|.bR<|.tR<|.tR<|.bR<|.tR<|.bR<|.tR<|?_
     refine yE Z Z (iL ?_);rw [bZ3 q7,cB1 hk (by rw [show CM ex[k]=false by simpa using h81,show eI ex[k]=false by simpa using h85];rfl)];simp
    exact .sk<|.bN<|.tN<|.rg<|.yw (.add Z Z w7)<|.mv Z<|.nt<|.ag (k+1) ⟨Z,Jt⟩ ⟨Z,Z,Z,Jt⟩ (λ_ s=>s.pick [1] [_] Z Z) ⟨aD,IL hk hal (by rw [show eI ex[k]=true by simpa using h85,Bool.or_true])⟩ aD
   try simp only [df] at h81
   exact .g3<|.pF Z<|.nt<|.cF Z<|.sk<|.bN<|.tN<|.rg<|.yw (.add Z Z w7)<|.mv Z<|.nt<|.ag (k+1) ⟨Z,Jt⟩ ⟨Z,Z,Z,Jt⟩ (λ_ s=>s.pick [1] [_] Z Z) ⟨aD,IL hk hal (by rw [show CM ex[k]=true by simpa using h81];rfl)⟩ aD
  obtain rfl:k=ex.length:=aD
  rw [bW] at hal;refine .ex<|.eb<|.sr<|.fA Z eZ<|.lD Z fM Hm Z<|.yw (.lenSl fK Z)<|.yw (.leq Z Z)<|.az Z<|.bR<|.tR<|?_
  refine yE Z Z (iL ?_);rw [bZ3 q7,hal,cW];exact cQ2
 have q7:¬ op=7:=λe=>aJ h69 (by rw [e];rfl);refine .sr<|.yw (.eql Z Z)<|.aq Z<|.cd Z (λh91=>?_) (λh91=>?_)
 ·have q18:op=18:=aR.1 (by have:=aI h91;show op.toNat=18;omega);refine .sr<|.fA Z eZ<|.lD Z fM Hm Z<|.yw (.lenSl fK Z)<|.yw (.eql Z Z)<|.mv Z<|.e2 (λh97=>?_) (λh97=>?_)
  ·obtain ⟨e0,rfl⟩:∃ e0,ex=[e0]:=List.length_eq_one_iff.1 aD;obtain ⟨bX,oX,cX,hpX,rX,lX,mX⟩:=hs1.elem (i:=0) (d:=dEx .i64 e0) rfl;cases hpX;obtain ⟨op0,nm0,m0,args0⟩:=e0;obtain ⟨p0,c0,rfl,hs0,hn0⟩:=eV rX;have hcap0:=hs0.cap;refine .gy (.fieldAddr Z eZ)<|.gy (.load Z fM Hm Z)<|.gy (.indexSl fK Z Z (i:=0) Z (Nat.succ_pos _) (q:=oX+0 * 4) Z)<|.gy (.fieldAddr Z eH)<|.gy (.loadM Z bQ mX (k:=0) Z Z)<|.gy (.eql Z Z)<|.pT Z<|.mv Z<|.e2 (λh105=>?_) (λh105=>?_)
   ·refine .gy (.fieldAddr Z eZ)<|.gy (.load Z fM Hm Z)<|.gy (.indexSl fK Z Z (i:=0) Z (Nat.succ_pos _) (q:=oX+0 * 4) Z)<|.gy (.loadMW Z cY mX Z)<|.gy (.xl Z (λW s=>AF _ H _ W rX s.agr))<|.pT Z<|.mv Z<|.b2 (λh112=>?_) (λh112=>?_)
    ·try simp only [dt] at h112
     refine .gy (.fieldAddr Z eZ)<|.gy (.load Z fM Hm Z)<|.gy (.indexSl fK Z Z (i:=0) Z (Nat.succ_pos _) (q:=oX+0 * 4) Z)<|.gy (.fieldAddr Z mU)<|.gy (.loadM Z jN mX (k:=2) Z Z)<|.gy (.leq Z Z)<|.pT Z<|.az Z<|.bR<|.tR<|?_
     refine yE Z Z (iL ?_);rw [SN q18,aG h105,show eI (.mk op0 nm0 m0 args0)=true by simpa using h112];simp
    try simp only [df] at h112
    refine .g4<|.g2<|.pF Z<|.az Z<|.bR<|.tR<|?_
    refine yE Z Z (iL ?_);rw [SN q18,aG h105,show eI (.mk op0 nm0 m0 args0)=false by simpa using h112];simp
   refine .g4<|.gG<|.pF Z<|.mv Z<|.g4<|.g2<|.pF Z<|.az Z<|.bR<|.tR<|?_
   refine yE Z Z (iL ?_);rw [SN q18,aL h105];simp
  refine .g4<|.g2<|.pF Z<|.mv Z<|.g4<|.gG<|.pF Z<|.mv Z<|.g4<|.g2<|.pF Z<|.az Z<|.bR<|.tR<|?_
  refine yE Z Z (iL ?_);rw [bZ2 (ne7 (.inr (.inr q18))) (show ¬ ex.length=(cK op).ex by rw [VI,aK (.inr (.inr q18))];omega)]
 have q18:¬ op=18:=λe=>aJ h91 (by rw [e];rfl);refine .sk<|.bN<|.tN<|.sr<|.fA Z eZ<|.lD Z fM Hm Z<|.yw (.lenSl fK Z)<|.yw (.eql Z Z)<|.az Z<|?_
 refine yE Z Z (iL ?_);rw [aS7 q7,aA q3,aA q5,aA q18,cW,VI,aA (by rintro (h | h | h);exact q3 h;exact q5 h;exact q18 h)];exact d_0
theorem bC4 (op:UInt8):rfF op.toNat=fdF op:=pK (q:=λop=>rfF op.toNat=fdF op) qS op
theorem cO0 (op:UInt8) (n:Nat):(decide (¬ (cK op).lv=0) && decide (n=(cK op).ar))=decide (opI op.toNat=((n:Nat):Int)):=by
 have e:bD9 op=opI op.toNat:=rfl;rw [<-e];rcases cJ1 op with ⟨h1,h2⟩ | ⟨h1,h2⟩
 ·rw [aG h1,h2,aO,decide_eq_decide];omega
 ·rw [h1,h2,aL (show ¬ (-1:Int)=(n:Nat) by omega)];rfl
variable {a:Int64}
theorem CG {op:UInt8} {nm fd:Str} {b:Int64} {ex:List Ex} {args:List Fm} :jJ (.mk op nm fd a b ex args)=(decide (opI op.toNat=((args.length:Nat):Int)) && (rfN op.toNat || decide (nm=[])) && (rfF op.toNat || decide (fd=[])) && vN (.mk op nm fd a b ex args) && DU (.mk op nm fd a b ex args)):=by
 rw [MR,<-cO0,cC7,cC8,bC4,show rfN op.toNat=fdN op from rfl];generalize fdN op=x1;generalize fdF op=x2;generalize decide (nm=[])=x3;generalize decide (fd=[])=x4;generalize vN _=x5;generalize DU _=x6;generalize decide (¬ (cK op).lv=0)=x7;generalize decide (args.length=(cK op).ar)=x8;cases x1 <;> cases x2 <;> cases x3 <;> cases x4 <;> cases x5 <;> cases x6 <;> cases x7 <;> cases x8 <;> rfl
theorem aP9 (f:Fm):∀ (H:Hp) (cs:List Value) (w:World),Rep H (dFm .i64 f) cs->Agr H w->Calls prg 42 #[.agg cs.toArray] w λr w'=>r=.returned (.bool (Fm.all jJ f))/\Ext w w':=by
 induction f using Fm.ind with | _ op nm fd a b ex args ih
 intro H cs w h hA;obtain ⟨p1,c1,p2,c2,rfl,hs1,hs2,hnm,hfd⟩:=gK h;have hcap1:=hs1.cap;have hcap2:=hs2.cap;refine Sx.enter (H:=H) func42 rfl ntmps42 rfl hA ?_;refine .sr<|.bx Z Z Z λb1=>.a Z Z<|.ns<|.fA Z hQ<|.lD Z bQ Hm Z<|.yw (.xl Z (λW s=>PB H op.toNat W s.agr))<|.mv Z<|.yw (.extract Z Z)<|.yw (.extract Z Z)<|.a Z Z<|.aq Z<|.sq<|.cu (X:=Bool) [(1,_)] ⟨Z,Jt⟩ (λz9=>[(47,.bool z9)]) (λz9=>H) (λz9=>[.box b1 [.int .i64 op.toNat,bJ nm,bJ fd,.int .i64 a.toInt,.int .i64 b.toInt,.slice p1 ex.length c1,.slice p2 args.length c2] 27]) (λz9=>z9=!jJ (.mk op nm fd a b ex args)) ?_ λz9 hC=>?_
 ·
  refine .fL 34 [(0,0),(1,0),(2,0),(3,0),(4,0),(5,0),(6,0),(7,0),(8,0),(9,0),(10,0),(11,0),(12,0),(13,0),(14,0),(15,0),(16,0),(17,0),(18,0),(19,0),(20,0),(21,0),(22,0),(23,0),(24,0),(25,0),(26,0),(27,0),(28,0),(29,0),(30,0),(31,0),(32,0),(33,0)]<|.fA Z hQ<|.lD Z bQ Hm Z<|.yw (.xl Z (λW s=>aQ3 _ op.toNat W s.agr))<|.fA Z jL<|.lD Z qR Hm Z<|.yw (.lenSl oI Z)<|.yw (.neq Z Z)<|.mv Z<|.e2 (λh20=>?_) (λh20=>?_)
  ·exact .g3<|.gV<|.gV<|.gV<|.gG<|.pT Z<|.mv Z<|.g3<|.gV<|.gV<|.gV<|.gG<|.pT Z<|.mv Z<|.g3<|.pT Z<|.mv Z<|.g3<|.fn (tl:=[_]) Z<|.pT Z<|.nt<|.me _ ⟨Z,Jt⟩ ⟨Z,Jt⟩ (λ_ s=>s) (by rw [CG,aL h20];simp)
  refine .yg Z Z (.move Z) Z<|.yg Z Z (.not Z) Z<|.yg Z Z (.move Z) Z<|.b2 (λh23=>?_) (λh23=>?_)
  ·try simp only [dt] at h23
   refine .yg Z Z (.fieldAddr Z oL) Z<|.yg Z Z (.load Z bT Hm Z) Z<|.yg Z Z (.neS Z Z) Z<|.yg Z Z (.pickT Z Z) Z<|.pF Z<|.mv Z<|.e2 (λh29=>?_) (λh29=>?_)
   ·exact .g3<|.gV<|.gV<|.gV<|.gG<|.pT Z<|.mv Z<|.g3<|.pT Z<|.mv Z<|.g3<|.fn (tl:=[_]) Z<|.pT Z<|.nt<|.me _ ⟨Z,Jt⟩ ⟨Z,Jt⟩ (λ_ s=>s) (by rw [CG,aG (bP.1 h20),show rfN op.toNat=false by simpa using h23,aL h29];simp)
   refine .yg Z Z (.move Z) Z<|.yg Z Z (.not Z) Z<|.yg Z Z (.move Z) Z<|.b2 (λh32=>?_) (λh32=>?_)
   ·try simp only [dt] at h32
    refine .yg Z Z (.fieldAddr Z oK) Z<|.yg Z Z (.load Z bT Hm Z) Z<|.yg Z Z (.neS Z Z) Z<|.yg Z Z (.pickT Z Z) Z<|.pF Z<|.mv Z<|.b2 (λh38=>?_) (λh38=>?_)
    ·try simp only [dt] at h38
     exact .g3<|.pT Z<|.mv Z<|.g3<|.fn (tl:=[_]) Z<|.pT Z<|.nt<|.me _ ⟨Z,Jt⟩ ⟨Z,Jt⟩ (λ_ s=>s) (by rw [CG,aG (bP.1 h20),show rfN op.toNat=false by simpa using h23,aG (bP.1 h29),show rfF op.toNat=false by simpa using h32,aL h38];simp)
    try simp only [df] at h38
    refine .yg Z Z (.loadW Z dP Hm Z) Z<|.yg Z Z (.xl Z (λW s=>BI H (.mk op nm fd a b ex args) _ W h s.agr)) Z<|.yg Z Z (.not Z) Z<|.pF Z<|.mv Z<|.b2 (λh43=>?_) (λh43=>?_)
    ·try simp only [dt] at h43
     exact .g3<|.fn (tl:=[_]) Z<|.pT Z<|.nt<|.me _ ⟨Z,Jt⟩ ⟨Z,Jt⟩ (λ_ s=>s) (by rw [CG,aG (bP.1 h20),show rfN op.toNat=false by simpa using h23,aG (bP.1 h29),show rfF op.toNat=false by simpa using h32,aG (bP.1 h38),show vN (.mk op nm fd a b ex args)=false by simpa using h43];simp)
    try simp only [df] at h43
    exact .yg Z Z (.loadW Z dP Hm Z) Z<|.yg Z Z (.xl Z (λW s=>zH H (.mk op nm fd a b ex args) _ W h s.agr)) Z<|.yg Z Z (.not Z) Z<|.fn (tl:=[_]) Z<|.pF Z<|.nt<|.me _ ⟨Z,Jt⟩ ⟨Z,Jt⟩ (λ_ s=>s) (by rw [CG,aG (bP.1 h20),show rfN op.toNat=false by simpa using h23,aG (bP.1 h29),show rfF op.toNat=false by simpa using h32,aG (bP.1 h38),show vN (.mk op nm fd a b ex args)=true by simpa using h43];simp)
   try simp only [df] at h32
   refine .g3<|.yg Z Z (.pickF Z Z) Z<|.pF Z<|.mv Z<|.yg Z Z (.loadW Z dP Hm Z) Z<|.yg Z Z (.xl Z (λW s=>BI H (.mk op nm fd a b ex args) _ W h s.agr)) Z<|.yg Z Z (.not Z) Z<|.pF Z<|.mv Z<|.b2 (λh43=>?_) (λh43=>?_)
   ·try simp only [dt] at h43
    exact .g3<|.fn (tl:=[_]) Z<|.pT Z<|.nt<|.me _ ⟨Z,Jt⟩ ⟨Z,Jt⟩ (λ_ s=>s) (by rw [CG,aG (bP.1 h20),show rfN op.toNat=false by simpa using h23,aG (bP.1 h29),show rfF op.toNat=true by simpa using h32,show vN (.mk op nm fd a b ex args)=false by simpa using h43];simp)
   try simp only [df] at h43
   exact .yg Z Z (.loadW Z dP Hm Z) Z<|.yg Z Z (.xl Z (λW s=>zH H (.mk op nm fd a b ex args) _ W h s.agr)) Z<|.yg Z Z (.not Z) Z<|.fn (tl:=[_]) Z<|.pF Z<|.nt<|.me _ ⟨Z,Jt⟩ ⟨Z,Jt⟩ (λ_ s=>s) (by rw [CG,aG (bP.1 h20),show rfN op.toNat=false by simpa using h23,aG (bP.1 h29),show rfF op.toNat=true by simpa using h32,show vN (.mk op nm fd a b ex args)=true by simpa using h43];simp)
  try simp only [df] at h23
  refine .g3<|.yg Z Z (.pickF Z Z) Z<|.pF Z<|.mv Z<|.yg Z Z (.move Z) Z<|.yg Z Z (.not Z) Z<|.yg Z Z (.move Z) Z<|.b2 (λh32=>?_) (λh32=>?_)
  ·try simp only [dt] at h32
   refine .yg Z Z (.fieldAddr Z oK) Z<|.yg Z Z (.load Z bT Hm Z) Z<|.yg Z Z (.neS Z Z) Z<|.yg Z Z (.pickT Z Z) Z<|.pF Z<|.mv Z<|.b2 (λh38=>?_) (λh38=>?_)
   ·try simp only [dt] at h38
    exact .g3<|.pT Z<|.mv Z<|.g3<|.fn (tl:=[_]) Z<|.pT Z<|.nt<|.me _ ⟨Z,Jt⟩ ⟨Z,Jt⟩ (λ_ s=>s) (by rw [CG,aG (bP.1 h20),show rfN op.toNat=true by simpa using h23,show rfF op.toNat=false by simpa using h32,aL h38];simp)
   try simp only [df] at h38
   refine .yg Z Z (.loadW Z dP Hm Z) Z<|.yg Z Z (.xl Z (λW s=>BI H (.mk op nm fd a b ex args) _ W h s.agr)) Z<|.yg Z Z (.not Z) Z<|.pF Z<|.mv Z<|.b2 (λh43=>?_) (λh43=>?_)
   ·try simp only [dt] at h43
    exact .g3<|.fn (tl:=[_]) Z<|.pT Z<|.nt<|.me _ ⟨Z,Jt⟩ ⟨Z,Jt⟩ (λ_ s=>s) (by rw [CG,aG (bP.1 h20),show rfN op.toNat=true by simpa using h23,show rfF op.toNat=false by simpa using h32,aG (bP.1 h38),show vN (.mk op nm fd a b ex args)=false by simpa using h43];simp)
   try simp only [df] at h43
   exact .yg Z Z (.loadW Z dP Hm Z) Z<|.yg Z Z (.xl Z (λW s=>zH H (.mk op nm fd a b ex args) _ W h s.agr)) Z<|.yg Z Z (.not Z) Z<|.fn (tl:=[_]) Z<|.pF Z<|.nt<|.me _ ⟨Z,Jt⟩ ⟨Z,Jt⟩ (λ_ s=>s) (by rw [CG,aG (bP.1 h20),show rfN op.toNat=true by simpa using h23,show rfF op.toNat=false by simpa using h32,aG (bP.1 h38),show vN (.mk op nm fd a b ex args)=true by simpa using h43];simp)
  try simp only [df] at h32
  refine .g3<|.yg Z Z (.pickF Z Z) Z<|.pF Z<|.mv Z<|.yg Z Z (.loadW Z dP Hm Z) Z<|.yg Z Z (.xl Z (λW s=>BI H (.mk op nm fd a b ex args) _ W h s.agr)) Z<|.yg Z Z (.not Z) Z<|.pF Z<|.mv Z<|.b2 (λh43=>?_) (λh43=>?_)
  ·try simp only [dt] at h43
   exact .g3<|.fn (tl:=[_]) Z<|.pT Z<|.nt<|.me _ ⟨Z,Jt⟩ ⟨Z,Jt⟩ (λ_ s=>s) (by rw [CG,aG (bP.1 h20),show rfN op.toNat=true by simpa using h23,show rfF op.toNat=true by simpa using h32,show vN (.mk op nm fd a b ex args)=false by simpa using h43];simp)
  try simp only [df] at h43
  exact .yg Z Z (.loadW Z dP Hm Z) Z<|.yg Z Z (.xl Z (λW s=>zH H (.mk op nm fd a b ex args) _ W h s.agr)) Z<|.yg Z Z (.not Z) Z<|.fn (tl:=[_]) Z<|.pF Z<|.nt<|.me _ ⟨Z,Jt⟩ ⟨Z,Jt⟩ (λ_ s=>s) (by rw [CG,aG (bP.1 h20),show rfN op.toNat=true by simpa using h23,show rfF op.toNat=true by simpa using h32,show vN (.mk op nm fd a b ex args)=true by simpa using h43];simp)
 have e9:=hC;refine .cd Z (λh47=>?_) (λh47=>?_)
 ·have hf:jJ (.mk op nm fd a b ex args)=false:=by rw [h47] at e9;simpa using e9.symm
  refine .sr<|.az Z<|.tR<|?_
  refine yE Z Z (iL ?_)
  (rw [kF,hf];rfl;done)
 have hf:jJ (.mk op nm fd a b ex args)=true:=by rw [h47] at e9;simpa using e9.symm
 refine .sk<|.tN<|.sq<|.sr<|.fA Z jL<|.lD Z qR Hm Z<|.yw (.lenSl oI Z)<|.mv Z<|.nt<|.bk<|.lp (X:=Nat) [(49,_),(50,_)] ⟨Z,Z,Jt⟩ [_] (λk=>[(51,iN k)]) (λk=>H) (λk=>[]) (λk=>k<=args.length/\(args.take k).all (Fm.all jJ)=true) (λk=>args.length - k) 0 (λ_ s=>s) ⟨Z,Jt⟩ ⟨aN _,Z⟩ λk hC=>?_
 obtain ⟨hk0,hal⟩:=hC;refine .sr<|.yw (.lss Z Z)<|.nt<|.sq<|.ce Z (λh52=>?_) (λh52=>?_)
 ·have hk:k<args.length:=aD
  obtain ⟨bF,oF,cF,hpF,rF,lF,mF⟩:=hs2.elem (eR (f:=dFm .i64) hk);cases hpF;refine .sk<|.tN<|.sq<|.bk<|.sr<|.yw (.indexSl oI Z Z Z aD (q:=oF+k * 7) Z)<|.yw (.loadMW Z dP mF lF)<|.al lH Z λb6=>.sV .head Z Z gC lF rF.one Z<|.ns<|.yw (.loadW Z dP Hm lF)<|.yw (.xl Z (λW s=>ih _ (aX hk) H cF W rF s.agr))<|.yw (.not Z)<|.nt<|.cd Z (λh57=>?_) (λh57=>?_)
  ·refine .sr<|.az Z<|.bR<|.tR<|.tR<|.bR<|.tR<|?_
   refine yE Z Z (iL ?_)
   (rw [kF,MZ hk (by simpa using h57)];simp;done)
  exact .sk<|.bN<|.tN<|.rg<|.yw (.add Z Z w7)<|.mv Z<|.nt<|.ag (k+1) ⟨Z,Jt⟩ ⟨Z,Z,Jt⟩ (λ_ s=>s.pick [1] [_] Z Z) ⟨aD,ES hk hal (by simpa using h57)⟩ aD
 obtain rfl:k=args.length:=aD
 rw [bW] at hal;refine .ex<|.eb<|.sr<|.az Z<|?_
 refine yE Z Z (iL ?_)
 (rw [kF,hf,hal];rfl;done)
def dpB (op:UInt8) (e:Ex):Bool:=decide (9<e.depth) || (decide (8<e.depth) && !decide (op=3))
theorem dpI {op:UInt8} {e:Ex} :dpB op e=(decide ((9:Int)<((e.depth:Nat):Int)) || (decide ((8:Int)<((e.depth:Nat):Int)) && decide (¬ ((op.toNat:Nat):Int)=3))):=by
 unfold dpB;rw [decide_not,<-BR 3 (i:=3) aS rfl,show decide ((9:Int)<((e.depth:Nat):Int))=decide (9<e.depth) from decide_eq_decide.2 aD,show decide ((8:Int)<((e.depth:Nat):Int))=decide (8<e.depth) from decide_eq_decide.2 aD];rfl
theorem aJ9 {op:UInt8} {nm fd:Str} {b:Int64} {ex:List Ex} {args:List Fm} :rM (.mk op nm fd a b ex args)=!ex.any (dpB op):=by
 have h:=aS9 (.mk op nm fd a b ex args);have e:bL0 (.mk op nm fd a b ex args)=ex.any (dpB op):=rfl;rw [<-e,h,Bool.not_not]
theorem bC2 {op:UInt8} {nm fd:Str} {b:Int64} {ex:List Ex} {args:List Fm} (hk:k<ex.length) (h:dpB op ex[k]=true):rM (.mk op nm fd a b ex args)=false:=by rw [aJ9,aG5 hk h];rfl
theorem cF2 {op:UInt8} {nm fd:Str} {b:Int64} {ex:List Ex} {args:List Fm} (h:ex.any (dpB op)=false):rM (.mk op nm fd a b ex args)=true:=by rw [aJ9,h];rfl
theorem bW5 {e:Ex} (h:gdE e=true):e.depth<=34:=by
 unfold gdE at h;rw [aE,aB] at h;exact h.1
theorem aQ2 (f:Fm):gdF f=true->∀ (H:Hp) (cs:List Value) (w:World),Rep H (dFm .i64 f) cs->Agr H w->Calls prg 40 #[.agg cs.toArray] w λr w'=>r=.returned (.bool (!Fm.all rM f))/\Ext w w':=by
 induction f using Fm.ind with | _ op nm fd a b ex args ih
 intro hgd H cs w h hA;obtain ⟨⟨hop,hexl,hal3,hge⟩,hga⟩:=JP.1 hgd;obtain ⟨p1,c1,p2,c2,rfl,hs1,hs2,hnm,hfd⟩:=gK h;have hcap1:=hs1.cap;have hcap2:=hs2.cap;refine Sx.enter (H:=H) func40 rfl ntmps40 rfl hA ?_;refine .sr<|.bx Z Z Z λb1=>.aq Z<|.sq<|.sr<|.fA Z eZ<|.lD Z fM Hm Z<|.yw (.lenSl fK Z)<|.mv Z<|.nt<|.bk<|.lp (X:=Nat) [(1,_),(8,_),(9,_)] ⟨Z,Z,Z,Jt⟩ [_] (λk=>[(10,iN k)]) (λk=>H) (λk=>[]) (λk=>k<=ex.length/\(ex.take k).any (dpB op)=false) (λk=>ex.length - k) 0 (λ_ s=>s) ⟨Z,Jt⟩ ⟨aN _,Z⟩ λk hC=>?_
 obtain ⟨hk0,hal⟩:=hC;refine .sr<|.yw (.lss Z Z)<|.nt<|.sq<|.ce Z (λh11=>?_) (λh11=>?_)
 ·have hk:k<ex.length:=aD
  obtain ⟨bE,oE,cE,hpE,rE,lE,mE⟩:=hs1.elem (eR (f:=dEx .i64) hk);cases hpE;have hdp:=bW5 (hge _ (aX hk));refine .sk<|.tN<|.sq<|.bk<|.sr<|.yw (.indexSl fK Z Z Z aD (q:=oE+k * 4) Z)<|.yw (.loadMW Z cY mE lE)<|.al gX Z λb4=>.sV .head Z Z eD lE rE.one Z<|.ns<|.yw (.loadW Z cY Hm lE)<|.yw (.xl Z (λW s=>CU _ H _ W rE aD s.agr))<|.yw (.gtr Z Z)<|.mv Z<|.e2 (λh17=>?_) (λh17=>?_)
  ·refine .g4<|.gV<|.gV<|.gV<|.gG<|.pT Z<|.nt<|.cT Z<|.sr<|.az Z<|.bR<|.tR<|.tR<|.bR<|.tR<|?_
   refine yE Z Z (iL ?_);rw [kF,bC2 hk (by rw [dpI,aG h17];rfl)];rfl
  refine .gy (.loadW Z cY Hm lE)<|.gy (.xl Z (λW s=>CU _ H _ W rE aD s.agr))<|.gy (.gtr Z Z)<|.gy (.move Z)<|.e2 (λh21=>?_) (λh21=>?_)
  ·refine .gy (.fieldAddr Z hQ)<|.gy (.load Z bQ cU Z)<|.gy (.neq Z Z)<|.gy (.pickT Z Z)<|.pF Z<|.nt<|.ce Z (λh26=>?_) (λh26=>?_)
   ·refine .sr<|.az Z<|.bR<|.tR<|.tR<|.bR<|.tR<|?_
    refine yE Z Z (iL ?_);rw [kF,bC2 hk (by rw [dpI,aL h17,aG h21,aG h26];rfl)];rfl
   exact .sk<|.bN<|.tN<|.rg<|.yw (.add Z Z w7)<|.mv Z<|.nt<|.ag (k+1) ⟨Z,Jt⟩ ⟨Z,Z,Z,Jt⟩ (λ_ s=>s.pick [1] [_] Z Z) ⟨aD,DW hk hal (by rw [dpI,aL h17,aG h21,aL h26];rfl)⟩ aD
  exact .g3<|.gy (.pickF Z Z)<|.pF Z<|.nt<|.cF Z<|.sk<|.bN<|.tN<|.rg<|.yw (.add Z Z w7)<|.mv Z<|.nt<|.ag (k+1) ⟨Z,Jt⟩ ⟨Z,Z,Z,Jt⟩ (λ_ s=>s.pick [1] [_] Z Z) ⟨aD,DW hk hal (by rw [dpI,aL h17,aL h21];rfl)⟩ aD
 obtain rfl:k=ex.length:=aD
 rw [bW] at hal;have hno:=hal;refine .ex<|.eb<|.sq<|.sr<|.fA Z jL<|.lD Z qR Hm Z<|.yw (.lenSl oI Z)<|.mv Z<|.nt<|.bk<|.lp (X:=Nat) [(29,_),(30,_)] ⟨Z,Z,Jt⟩ [_] (λk2=>[(31,iN k2)]) (λk2=>H) (λk2=>[]) (λk2=>k2<=args.length/\(args.take k2).all (Fm.all rM)=true) (λk2=>args.length - k2) 0 (λ_ s=>s) ⟨Z,Jt⟩ ⟨aN _,Z⟩ λk2 hC=>?_
 obtain ⟨hk20,hal2⟩:=hC;refine .sr<|.yw (.lss Z Z)<|.nt<|.sq<|.ce Z (λh32=>?_) (λh32=>?_)
 ·have hk2:k2<args.length:=aD
  obtain ⟨bF,oF,cF,hpF,rF,lF,mF⟩:=hs2.elem (eR (f:=dFm .i64) hk2);cases hpF;refine .sk<|.tN<|.sq<|.bk<|.sr<|.yw (.indexSl oI Z Z Z aD (q:=oF+k2 * 7) Z)<|.yw (.loadMW Z dP mF lF)<|.al lH Z λb6=>.sV .head Z Z gC lF rF.one Z<|.ns<|.yw (.loadW Z dP Hm lF)<|.yw (.xl Z (λW s=>ih _ (aX hk2) (hga _ (aX hk2)) H cF W rF s.agr))<|.nt<|.cd Z (λh36=>?_) (λh36=>?_)
  ·refine .sr<|.az Z<|.bR<|.tR<|.tR<|.bR<|.tR<|?_
   refine yE Z Z (iL ?_);rw [kF,MZ hk2 (by simpa using h36)];simp
  exact .sk<|.bN<|.tN<|.rg<|.yw (.add Z Z w7)<|.mv Z<|.nt<|.ag (k2+1) ⟨Z,Jt⟩ ⟨Z,Z,Jt⟩ (λ_ s=>s.pick [1] [_] Z Z) ⟨aD,ES hk2 hal2 (by simpa using h36)⟩ aD
 obtain rfl:k2=args.length:=aD
 rw [bW] at hal2;refine .ex<|.eb<|.sr<|.az Z<|?_
 refine yE Z Z (iL ?_);rw [kF,cF2 hno,hal2];rfl
theorem cH4 {op:UInt8} {nm:Str} {n:Int64} {args:List Ex} :oT (.mk op nm n args)=(!tnB op nm || args.any oT):=by rw [aK5,aZ3]
theorem cM7 {op:UInt8} {nm:Str} (h:(decide (((op.toNat:Nat):Int)=5) || decide (((op.toNat:Nat):Int)=6) || decide (((op.toNat:Nat):Int)=8))=false):tnB op nm=true:=by
 rw [<-BR 5 (i:=5) aS rfl,<-BR 6 (i:=6) aS rfl,<-BR 8 (i:=8) aS rfl] at h;simp only [mK,eE] at h;unfold tnB;rw [aA (by rintro (e | e | e);exact h.1.1 e;exact h.1.2 e;exact h.2 e)]
theorem tnI {op:UInt8} {nm:Str} (h:(decide (((op.toNat:Nat):Int)=5) || decide (((op.toNat:Nat):Int)=6) || decide (((op.toNat:Nat):Int)=8))=true):tnB op nm=if (eN nm).isSome then gL (spA nm) && gL (spB nm) else decide (((op.toNat:Nat):Int)=5) && gL nm:=by
 rw [<-BR 5 (i:=5) aS rfl,<-BR 6 (i:=6) aS rfl,<-BR 8 (i:=8) aS rfl] at h;simp only [aW,aB] at h;unfold tnB spA spB;rw [aK (by rcases h with (e | e) | e;exact .inl e;exact .inr (.inl e);exact .inr (.inr e)),<-BR 5 (i:=5) aS rfl];cases eN nm with
 | none=>rfl
 | some x=>rfl
theorem QE (e:Ex):∀ (H:Hp) (cs:List Value) (w:World),Rep H (dEx .i64 e) cs->Agr H w->Calls prg 84 #[.agg cs.toArray] w λr w'=>r=.returned (.bool (!oT e))/\Ext w w':=by
 induction e using Ex.ind with | _ op nm nn args ih
 intro H cs w h hA;obtain ⟨pp,c,rfl,hs,hnm⟩:=eV h;have hcap:=hs.cap;have hsa:=MD nm;have hsb:=MC nm;refine Sx.enter (H:=H) func84 rfl ntmps84 rfl hA ?_;refine .sr<|.bx Z Z Z λb1=>.aq Z<|.cu (X:=Unit) [(1,_)] ⟨Z,Jt⟩ (λu=>[]) (λu=>H) (λu=>[.box b1 [.int .i64 op.toNat,bJ nm,.int .i64 nn.toInt,.slice pp args.length c] 83]) (λu=>tnB op nm=true) ?_ λu hC=>?_
 ·
  refine .cu (X:=Bool) [(1,_)] ⟨Z,Jt⟩ (λz2=>[(20,.bool z2)]) (λz2=>H) (λz2=>[.box b1 [.int .i64 op.toNat,bJ nm,.int .i64 nn.toInt,.slice pp args.length c] 83]) (λz2=>z2=(decide (((op.toNat:Nat):Int)=5) || decide (((op.toNat:Nat):Int)=6) || decide (((op.toNat:Nat):Int)=8))) ?_ λz2 hC=>?_
  ·
   refine .rg<|.fA Z eH<|.lD Z bQ Hm Z<|.yw (.eql Z Z)<|.mv Z<|.e2 (λh11=>?_) (λh11=>?_)
   ·exact .g3<|.pT Z<|.mv Z<|.g3<|.pT Z<|.nt<|.me _ ⟨Z,Jt⟩ ⟨Z,Jt⟩ (λ_ s=>s) (by rw [aG h11];rfl)
   refine .gy (.fieldAddr Z eH)<|.gy (.load Z bQ Hm Z)<|.gy (.eql Z Z)<|.pF Z<|.mv Z<|.e2 (λh16=>?_) (λh16=>?_)
   ·exact .g3<|.pT Z<|.nt<|.me _ ⟨Z,Jt⟩ ⟨Z,Jt⟩ (λ_ s=>s) (by rw [aL h11,aG h16];rfl)
   exact .gy (.fieldAddr Z eH)<|.gy (.load Z bQ Hm Z)<|.gy (.eql Z Z)<|.pF Z<|.nt<|.me _ ⟨Z,Jt⟩ ⟨Z,Jt⟩ (λ_ s=>s) (by rw [aL h11,aL h16];rfl)
  have e2:=hC;refine .cd Z (λh20=>?_) (λh20=>?_)
  ·have q20:(decide (((op.toNat:Nat):Int)=5) || decide (((op.toNat:Nat):Int)=6) || decide (((op.toNat:Nat):Int)=8))=true:=by rw [h20] at e2;exact e2.symm
   refine .sr<|.fA Z jW<|.lD Z bT Hm Z<|.yw (.xl (v:=spV nm) Z (λW s=>aB9 H nm aD W s.agr))<|.mv Z<|.yw (.extract Z Z)<|.yw (.extract Z Z)<|.yw (.extract Z Z)<|.a Z Z<|.a Z Z<|.aq Z<|.cu (X:=Bool) [(1,_)] ⟨Z,Jt⟩ (λz5=>[(53,.bool z5)]) (λz5=>H) (λz5=>[.box b1 [.int .i64 op.toNat,bJ nm,.int .i64 nn.toInt,.slice pp args.length c] 83]) (λz5=>z5=!tnB op nm) ?_ λz5 hC=>?_
   ·
    refine .rg<|.mv Z<|.mv Z<|.b2 (λh29=>?_) (λh29=>?_)
    ·try simp only [dt] at h29
     refine .gy (.move Z)<|.gy (.xl Z (λW s=>rT H (spA nm) aD W s.agr))<|.gy (.not Z)<|.gy (.move Z)<|.b2 (λh33=>?_) (λh33=>?_)
     ·try simp only [dt] at h33
      exact .g3<|.gy (.pickT Z Z)<|.pT Z<|.mv Z<|.g3<|.gV<|.gV<|.gV<|.gV<|.gV<|.gV<|.gV<|.gV<|.gV<|.gG<|.pT Z<|.nt<|.me _ ⟨Z,Jt⟩ ⟨Z,Jt⟩ (λ_ s=>s) (by clear ih h hs hA;rw [tnI q20];simp_all)
     try simp only [df] at h33
     refine .gy (.move Z)<|.gy (.xl Z (λW s=>rT H (spB nm) aD W s.agr))<|.gy (.not Z)<|.gy (.pickF Z Z)<|.pT Z<|.mv Z<|.b2 (λh39=>?_) (λh39=>?_)
     ·try simp only [dt] at h39
      exact .g3<|.gV<|.gV<|.gV<|.gV<|.gV<|.gV<|.gV<|.gV<|.gV<|.gG<|.pT Z<|.nt<|.me _ ⟨Z,Jt⟩ ⟨Z,Jt⟩ (λ_ s=>s) (by clear ih h hs hA;rw [tnI q20];simp_all)
     try simp only [df] at h39
     refine .gy (.move Z)<|.gy (.not Z)<|.gy (.move Z)<|.b2 (λh42=>?_) (λh42=>?_)
     ·try simp only [dt] at h42
      refine .gy (.fieldAddr Z eH)<|.gy (.load Z bQ Hm Z)<|.gy (.neq Z Z)<|.gy (.move Z)<|.b2 (λh46=>?_) (λh46=>?_)
      ·try simp only [dt] at h46
       exact .g4<|.gy (.pickT Z Z)<|.gy (.pickT Z Z)<|.pF Z<|.nt<|.me _ ⟨Z,Jt⟩ ⟨Z,Jt⟩ (λ_ s=>s) (by clear ih h hs hA;rw [tnI q20];simp_all)
      try simp only [df] at h46
      exact .gy (.fieldAddr Z jW)<|.gy (.load Z bT Hm Z)<|.gy (.xl Z (λW s=>rT H nm aD W s.agr))<|.gy (.not Z)<|.gy (.pickF Z Z)<|.gy (.pickT Z Z)<|.pF Z<|.nt<|.me _ ⟨Z,Jt⟩ ⟨Z,Jt⟩ (λ_ s=>s) (by clear ih h hs hA;rw [tnI q20];simp_all)
     try simp only [df] at h42
     exact .g4<|.gV<|.gV<|.gV<|.gV<|.gG<|.gy (.pickF Z Z)<|.pF Z<|.nt<|.me _ ⟨Z,Jt⟩ ⟨Z,Jt⟩ (λ_ s=>s) (by clear ih h hs hA;rw [tnI q20];simp_all)
    try simp only [df] at h29
    refine .g4<|.gV<|.gV<|.gV<|.gG<|.pF Z<|.mv Z<|.gy (.move Z)<|.gy (.not Z)<|.gy (.move Z)<|.b2 (λh42=>?_) (λh42=>?_)
    ·try simp only [dt] at h42
     refine .gy (.fieldAddr Z eH)<|.gy (.load Z bQ Hm Z)<|.gy (.neq Z Z)<|.gy (.move Z)<|.b2 (λh46=>?_) (λh46=>?_)
     ·try simp only [dt] at h46
      exact .g4<|.gy (.pickT Z Z)<|.gy (.pickT Z Z)<|.pF Z<|.nt<|.me _ ⟨Z,Jt⟩ ⟨Z,Jt⟩ (λ_ s=>s) (by clear ih h hs hA;rw [tnI q20];simp_all)
     try simp only [df] at h46
     exact .gy (.fieldAddr Z jW)<|.gy (.load Z bT Hm Z)<|.gy (.xl Z (λW s=>rT H nm aD W s.agr))<|.gy (.not Z)<|.gy (.pickF Z Z)<|.gy (.pickT Z Z)<|.pF Z<|.nt<|.me _ ⟨Z,Jt⟩ ⟨Z,Jt⟩ (λ_ s=>s) (by clear ih h hs hA;rw [tnI q20];simp_all)
    try simp only [df] at h42
    exact .g4<|.gV<|.gV<|.gV<|.gV<|.gG<|.gy (.pickF Z Z)<|.pF Z<|.nt<|.me _ ⟨Z,Jt⟩ ⟨Z,Jt⟩ (λ_ s=>s) (by clear ih h hs hA;rw [tnI q20];simp_all)
   have e5:=hC;refine .cd Z (λh53=>?_) (λh53=>?_)
   ·have ht:tnB op nm=false:=by rw [h53] at e5;simpa using e5.symm
    refine .sr<|.az Z<|.tR<|?_
    refine yE Z Z (iL ?_)
    (rw [cH4,ht];rfl;done)
   have ht:tnB op nm=true:=by rw [h53] at e5;simpa using e5.symm
   exact .sk<|.tN<|.me () trivial ⟨Z,Jt⟩ (λ_ s=>s) ht
  have q20:(decide (((op.toNat:Nat):Int)=5) || decide (((op.toNat:Nat):Int)=6) || decide (((op.toNat:Nat):Int)=8))=false:=by rw [h20] at e2;exact e2.symm
  have ht:tnB op nm=true:=cM7 q20;exact .sk<|.tN<|.me () trivial ⟨Z,Jt⟩ (λ_ s=>s) ht
 have ht:=hC;refine .sq<|.sr<|.fA Z hI<|.lD Z fM Hm Z<|.yw (.lenSl fK Z)<|.mv Z<|.nt<|.bk<|.lp (X:=Nat) [(55,_),(56,_)] ⟨Z,Z,Jt⟩ [_] (λk=>[(57,iN k)]) (λk=>H) (λk=>[]) (λk=>k<=args.length/\(args.take k).any oT=false) (λk=>args.length - k) 0 (λ_ s=>s) ⟨Z,Jt⟩ ⟨aN _,Z⟩ λk hC=>?_
 obtain ⟨hk0,hal⟩:=hC;refine .sr<|.yw (.lss Z Z)<|.nt<|.sq<|.ce Z (λh58=>?_) (λh58=>?_)
 ·have hk:k<args.length:=aD
  obtain ⟨bE,oE,cE,hpE,rE,lE,mE⟩:=hs.elem (eR (f:=dEx .i64) hk);cases hpE;refine .sk<|.tN<|.sq<|.bk<|.sr<|.yw (.indexSl fK Z Z Z aD (q:=oE+k * 4) Z)<|.yw (.loadMW Z cY mE lE)<|.al gX Z λb7=>.sV .head Z Z eD lE rE.one Z<|.ns<|.yw (.loadW Z cY Hm lE)<|.yw (.xl Z (λW s=>ih _ (aX hk) H cE W rE s.agr))<|.yw (.not Z)<|.nt<|.cd Z (λh63=>?_) (λh63=>?_)
  ·refine .sr<|.az Z<|.bR<|.tR<|.tR<|.bR<|.tR<|?_
   refine yE Z Z (iL ?_)
   (rw [cH4,aG5 hk (by simpa using h63)];simp;done)
  exact .sk<|.bN<|.tN<|.rg<|.yw (.add Z Z w7)<|.mv Z<|.nt<|.ag (k+1) ⟨Z,Jt⟩ ⟨Z,Z,Jt⟩ (λ_ s=>s.pick [1] [_] Z Z) ⟨aD,DW hk hal (by simpa using h63)⟩ aD
 obtain rfl:k=args.length:=aD
 rw [bW] at hal;refine .ex<|.eb<|.sr<|.az Z<|?_
 refine yE Z Z (iL ?_)
 (rw [cH4,ht,hal];rfl;done)
theorem cH3 {op:UInt8} {nm fd:Str} {b:Int64} {ex:List Ex} {args:List Fm} :rN (.mk op nm fd a b ex args)=(!(rfN op.toNat && !gL nm || rfF op.toNat && !gL fd) && !ex.any oT):=by rw [aD3,cC7,cC8,bC4,show rfN op.toNat=fdN op from rfl]
theorem aC0 (f:Fm):∀ (H:Hp) (cs:List Value) (w:World),Rep H (dFm .i64 f) cs->Agr H w->Calls prg 41 #[.agg cs.toArray] w λr w'=>r=.returned (.bool (Fm.all rN f))/\Ext w w':=by
 induction f using Fm.ind with | _ op nm fd a b ex args ih
 intro H cs w h hA;obtain ⟨p1,c1,p2,c2,rfl,hs1,hs2,hnm,hfd⟩:=gK h;have hcap1:=hs1.cap;have hcap2:=hs2.cap;refine Sx.enter (H:=H) func41 rfl ntmps41 rfl hA ?_;refine .sr<|.bx Z Z Z λb1=>.a Z Z<|.ns<|.fA Z hQ<|.lD Z bQ Hm Z<|.yw (.xl Z (λW s=>PB H op.toNat W s.agr))<|.mv Z<|.yw (.extract Z Z)<|.yw (.extract Z Z)<|.a Z Z<|.aq Z<|.sq<|.cu (X:=Bool) [(1,_)] ⟨Z,Jt⟩ (λz9=>[(30,.bool z9)]) (λz9=>H) (λz9=>[.box b1 [.int .i64 op.toNat,bJ nm,bJ fd,.int .i64 a.toInt,.int .i64 b.toInt,.slice p1 ex.length c1,.slice p2 args.length c2] 27]) (λz9=>z9=(rfN op.toNat && !gL nm || rfF op.toNat && !gL fd)) ?_ λz9 hC=>?_
 ·
  refine .rg<|.mv Z<|.mv Z<|.b2 (λh16=>?_) (λh16=>?_)
  ·try simp only [dt] at h16
   refine .gy (.fieldAddr Z oL)<|.gy (.load Z bT Hm Z)<|.gy (.xl Z (λW s=>rT H nm aD W s.agr))<|.gy (.not Z)<|.pT Z<|.mv Z<|.b2 (λh22=>?_) (λh22=>?_)
   ·try simp only [dt] at h22
    exact .g2<|.gV<|.gV<|.gV<|.gV<|.gG<|.pT Z<|.nt<|.me _ ⟨Z,Jt⟩ ⟨Z,Jt⟩ (λ_ s=>s) (by clear ih h hs1 hs2 hA;simp_all)
   try simp only [df] at h22
   refine .gy (.move Z)<|.gy (.move Z)<|.b2 (λh24=>?_) (λh24=>?_)
   ·try simp only [dt] at h24
    exact .gy (.fieldAddr Z oK)<|.gy (.load Z bT Hm Z)<|.gy (.xl Z (λW s=>rT H fd aD W s.agr))<|.gy (.not Z)<|.gy (.pickT Z Z)<|.pF Z<|.nt<|.me _ ⟨Z,Jt⟩ ⟨Z,Jt⟩ (λ_ s=>s) (by clear ih h hs1 hs2 hA;simp_all)
   try simp only [df] at h24
   exact .g4<|.gy (.pickF Z Z)<|.pF Z<|.nt<|.me _ ⟨Z,Jt⟩ ⟨Z,Jt⟩ (λ_ s=>s) (by clear ih h hs1 hs2 hA;simp_all)
  try simp only [df] at h16
  refine .g4<|.pF Z<|.mv Z<|.gy (.move Z)<|.gy (.move Z)<|.b2 (λh24=>?_) (λh24=>?_)
  ·try simp only [dt] at h24
   exact .gy (.fieldAddr Z oK)<|.gy (.load Z bT Hm Z)<|.gy (.xl Z (λW s=>rT H fd aD W s.agr))<|.gy (.not Z)<|.gy (.pickT Z Z)<|.pF Z<|.nt<|.me _ ⟨Z,Jt⟩ ⟨Z,Jt⟩ (λ_ s=>s) (by clear ih h hs1 hs2 hA;simp_all)
  try simp only [df] at h24
  exact .g4<|.gy (.pickF Z Z)<|.pF Z<|.nt<|.me _ ⟨Z,Jt⟩ ⟨Z,Jt⟩ (λ_ s=>s) (by clear ih h hs1 hs2 hA;simp_all)
 have e9:=hC;refine .cd Z (λh30=>?_) (λh30=>?_)
 ·have hb:(rfN op.toNat && !gL nm || rfF op.toNat && !gL fd)=true:=by rw [h30] at e9;exact e9.symm
  refine .sr<|.az Z<|.tR<|?_
  refine yE Z Z (iL ?_)
  (rw [kF,cH3,hb];rfl;done)
 have hb:(rfN op.toNat && !gL nm || rfF op.toNat && !gL fd)=false:=by rw [h30] at e9;exact e9.symm
 refine .sk<|.tN<|.sq<|.sr<|.fA Z eZ<|.lD Z fM Hm Z<|.yw (.lenSl fK Z)<|.mv Z<|.nt<|.bk<|.lp (X:=Nat) [(1,_),(32,_),(33,_)] ⟨Z,Z,Z,Jt⟩ [_] (λk=>[(34,iN k)]) (λk=>H) (λk=>[]) (λk=>k<=ex.length/\(ex.take k).any oT=false) (λk=>ex.length - k) 0 (λ_ s=>s) ⟨Z,Jt⟩ ⟨aN _,Z⟩ λk hC=>?_
 obtain ⟨hk0,hal⟩:=hC;refine .sr<|.yw (.lss Z Z)<|.nt<|.sq<|.ce Z (λh35=>?_) (λh35=>?_)
 ·have hk:k<ex.length:=aD
  obtain ⟨bE,oE,cE,hpE,rE,lE,mE⟩:=hs1.elem (eR (f:=dEx .i64) hk);cases hpE;refine .sk<|.tN<|.sq<|.bk<|.sr<|.yw (.indexSl fK Z Z Z aD (q:=oE+k * 4) Z)<|.yw (.loadMW Z cY mE lE)<|.al gX Z λb6=>.sV .head Z Z eD lE rE.one Z<|.ns<|.yw (.loadW Z cY Hm lE)<|.yw (.xl Z (λW s=>QE _ H _ W rE s.agr))<|.yw (.not Z)<|.nt<|.cd Z (λh40=>?_) (λh40=>?_)
  ·refine .sr<|.az Z<|.bR<|.tR<|.tR<|.bR<|.tR<|?_
   refine yE Z Z (iL ?_)
   (rw [kF,cH3,aG5 hk (by simpa using h40)];simp;done)
  exact .sk<|.bN<|.tN<|.rg<|.yw (.add Z Z w7)<|.mv Z<|.nt<|.ag (k+1) ⟨Z,Jt⟩ ⟨Z,Z,Z,Jt⟩ (λ_ s=>s.pick [1] [_] Z Z) ⟨aD,DW hk hal (by simpa using h40)⟩ aD
 obtain rfl:k=ex.length:=aD
 rw [bW] at hal;have hno:=hal;refine .ex<|.eb<|.sq<|.sr<|.fA Z jL<|.lD Z qR Hm Z<|.yw (.lenSl oI Z)<|.mv Z<|.nt<|.bk<|.lp (X:=Nat) [(43,_),(44,_)] ⟨Z,Z,Jt⟩ [_] (λk2=>[(45,iN k2)]) (λk2=>H) (λk2=>[]) (λk2=>k2<=args.length/\(args.take k2).all (Fm.all rN)=true) (λk2=>args.length - k2) 0 (λ_ s=>s) ⟨Z,Jt⟩ ⟨aN _,Z⟩ λk2 hC=>?_
 obtain ⟨hk20,hal2⟩:=hC;refine .sr<|.yw (.lss Z Z)<|.nt<|.sq<|.ce Z (λh46=>?_) (λh46=>?_)
 ·have hk2:k2<args.length:=aD
  obtain ⟨bF,oF,cF,hpF,rF,lF,mF⟩:=hs2.elem (eR (f:=dFm .i64) hk2);cases hpF;refine .sk<|.tN<|.sq<|.bk<|.sr<|.yw (.indexSl oI Z Z Z aD (q:=oF+k2 * 7) Z)<|.yw (.loadMW Z dP mF lF)<|.al lH Z λb8=>.sV .head Z Z gC lF rF.one Z<|.ns<|.yw (.loadW Z dP Hm lF)<|.yw (.xl Z (λW s=>ih _ (aX hk2) H cF W rF s.agr))<|.yw (.not Z)<|.nt<|.cd Z (λh51=>?_) (λh51=>?_)
  ·refine .sr<|.az Z<|.bR<|.tR<|.tR<|.bR<|.tR<|?_
   refine yE Z Z (iL ?_)
   (rw [kF,MZ hk2 (by simpa using h51)];simp;done)
  exact .sk<|.bN<|.tN<|.rg<|.yw (.add Z Z w7)<|.mv Z<|.nt<|.ag (k2+1) ⟨Z,Jt⟩ ⟨Z,Z,Jt⟩ (λ_ s=>s.pick [1] [_] Z Z) ⟨aD,ES hk2 hal2 (by simpa using h51)⟩ aD
 obtain rfl:k2=args.length:=aD
 rw [bW] at hal2;refine .ex<|.eb<|.sr<|.az Z<|?_
 refine yE Z Z (iL ?_)
 (rw [kF,cH3,hb,hno,hal2];rfl;done)
theorem cT6 (h:(60:Int)<((n:Nat):Int)):decide (60<n)=true:=aG aD
theorem cT7 (h:¬ (60:Int)<((n:Nat):Int)):decide (60<n)=false:=aL aD
theorem aC3 (H:Hp) (f:Fm) (hgd:gdF f=true) (hct:f.count<=1000000) (cs:List Value) (w:World) (h:Rep H (dFm .i64 f) cs) (hA:Agr H w):Calls prg 17 #[.agg cs.toArray] w λr w'=>r=.returned (iN (gT f))/\Ext w w':=by
 obtain ⟨op,nm,fd,a,b,ex,args⟩:=f;obtain ⟨p1,c1,p2,c2,rfl,hs1,hs2,hnm,hfd⟩:=gK h;have hcap1:=hs1.cap;have hcap2:=hs2.cap;refine Sx.enter (H:=H) func17 rfl ntmps17 rfl hA ?_;refine .sr<|.bx Z Z Z λb1=>.aq Z<|.sq<|.bk<|.cu (X:=Bool) [(1,_)] ⟨Z,Jt⟩ (λz9=>[(3,.bool z9)]) (λz9=>H) (λz9=>[.box b1 [.int .i64 op.toNat,bJ nm,bJ fd,.int .i64 a.toInt,.int .i64 b.toInt,.slice p1 ex.length c1,.slice p2 args.length c2] 27]) (λz9=>z9=(decide (60<Fm.count (.mk op nm fd a b ex args)) || !Fm.all rM (.mk op nm fd a b ex args))) ?_ λz9 hC=>?_
 ·
  refine .rg<|.yw (.loadW Z dP Hm Z)<|.yw (.xl Z (λW s=>bB5 (.mk op nm fd a b ex args) H _ W h aD s.agr))<|.yw (.gtr Z Z)<|.mv Z<|.e2 (λh7=>?_) (λh7=>?_)
  ·exact .g2<|.pT Z<|.aq Z<|.me _ ⟨Z,Jt⟩ ⟨Z,Jt⟩ (λ_ s=>s) (by rw [cT6 h7];rfl)
  exact .gy (.loadW Z dP Hm Z)<|.gy (.xl Z (λW s=>aQ2 (.mk op nm fd a b ex args) hgd H _ W h s.agr))<|.pF Z<|.aq Z<|.me _ ⟨Z,Jt⟩ ⟨Z,Jt⟩ (λ_ s=>s) (by rw [cT7 h7];rfl)
 have e9:=hC;refine .cd Z (λh3=>?_) (λh3=>?_)
 ·have hc:60<Fm.count (.mk op nm fd a b ex args)\/Fm.all rM (.mk op nm fd a b ex args)=false:=by rw [h3] at e9;simpa using e9
  refine .sr<|.az Z<|.bR<|.tR<|?_
  refine yE Z Z ?_
  (unfold gT;rw [aK hc];rfl;done)
 have hc:¬ (60<Fm.count (.mk op nm fd a b ex args)\/Fm.all rM (.mk op nm fd a b ex args)=false):=by rw [h3] at e9;simpa using e9
 refine .sr<|.yw (.loadW Z dP Hm Z)<|.yw (.xl Z (λW s=>aC0 (.mk op nm fd a b ex args) H _ W h s.agr))<|.yw (.not Z)<|.aq Z<|.cd Z (λh11=>?_) (λh11=>?_)
 ·have hn:Fm.all rN (.mk op nm fd a b ex args)=false:=by simpa using h11
  refine .sr<|.az Z<|.bR<|.tR<|?_
  refine yE Z Z ?_
  (unfold gT;rw [aA hc,aK hn];rfl;done)
 have hn:Fm.all rN (.mk op nm fd a b ex args)=true:=by simpa using h11
 refine .sr<|.yw (.loadW Z dP Hm Z)<|.yw (.xl Z (λW s=>aP9 (.mk op nm fd a b ex args) H _ W h s.agr))<|.yw (.not Z)<|.aq Z<|.cd Z (λh15=>?_) (λh15=>?_)
 ·have hf:Fm.all jJ (.mk op nm fd a b ex args)=false:=by simpa using h15
  refine .sr<|.az Z<|.bR<|.tR<|?_
  refine yE Z Z ?_
  (unfold gT;rw [aA hc,aA (by rw [hn];decide),aK hf];rfl;done)
 have hf:Fm.all jJ (.mk op nm fd a b ex args)=true:=by simpa using h15
 refine .sk<|.bN<|.tN<|.sr<|.az Z<|?_
 refine yE Z Z ?_
 (unfold gT;rw [aA hc,aA (by rw [hn];decide),aA (by rw [hf];decide)];rfl;done)
theorem aM4 (h:¬ n<10):Lib.decDigits n=Lib.decDigits (n / 10)++Lib.decDigits (n % 10):=by
 rw [Lib.decDigits_one (rC n aD)]
 conv=>lhs;rw [Lib.decDigits,qH h]
def aM2:Str:=[48,49,50,51,52,53,54,55,56,57]
theorem YT (h:n<10):(aM2.take (n+1)).drop n=Lib.decDigits n:=by
 rw [Lib.decDigits_one h];have key:∀ i∈List.range 10,(aM2.take (i+1)).drop i=[UInt8.ofNat (48+i)]:=aS
 exact key n (bZ.2 h)
theorem AO (h:n<=9223372036854775807):(Lib.decDigits n).length<=21:=by
 have:=Lib.itoa_length_le (n:Int) aD aD
 rwa [Lib.itoa,aA aD,Int.toNat_natCast] at this
def lvR (k:Nat):Nat:=if k=23 then 1 else if k=22 then 2 else if 16<=k then 3 else if 14<=k then 4 else if 11<=k then 5 else if 9<=k then 6 else 7
theorem bG2 {op:UInt8} (h:aC8 op=true):lvR op.toNat=(dM op).lv:=by
 have key:∀ i∈List.range 256,aC8 (UInt8.ofNat i)=true->lvR i=(dM (UInt8.ofNat i)).lv:=by decide +kernel
 have h2:=key op.toNat (bZ.2 op.toNat_lt);rw [fU] at h2;exact h2 h
def RJ:List Str:=[[42],[47],[37],[43],[45],[61,61],[33,61],[60],[60,61],[62],[62,61],[97,110,100],[111,114]]
theorem cE8 {op:UInt8} (h1:11<=op.toNat) (h2:op.toNat<=23):(dM op).tx=[32]++RJ.getD (op.toNat - 11) []++[32]:=by
 have key:∀ i∈List.range 256,11<=i->i<=23->(dM (UInt8.ofNat i)).tx=[32]++RJ.getD (i - 11) []++[32]:=by decide +kernel
 have h:=key op.toNat (bZ.2 op.toNat_lt);rw [fU] at h;exact h h1 h2
theorem KZ (H:Hp) (n:Nat):n<=9223372036854775807->∀ (w:World),Agr H w->Calls prg 134 #[.int .i64 (n:Nat)] w λr w'=>r=.returned (bJ (Lib.decDigits n))/\Ext w w':=by
 induction n using Nat.strongRecOn with | _ n ih
 intro hn w hA;refine Sx.enter (H:=H) func134 rfl ntmps134 rfl hA ?_;refine .sr<|.aq Z<|.sq<|.sm Z<|.yw (.lss Z Z)<|.nt<|.ce Z (λh4=>?_) (λh4=>?_)
 ·exact absurd (by omega:False) id
 refine .sk<|.tN<|.sq<|.sm Z<|.yw (.lss Z Z)<|.nt<|.ce Z (λh10=>?_) (λh10=>?_)
 ·refine .sm Z<|.mv Z<|.yw (.add Z Z (c:=((n+1:Nat):Int)) ((w6 aD).trans aD))<|.yw (.cast (.midS (l:=aM2) dX Z Z Z (lo:=n) (hi:=n+1) Z Z aD (by show n+1<=10;omega)) (by rw [YT aD]))<|.az Z<|.tR<|?_
  refine yE Z Z ?_
  (rfl)
 refine .sk<|.tN<|.sm Z<|.yw (.quo Z Z aS (c:=((n / 10:Nat):Int)) (by rw [jO aD];exact (w6 aD).trans aD))<|.yw (.xl Z (λW s=>ih (n / 10) aD aD W s.agr))<|.mv Z<|.yw (.rem Z Z aS (c:=((n % 10:Nat):Int)) (by rw [dJ aD];omega))<|.yw (.xl Z (λW s=>ih (n % 10) aD aD W s.agr))<|.yw (.app Z Z (by have:=AO (n:=n / 10) aD;have:=AO (n:=n % 10) aD;omega))<|.az Z<|?_
 refine yE Z Z ?_
 (rw [aM4 (n:=n) aD];rfl)
variable {L:Sl} {H:Hp} {w0:World} {bs:List Res} {x:Operand} {T:TypeId}
theorem _root_.Go.Sx.Yl.neg64 {P:Program} {d:Option Tmp} {ty:TypeId} {pos:String} {aft:Array Edge} {g:Option (Nat × Bool)} {i c:Int} (hx:ev L x=some (.int .i64 i)) (hc:c=-i) (h1:-9223372036854775808<=c) (h2:c<=9223372036854775807):Yl P L H w0 bs ⟨d,.unOp .neg T x,ty,pos,aft,g⟩ (.int .i64 c):=.of_run λa W f _=>by
 subst hc;have hw:IntKind.i64.wrap (-i)=-i:=w64 h1 h2;unfold execOp;simp [f x _ hx,Op.unary,Op.intArith,hw,Result.andThen]
theorem aC9 (H:Hp) (n:Int) (h1:-9223372036854775808<n) (h2:n<=9223372036854775807) (w:World) (hA:Agr H w):Calls prg 134 #[.int .i64 n] w λr w'=>r=.returned (bJ (Lib.itoa n))/\Ext w w':=by
 by_cases h0:0<=n
 ·have h:=KZ H n.toNat aD w hA;rw [show ((n.toNat:Nat):Int)=n by omega] at h;rw [Lib.itoa,aA aD];exact h
 refine Sx.enter (H:=H) func134 rfl ntmps134 rfl hA ?_;refine .sr<|.aq Z<|.sq<|.sm Z<|.yw (.lss Z Z)<|.nt<|.ce Z (λh4=>?_) (λh4=>?_)
 ·refine .sm Z<|.yw (.neg64 Z (c:=((n.natAbs:Nat):Int)) aD aD aD)<|.yw (.xl Z (λW s=>KZ H n.natAbs aD W s.agr))<|.yw (.app Z Z (by have:=AO (n:=n.natAbs) aD;simp only [aF,aH];omega))<|.az Z<|.tR<|?_
  refine yE Z Z ?_
  first
   | (rw [Lib.itoa,aK aD];rfl)
 exact absurd (by omega:False) id
theorem SG (H:Hp) (k:Nat) (w:World) (hA:Agr H w):Calls prg 136 #[iN k] w λr w'=>r=.returned (iN (lvR k))/\Ext w w':=by
 refine Sx.enter (H:=H) func136 rfl ntmps136 rfl hA ?_;refine .sr<|.aq Z<|.sq<|.bk<|.sm Z<|.yw (.eql Z Z)<|.aq Z<|.ce Z (λh3=>?_) (λh3=>?_)
 ·refine .sr<|.az Z<|.bR<|.tR<|?_
  refine yE Z Z ?_
  first
   | (rw [lvR];(try simp only [aB,eE] at *);first | (rw [aK aD];rfl) | (rw [aA aD,aK aD];rfl) | (rw [aA aD,aA aD,aK aD];rfl) | (rw [aA aD,aA aD,aA aD,aK aD];rfl) | (rw [aA aD,aA aD,aA aD,aA aD,aK aD];rfl) | (rw [aA aD,aA aD,aA aD,aA aD,aA aD,aK aD];rfl) | (rw [aA aD,aA aD,aA aD,aA aD,aA aD,aA aD];rfl))
 refine .sm Z<|.yw (.eql Z Z)<|.aq Z<|.ce Z (λh6=>?_) (λh6=>?_)
 ·refine .sr<|.az Z<|.bR<|.tR<|?_
  refine yE Z Z ?_
  first
   | (rw [lvR];(try simp only [aB,eE] at *);first | (rw [aK aD];rfl) | (rw [aA aD,aK aD];rfl) | (rw [aA aD,aA aD,aK aD];rfl) | (rw [aA aD,aA aD,aA aD,aK aD];rfl) | (rw [aA aD,aA aD,aA aD,aA aD,aK aD];rfl) | (rw [aA aD,aA aD,aA aD,aA aD,aA aD,aK aD];rfl) | (rw [aA aD,aA aD,aA aD,aA aD,aA aD,aA aD];rfl))
 refine .sm Z<|.yw (.geq Z Z)<|.aq Z<|.ce Z (λh9=>?_) (λh9=>?_)
 ·refine .sr<|.az Z<|.bR<|.tR<|?_
  refine yE Z Z ?_
  first
   | (rw [lvR];(try simp only [aB,eE] at *);first | (rw [aK aD];rfl) | (rw [aA aD,aK aD];rfl) | (rw [aA aD,aA aD,aK aD];rfl) | (rw [aA aD,aA aD,aA aD,aK aD];rfl) | (rw [aA aD,aA aD,aA aD,aA aD,aK aD];rfl) | (rw [aA aD,aA aD,aA aD,aA aD,aA aD,aK aD];rfl) | (rw [aA aD,aA aD,aA aD,aA aD,aA aD,aA aD];rfl))
 refine .sm Z<|.yw (.geq Z Z)<|.aq Z<|.ce Z (λh12=>?_) (λh12=>?_)
 ·refine .sr<|.az Z<|.bR<|.tR<|?_
  refine yE Z Z ?_
  first
   | (rw [lvR];(try simp only [aB,eE] at *);first | (rw [aK aD];rfl) | (rw [aA aD,aK aD];rfl) | (rw [aA aD,aA aD,aK aD];rfl) | (rw [aA aD,aA aD,aA aD,aK aD];rfl) | (rw [aA aD,aA aD,aA aD,aA aD,aK aD];rfl) | (rw [aA aD,aA aD,aA aD,aA aD,aA aD,aK aD];rfl) | (rw [aA aD,aA aD,aA aD,aA aD,aA aD,aA aD];rfl))
 refine .sm Z<|.yw (.geq Z Z)<|.aq Z<|.ce Z (λh15=>?_) (λh15=>?_)
 ·refine .sr<|.az Z<|.bR<|.tR<|?_
  refine yE Z Z ?_
  first
   | (rw [lvR];(try simp only [aB,eE] at *);first | (rw [aK aD];rfl) | (rw [aA aD,aK aD];rfl) | (rw [aA aD,aA aD,aK aD];rfl) | (rw [aA aD,aA aD,aA aD,aK aD];rfl) | (rw [aA aD,aA aD,aA aD,aA aD,aK aD];rfl) | (rw [aA aD,aA aD,aA aD,aA aD,aA aD,aK aD];rfl) | (rw [aA aD,aA aD,aA aD,aA aD,aA aD,aA aD];rfl))
 refine .sm Z<|.yw (.geq Z Z)<|.aq Z<|.ce Z (λh18=>?_) (λh18=>?_)
 ·refine .sr<|.az Z<|.bR<|.tR<|?_
  refine yE Z Z ?_
  first
   | (rw [lvR];(try simp only [aB,eE] at *);first | (rw [aK aD];rfl) | (rw [aA aD,aK aD];rfl) | (rw [aA aD,aA aD,aK aD];rfl) | (rw [aA aD,aA aD,aA aD,aK aD];rfl) | (rw [aA aD,aA aD,aA aD,aA aD,aK aD];rfl) | (rw [aA aD,aA aD,aA aD,aA aD,aA aD,aK aD];rfl) | (rw [aA aD,aA aD,aA aD,aA aD,aA aD,aA aD];rfl))
 refine .sk<|.bN<|.tN<|.sr<|.az Z<|?_
 refine yE Z Z ?_
 first
  | (rw [lvR];(try simp only [aB,eE] at *);first | (rw [aK aD];rfl) | (rw [aA aD,aK aD];rfl) | (rw [aA aD,aA aD,aK aD];rfl) | (rw [aA aD,aA aD,aA aD,aK aD];rfl) | (rw [aA aD,aA aD,aA aD,aA aD,aK aD];rfl) | (rw [aA aD,aA aD,aA aD,aA aD,aA aD,aK aD];rfl) | (rw [aA aD,aA aD,aA aD,aA aD,aA aD,aA aD];rfl))
theorem aB3 (H:Hp) (k:Nat) (h1:11<=k) (h2:k<=23) (w:World) (hA:Agr H w):Calls prg 137 #[iN k] w λr w'=>r=.returned (bJ (RJ.getD (k - 11) []))/\Ext w w':=by
 refine Sx.enter (H:=H) func137 rfl ntmps137 rfl hA ?_;refine .sr<|.a Z Z<|.ns<|.bl Z (ZL _ _ _ _ _ _ _ _ _ _ _ _ _) Z λb3=>.mv Z<|.yw (.sub Z Z (c:=((k - 11:Nat):Int)) ((w6 aD).trans aD))<|.yw (.indexSl fD Z Z (i:=k - 11) Z aD (q:=k - 11) aD)<|.yw (.load (v:=bJ (RJ.getD (k - 11) [])) Z bT Hm (bR6 (es:=RJ) (by show k - 11<13;omega)))<|.az Z<|?_
 exact yE Z Z Z
def aN9 (H:Hp) (e:Ex):Prop:=∀ (cs:List Value) (w:World),Rep H (dEx .i64 e) cs->Ex.all OY e=true->e.text.length<=1000000000->Agr H w ->
 Calls prg 87 #[.agg cs.toArray] w λr w'=>r=.returned (bJ e.text)/\Ext w w'
theorem BL (H:Hp) (e:Ex) (ht:aN9 H e) (cs:List Value) (h:Rep H (dEx .i64 e) cs) (hf:Ex.all OY e=true) (hl:e.text.length<=1000000000) (k:Nat) (w:World) (hA:Agr H w) :
 Calls prg 135 #[.agg cs.toArray,iN k] w λr w'=>r=.returned (bJ (opT (k+1) ((dM e.op).lv,e.text)))/\Ext w w':=by
 obtain ⟨op,nm,nn,args⟩:=e;obtain ⟨p,c,rfl,hs,hnm⟩:=eV h;have hlv:=bG2 (op:=op) (by have:=hf;rw [uR,aE] at this;have:=this.1;simp only [OY,aE] at this;exact this.1.1.1);refine Sx.enter (H:=H) func135 rfl ntmps135 rfl hA ?_;refine .sr<|.bx Z Z Z λb2=>.aq Z<|.sq<|.sr<|.fA Z eH<|.lD Z bQ Hm Z<|.yw (.cast (.xl Z (λW s=>SG H op.toNat W s.agr)) (by rw [hlv]))<|.mv Z<|.yw (.leq Z Z)<|.nt<|.ce Z (λh9=>?_) (λh9=>?_)
 ·refine .sr<|.yw (.loadW Z cY Hm Z)<|.yw (.xl Z (λW s=>ht _ W h hf hl s.agr))<|.yw (.app Z Z (by (try simp only [aC,aF,aH]);omega))<|.yw (.app Z Z (by (try simp only [aC,aF,aH]);omega))<|.az Z<|.tR<|?_
  refine yE Z Z ?_
  first
   | (rw [opT,aK (by show (dM op).lv<k+1;omega)] <;> rfl)
   | (rw [opT,aA (by show ¬ (dM op).lv<k+1;omega)] <;> rfl)
 refine .sk<|.tN<|.sr<|.yw (.loadW Z cY Hm Z)<|.yw (.xl Z (λW s=>ht _ W h hf hl s.agr))<|.az Z<|?_
 refine yE Z Z ?_
 first
  | (rw [opT,aK (by show (dM op).lv<k+1;omega)] <;> rfl)
  | (rw [opT,aA (by show ¬ (dM op).lv<k+1;omega)] <;> rfl)
theorem QI (H:Hp) (e:Ex) (ht:aN9 H e) (cs:List Value) (h:Rep H (dEx .i64 e) cs) (hf:Ex.all OY e=true) (hl:e.text.length<=1000000000) (k m:Nat) (hk:k+1=m) (w:World) (hA:Agr H w) :
 Calls prg 135 #[.agg cs.toArray,iN k] w λr w'=>r=.returned (bJ (opT m ((dM e.op).lv,e.text)))/\Ext w w':=by
 subst hk;exact BL H e ht cs h hf hl k w hA
theorem FH (H:Hp) (e:Ex) (ht:aN9 H e) (cs:List Value) (h:Rep H (dEx .i64 e) cs) (hf:Ex.all OY e=true) (hl:e.text.length<=1000000000) (w:World) (hA:Agr H w) :
 Calls prg 135 #[.agg cs.toArray,.int .i64 5] w λr w'=>r=.returned (bJ (opT 6 ((dM e.op).lv,e.text)))/\Ext w w':=BL H e ht cs h hf hl 5 w hA
theorem cE0 {nm:Str} {n:Int64} {ls:List (Nat × Str)} :txt 6 nm n ls=nm++([91]:Str)++(ls.getD 0 (0,[])).2++([93]:Str):=by rw [txt,aA aS,aA aS,aK aS,show (dM 6).tx=[] from rfl,dE]
theorem cD9 {nm:Str} {n:Int64} {ls:List (Nat × Str)} :txt 7 nm n ls=([104,97,115,32]:Str)++nm++([91]:Str)++(ls.getD 0 (0,[])).2++([93]:Str):=by rw [txt,aA aS,aA aS,aK aS,show (dM 7).tx=[104,97,115,32] from rfl]
theorem cD8 {nm:Str} {n:Int64} {ls:List (Nat × Str)} :txt 9 nm n ls=([45]:Str)++opT 6 (ls.getD 0 (0,[])):=by rw [txt,aA aS,aA aS,aA aS,aK aS,show (dM 9).tx=[45] from rfl,show (dM 9).lv=6 from rfl]
theorem bQ6 {nm:Str} {n:Int64} {ls:List (Nat × Str)} :txt 10 nm n ls=([110,111,116,32]:Str)++opT 6 (ls.getD 0 (0,[])):=by rw [txt,aA aS,aA aS,aA aS,aK aS,show (dM 10).tx=[110,111,116,32] from rfl,show (dM 10).lv=6 from rfl]
theorem RR {op:UInt8} (h1:11<=op.toNat) (h2:op.toNat<=23):(dM op).n=2:=by
 have key:∀ i∈List.range 256,11<=i->i<=23->(dM (UInt8.ofNat i)).n=2:=by decide +kernel
 have h:=key op.toNat (bZ.2 op.toNat_lt);rw [fU] at h;exact h h1 h2
theorem aP6 {op:UInt8} (h1:11<=op.toNat) (h2:op.toNat<=23):1<=(dM op).lv/\(dM op).lv<=5:=by
 have key:∀ i∈List.range 256,11<=i->i<=23->1<=(dM (UInt8.ofNat i)).lv/\(dM (UInt8.ofNat i)).lv<=5:=by decide +kernel
 have h:=key op.toNat (bZ.2 op.toNat_lt);rw [fU] at h;exact h h1 h2
theorem bG6 {l:Nat} (h:1<=l/\l<=5):EZ l - 1+1=EZ l:=by unfold EZ;split <;> omega
theorem aZ8 {op:UInt8} {nm:Str} {n:Int64} {args:List Ex} (h1:11<=op.toNat) (h2:op.toNat<=23) (k0:0<args.length) (k1:1<args.length):Ex.text (.mk op nm n args) =
 opT (EZ (dM op).lv) ((dM args[0].op).lv,args[0].text)++([32]:Str)++RJ.getD (op.toNat - 11) []++([32]:Str)++opT ((dM op).lv+1) ((dM args[1].op).lv,args[1].text):=by
 have e:∀ v:UInt8,v.toNat<=10->¬ op=v:=λv hv e=>by rw [e] at h1;omega
 have e2:=RR h1 h2;rw [lK,txt,aA (e 1 aS),aA (vR.2 ⟨e 5 aS,e 8 aS⟩),aA (vR.2 ⟨e 6 aS,e 7 aS⟩),aA (vR.2 ⟨e 9 aS,e 10 aS⟩),aA aD,AK k0,AK k1,cE8 h1 h2];simp only [aV]
theorem uL (H:Hp) (e:Ex):aN9 H e:=by
 induction e using Ex.ind with | _ op nm nn args ih
 intro cs w h hf hl hA;obtain ⟨p,c,rfl,hs,hnm⟩:=eV h;rw [uR,aE] at hf;obtain ⟨hf1,hf2⟩:=hf;simp only [OY,aE,aB] at hf1;obtain ⟨⟨⟨hok,har⟩,_⟩,hN⟩:=hf1;have hok0:=hok;refine Sx.enter (H:=H) func87 rfl ntmps87 rfl hA ?_;refine .sr<|.bx Z Z Z λb1=>.aq Z<|.sq<|.sr<|.fA Z eH<|.lD Z bQ Hm Z<|.nt<|.bk<|.sr<|.yw (.eql Z Z)<|.aq Z<|.ce Z (λh7=>?_) (λh7=>?_)
 ·have e1:op=1:=aR.1 (by show op.toNat=1;omega);subst e1;have hn:args.length=0:=har.trans aS;have h1n:0<=nn.toInt:=by simpa using hN
  refine .sr<|.fA Z mU<|.lD Z jN Hm Z<|.yw (.xl Z (λW s=>aC9 H nn.toInt (by have:=nn.le_toInt;omega) (by have:=nn.toInt_lt;omega) W s.agr))<|.az Z<|.bR<|.tR<|?_
  refine yE Z Z ?_
  first
   | (rfl)
   | (rw [lK,txt];rfl)
   | (simp only [aV];rfl)
 have n1:¬ op.toNat=1:=aD
 refine .sr<|.yw (.eql Z Z)<|.aq Z<|.ce Z (λh12=>?_) (λh12=>?_)
 ·have e2:op=2:=aR.1 (by show op.toNat=2;omega);subst e2;have hn:args.length=0:=har.trans aS;refine .sr<|.az Z<|.bR<|.tR<|?_
  refine yE Z Z ?_
  first
   | (rfl)
   | (rw [lK,txt];rfl)
   | (simp only [aV];rfl)
 have n2:¬ op.toNat=2:=aD
 refine .sr<|.yw (.eql Z Z)<|.aq Z<|.ce Z (λh14=>?_) (λh14=>?_)
 ·have e3:op=3:=aR.1 (by show op.toNat=3;omega);subst e3;have hn:args.length=0:=har.trans aS;refine .sr<|.az Z<|.bR<|.tR<|?_
  refine yE Z Z ?_
  first
   | (rfl)
   | (rw [lK,txt];rfl)
   | (simp only [aV];rfl)
 have n3:¬ op.toNat=3:=aD
 refine .sr<|.yw (.eql Z Z)<|.aq Z<|.ce Z (λh16=>?_) (λh16=>?_)
 ·have e4:op=4:=aR.1 (by show op.toNat=4;omega);subst e4;have hn:args.length=0:=har.trans aS;refine .sr<|.az Z<|.bR<|.tR<|?_
  refine yE Z Z ?_
  first
   | (rfl)
   | (rw [lK,txt];rfl)
   | (simp only [aV];rfl)
 have n4:¬ op.toNat=4:=aD
 refine .sr<|.yw (.eql Z Z)<|.aq Z<|.ce Z (λh18=>?_) (λh18=>?_)
 ·have e5:op=5:=aR.1 (by show op.toNat=5;omega);subst e5;have hn:args.length=0:=har.trans aS;refine .sr<|.fA Z jW<|.lD Z bT Hm Z<|.az Z<|.bR<|.tR<|?_
  refine yE Z Z ?_
  first
   | (rfl)
   | (rw [lK,txt];rfl)
   | (simp only [aV];rfl)
 have n5:¬ op.toNat=5:=aD
 refine .sr<|.yw (.eql Z Z)<|.aq Z<|.ce Z (λh22=>?_) (λh22=>?_)
 ·have e6:op=6:=aR.1 (by show op.toNat=6;omega);subst e6;have hn:args.length=1:=har.trans aS;have h0:0<args.length:=aD
  obtain ⟨b0,o0,c0,hp0,r0,l0,m0⟩:=hs.elem (eR h0);cases hp0;have hf0:=yI h0 hf2;have htx:Ex.text (.mk 6 nm nn args)=nm++([91]:Str)++Ex.text args[0]++([93]:Str):=by rw [lK,cE0,AK h0]
  rw [htx] at hl|-;have hO:=EL 6 ((dM args[0].op).lv,Ex.text args[0]);dsimp only at hO;simp only [aC] at hl;refine .sq<|.fL 10 [(0,0),(1,0),(2,0),(3,0),(4,0),(5,0),(6,0),(7,0),(8,0),(9,0)]<|.fA Z jW<|.lD Z bT Hm Z<|.yw (.app Z Z (by (try simp only [aC]);(try simp only [aF,aH]);omega))<|.fA Z hI<|.lD Z fM Hm Z<|.yw (.indexSl fK Z Z (i:=0) Z aD (q:=o0+0 * 4) Z)<|.yw (.loadMW Z cY m0 l0)<|.yw (.xl Z (λW s=>ih _ (aX h0) _ W r0 hf0 aD s.agr))<|.yw (.app Z Z (by (try simp only [aC]);(try simp only [aF,aH]);omega))<|.yw (.app Z Z (by (try simp only [aC]);(try simp only [aF,aH]);omega))<|.fn (tl:=[_]) Z<|.az Z<|.bR<|.tR<|?_
  refine yE Z Z ?_
  first
   | (rfl)
   | (rw [lK,txt];rfl)
   | (simp only [aV];rfl)
 have n6:¬ op.toNat=6:=aD
 refine .sr<|.yw (.eql Z Z)<|.aq Z<|.ce Z (λh34=>?_) (λh34=>?_)
 ·have e7:op=7:=aR.1 (by show op.toNat=7;omega);subst e7;have hn:args.length=1:=har.trans aS;have h0:0<args.length:=aD
  obtain ⟨b0,o0,c0,hp0,r0,l0,m0⟩:=hs.elem (eR h0);cases hp0;have hf0:=yI h0 hf2;have htx:Ex.text (.mk 7 nm nn args)=([104,97,115,32]:Str)++nm++([91]:Str)++Ex.text args[0]++([93]:Str):=by rw [lK,cD9,AK h0]
  rw [htx] at hl|-;have hO:=EL 6 ((dM args[0].op).lv,Ex.text args[0]);dsimp only at hO;simp only [aC] at hl;refine .sq<|.fL 11 [(0,0),(1,0),(2,0),(3,0),(4,0),(5,0),(6,0),(7,0),(8,0),(9,0),(10,0)]<|.fA Z jW<|.lD Z bT Hm Z<|.yw (.app Z Z (by (try simp only [aC]);(try simp only [aF,aH]);omega))<|.yw (.app Z Z (by (try simp only [aC]);(try simp only [aF,aH]);omega))<|.fA Z hI<|.lD Z fM Hm Z<|.yw (.indexSl fK Z Z (i:=0) Z aD (q:=o0+0 * 4) Z)<|.yw (.loadMW Z cY m0 l0)<|.yw (.xl Z (λW s=>ih _ (aX h0) _ W r0 hf0 aD s.agr))<|.yw (.app Z Z (by (try simp only [aC]);(try simp only [aF,aH]);omega))<|.yw (.app Z Z (by (try simp only [aC]);(try simp only [aF,aH]);omega))<|.fn (tl:=[_]) Z<|.az Z<|.bR<|.tR<|?_
  refine yE Z Z ?_
  first
   | (rfl)
   | (rw [lK,txt];rfl)
   | (simp only [aV];rfl)
 have n7:¬ op.toNat=7:=aD
 refine .sr<|.yw (.eql Z Z)<|.aq Z<|.ce Z (λh47=>?_) (λh47=>?_)
 ·have e8:op=8:=aR.1 (by show op.toNat=8;omega);subst e8;have hn:args.length=0:=har.trans aS;refine .sr<|.fA Z jW<|.lD Z bT Hm Z<|.yw (.app Z Z (by (try simp only [aC]);(try simp only [aF,aH]);omega))<|.az Z<|.bR<|.tR<|?_
  refine yE Z Z ?_
  first
   | (rfl)
   | (rw [lK,txt];rfl)
   | (simp only [aV];rfl)
 have n8:¬ op.toNat=8:=aD
 refine .sr<|.yw (.eql Z Z)<|.aq Z<|.ce Z (λh52=>?_) (λh52=>?_)
 ·have e9:op=9:=aR.1 (by show op.toNat=9;omega);subst e9;have hn:args.length=1:=har.trans aS;have h0:0<args.length:=aD
  obtain ⟨b0,o0,c0,hp0,r0,l0,m0⟩:=hs.elem (eR h0);cases hp0;have hf0:=yI h0 hf2;have htx:Ex.text (.mk 9 nm nn args)=([45]:Str)++opT 6 ((dM args[0].op).lv,Ex.text args[0]):=by rw [lK,cD8,AK h0]
  rw [htx] at hl|-;have hO:=EL 6 ((dM args[0].op).lv,Ex.text args[0]);dsimp only at hO;simp only [aC] at hl;refine .sr<|.fA Z hI<|.lD Z fM Hm Z<|.yw (.indexSl fK Z Z (i:=0) Z aD (q:=o0+0 * 4) Z)<|.yw (.loadMW Z cY m0 l0)<|.yw (.xl Z (λW s=>FH H _ (ih _ (aX h0)) _ r0 hf0 aD W s.agr))<|.yw (.app Z Z (by (try simp only [aC]);(try simp only [aF,aH]);omega))<|.az Z<|.bR<|.tR<|?_
  refine yE Z Z ?_
  first
   | (rfl)
   | (rw [lK,txt];rfl)
   | (simp only [aV];rfl)
 have n9:¬ op.toNat=9:=aD
 refine .sr<|.yw (.eql Z Z)<|.aq Z<|.ce Z (λh60=>?_) (λh60=>?_)
 ·have e10:op=10:=aR.1 (by show op.toNat=10;omega);subst e10;have hn:args.length=1:=har.trans aS;have h0:0<args.length:=aD
  obtain ⟨b0,o0,c0,hp0,r0,l0,m0⟩:=hs.elem (eR h0);cases hp0;have hf0:=yI h0 hf2;have htx:Ex.text (.mk 10 nm nn args)=([110,111,116,32]:Str)++opT 6 ((dM args[0].op).lv,Ex.text args[0]):=by rw [lK,bQ6,AK h0]
  rw [htx] at hl|-;have hO:=EL 6 ((dM args[0].op).lv,Ex.text args[0]);dsimp only at hO;simp only [aC] at hl;refine .sr<|.fA Z hI<|.lD Z fM Hm Z<|.yw (.indexSl fK Z Z (i:=0) Z aD (q:=o0+0 * 4) Z)<|.yw (.loadMW Z cY m0 l0)<|.yw (.xl Z (λW s=>FH H _ (ih _ (aX h0)) _ r0 hf0 aD W s.agr))<|.yw (.app Z Z (by (try simp only [aC]);(try simp only [aF,aH]);omega))<|.az Z<|.bR<|.tR<|?_
  refine yE Z Z ?_
  first
   | (rfl)
   | (rw [lK,txt];rfl)
   | (simp only [aV];rfl)
 have n10:¬ op.toNat=10:=aD
 simp only [aC8,aE,aB] at hok;have hop:11<=op.toNat:=aD
 have hn2:args.length=2:=har.trans (RR hop hok.2);have h0:0<args.length:=aD
 obtain ⟨b0,o0,c0,hp0,r0,l0,m0⟩:=hs.elem (eR h0);cases hp0;have hf0:=yI h0 hf2;have h1:1<args.length:=aD
 obtain ⟨b1x,o1,c1,hp1,r1,l1,m1⟩:=hs.elem (eR h1);cases hp1;have hf1:=yI h1 hf2;have htx:=aZ8 (op:=op) (nm:=nm) (n:=nn) (args:=args) hop hok.2 h0 h1;rw [htx] at hl|-;simp only [aC] at hl;have ho:=EL (EZ (dM op).lv) ((dM args[0].op).lv,args[0].text);have ho1:=EL ((dM op).lv+1) ((dM args[1].op).lv,args[1].text);have hlv1:=aP6 hop hok.2;dsimp only at ho ho1;refine .sk<|.bN<|.tN<|.sr<|.fA Z eH<|.lD Z bQ Hm Z<|.yw (.cast (.xl Z (λW s=>SG H op.toNat W s.agr)) (by rw [bG2 hok0]))<|.a Z Z<|.ns<|.mv Z<|.yw (.sub Z Z (c:=(((dM op).lv - 1:Nat):Int)) ((w6 aD).trans aD))<|.aq Z<|.cu (X:=Unit) [(1,_),(3,_)] ⟨Z,Z,Jt⟩ (λz=>[(4,iN (EZ (dM op).lv - 1))]) (λz=>H) (λz=>[.box b1 [.int .i64 op.toNat,bJ nm,.int .i64 nn.toInt,.slice (some ⟨b0,o0,none⟩) args.length c] 83]) (λz=>True) ?_ λz hC=>?_
 ·
  refine .sm Z<|.yw (.eql Z Z)<|.nt<|.ce Z (λh74=>?_) (λh74=>?_)
  ·exact .rg<|.aq Z<|.me () ⟨(by first | (rw [EZ,aK aD,show (dM op).lv+1 - 1=3 by omega];rfl) | (rw [EZ,aA aD];rfl)),Jt⟩ ⟨Z,Z,Jt⟩ (λ_ s=>s) trivial
  exact .sk<|.tN<|.me () ⟨(by first | (rw [EZ,aK aD,show (dM op).lv+1 - 1=3 by omega];rfl) | (rw [EZ,aA aD];rfl)),Jt⟩ ⟨Z,Z,Jt⟩ (λ_ s=>s) trivial
 refine .sq<|.fL 19 [(0,0),(1,0),(2,0),(3,0),(4,0),(5,0),(6,0),(7,0),(8,0),(9,0),(10,0),(11,0),(12,0),(13,0),(14,0),(15,0),(16,0),(17,0),(18,0)]<|.fA Z hI<|.lD Z fM Hm Z<|.yw (.indexSl fK Z Z (i:=0) Z aD (q:=o0+0 * 4) Z)<|.yw (.loadMW Z cY m0 l0)<|.mv Z<|.yw (.xl Z (λW s=>QI H _ (ih _ (aX h0)) _ r0 hf0 aD (EZ (dM op).lv - 1) (EZ (dM op).lv) (bG6 hlv1) W s.agr))<|.yw (.app Z Z (by (try simp only [aC]);(try simp only [aF,aH]);omega))<|.fA Z eH<|.lD Z bQ Hm Z<|.yw (.xl Z (λW s=>aB3 H op.toNat hop hok.2 W s.agr))<|.yw (.app Z Z (by (try simp only [aC]);(try simp only [aF,aH]);omega))<|.yw (.app Z Z (by (try simp only [aC]);(try simp only [aF,aH]);omega))<|.fA Z hI<|.lD Z fM Hm Z<|.yw (.indexSl fK Z Z (i:=1) Z aD (q:=o0+1 * 4) Z)<|.yw (.loadMW Z cY m1 l1)<|.mv Z<|.yw (.xl Z (λW s=>BL H _ (ih _ (aX h1)) _ r1 hf1 aD (dM op).lv W s.agr))<|.yw (.app Z Z (by (try simp only [aC]);(try simp only [aF,aH]);omega))<|.fn (tl:=[_]) Z<|.az Z<|?_
 refine yE Z Z ?_
 first
  | (rfl)
  | (rw [lK,txt];rfl)
  | (simp only [aV];rfl)
theorem HV (k lv:Nat) (s:Str):opT k (lv,s)=wQ (decide (lv<k)) s:=by
 unfold opT wQ
 by_cases h:lv<k
 ·rw [aK h,aG h];rfl
 ·rw [aA h,aL h];rfl
theorem cL5:∀ op∈([11,12,13,14,15]:List UInt8),aC8 op=true/\(dM op).n=2/\(dM op).nm=false/\(dM op).lv=tlv op/\EZ (dM op).lv=tlv op/\(dM op).tx=[32]++(vK op++[32])/\¬ op=1/\¬ (op=5\/op=8)/\¬ (op=6\/op=7)/\¬ (op=9\/op=10):=by decide +kernel
theorem cL2:∀ op∈([16,17,18,19,20,21]:List UInt8),aC8 op=true/\(dM op).n=2/\(dM op).nm=false/\(dM op).lv=3/\EZ (dM op).lv=4/\(dM op).tx=[32]++(vK op++[32])/\¬ op=1/\¬ (op=5\/op=8)/\¬ (op=6\/op=7)/\¬ (op=9\/op=10):=by decide +kernel
theorem aY7 {op:UInt8} {a b:Ex} {nm:Str} {n:Int64} (h2:(dM op).n=2) (h1:¬ op=1) (h5:¬ (op=5\/op=8)) (h6:¬ (op=6\/op=7)) (h9:¬ (op=9\/op=10)) :
 Ex.text (.mk op nm n [a,b])=opT (EZ (dM op).lv) ((dM a.op).lv,a.text)++(dM op).tx++opT ((dM op).lv+1) ((dM b.op).lv,b.text):=by
 rw [lK,txt,aA h1,aA h5,aA h6,aA h9,aA aD];rfl
theorem HJ (e:Ex):eI e=true->e.text=tmT e/\Ex.all OY e=true/\(dM e.op).lv=tlv e.op:=by
 induction e using Ex.ind with | _ op nm n args ih
 intro h;rw [uR,aE,nS,bD];rcases NJ h with ⟨rfl,rfl,hn,rfl⟩ | ⟨rfl,rfl,rfl,rfl⟩ | ⟨ho,rfl,rfl⟩ | ⟨rfl,rfl,a,rfl,ha⟩ | ⟨rfl,rfl,rfl,a,rfl,ha⟩ | ⟨ho,rfl,rfl,a,b,rfl,ha,hb⟩
 ·exact ⟨Z,⟨by simp only [OY,dC];rw [aG hn];rfl,λx hx=>(by cases hx)⟩,Z⟩
 ·exact ⟨Z,⟨Z,λx hx=>(by cases hx)⟩,Z⟩
 ·rcases ho with rfl | rfl
  ·exact ⟨by rw [tm5 rfl,lK];rfl,⟨Z,λx hx=>(by cases hx)⟩,Z⟩
  ·exact ⟨by rw [tm8 rfl,lK];rfl,⟨Z,λx hx=>(by cases hx)⟩,Z⟩
 ·obtain ⟨e1,e2,_⟩:=ih a fG ha;refine ⟨?_,⟨Z,λx hx=>by rw [bS.1 hx];exact e2⟩,Z⟩;rw [tm6 rfl fG,lK];show ([]:Str)++nm++[91]++a.text++[93]=nm++[91]++tmT a++[93];rw [e1,dE]
 ·obtain ⟨e1,e2,e3⟩:=ih a fG ha;refine ⟨?_,⟨Z,λx hx=>by rw [bS.1 hx];exact e2⟩,Z⟩;rw [tm9 rfl fG,lK];show [45]++opT 6 ((dM a.op).lv,a.text)=[45]++wQ (decide (tlv a.op<6)) (tmT a);rw [HV,e1,e3]
 ·obtain ⟨e1,e2,e3⟩:=ih a fG ha;obtain ⟨f1,f2,f3⟩:=ih b fG hb;obtain ⟨b1,b2,b3,b4,b5,b6,b7,b8,b9,b10⟩:=cL5 op ho;have ho2:op=11\/op=12\/op=13\/op=14\/op=15:=by simpa using ho
  refine ⟨?_,⟨?_,λx hx=>?_⟩,b4⟩
  ·rw [aY7 b2 b7 b8 b9 b10,tmb ho2 fG fG,HV,HV,b5,b6,b4,e3,f3,e1,f1];show _=wQ (decide (tlv a.op<tlv op)) (tmT a)++[32]++vK op++[32]++wQ (decide (tlv b.op<tlv op+1)) (tmT b);simp only [aV]
  ·simp only [OY,b1,b2,b3,aA b7];rfl
  ·simp only [bM,List.not_mem_nil,or_false] at hx;rcases hx with rfl | rfl
   ·exact e2
   ·exact f2
theorem bM1 {o:UInt8} {x y:Ex} (ho:o∈([16,17,18,19,20,21]:List UInt8)) (hx:eI x=true) (hy:eI y=true):Ex.text (.mk o [] 0 [x,y])=tmT x++([32]:Str)++vK o++([32]:Str)++tmT y/\Ex.all OY (.mk o [] 0 [x,y])=true:=by
 obtain ⟨e1,e2,e3⟩:=HJ x hx;obtain ⟨f1,f2,f3⟩:=HJ y hy;obtain ⟨b1,b2,b3,b4,b5,b6,b7,b8,b9,b10⟩:=cL2 o ho;have g1:=xV x.op;have g2:=xV y.op
 constructor
 ·rw [aY7 b2 b7 b8 b9 b10,HV,HV,b5,b6,b4,e3,f3,aL aD,aL aD,e1,f1];show tmT x++([32]++(vK o++[32]))++tmT y=_;simp only [aV]
 ·rw [uR,aE,nS,bD];refine ⟨by simp only [OY,b1,b2,b3,aA b7];rfl,λz hz=>?_⟩;simp only [bM,List.not_mem_nil,or_false] at hz;rcases hz with rfl | rfl
  ·exact e2
  ·exact f2
theorem AB {e:Ex} (h:eI e=true) (hm:oT e=false):(tmT e).length<=130 * e.count:=EH e (OE e hm h)
def wnT (f:Fm):Str:=if f.b.toInt<0 then [] else [91]++Lib.itoa f.a.toInt++[44,32]++Lib.itoa f.b.toInt++[93]
variable {f:Fm}
theorem aX9 (h:(cK f.op).wn=true):wF f=wnT f:=by
 unfold wF wnT;rw [h]
 by_cases hb:f.b.toInt<0
 ·rw [aK hb,aK (by rw [aG hb];rfl)]
 ·rw [aA hb,aA (by rw [aL hb];decide)]
theorem LW (f:Fm):(wnT f).length<=46:=by
 unfold wnT
 split
 ·exact aN _
 ·have h1:=lU f.a;have h2:=lU f.b;simp only [aC,aF,aH];omega
inductive Fg2:Fm->Prop
 | two {op:UInt8} {a b:Int64} {g h:Fm} (ho:(op=9\/op=10\/op=11)/\a=0/\b=0\/op=15/\bnW a b):Fg2 (.mk op [] [] a b [] [g,h])
 | one {op:UInt8} {nm:Str} {a b:Int64} {g:Fm} (ho:((op=8\/op=12)/\a=0/\b=0)\/((op=13\/op=14)/\bnW a b)\/((op=16\/op=17)/\-1000000<=a.toInt/\-1000000<=b.toInt)):Fg2 (.mk op nm [] a b [] [g])
 | cnt {nm:Str} {a b n:Int64} {g:Fm} (ha:-1000000<=a.toInt) (hb:-1000000<=b.toInt) (hn:0<=n.toInt):Fg2 (.mk 18 nm [] a b [.mk 1 [] n []] [g])
theorem cJ9 (h:Fg7 f) (h7:¬ f.op.toNat<=7):Fg2 f:=by
 cases h with
 | tf h=>rcases h with rfl | rfl <;> exact absurd (by show (_:Nat)<=7;decide) h7
 | cmp=>exact absurd (by show (3:UInt8).toNat<=7;decide) h7
 | var=>exact absurd (by show (4:UInt8).toNat<=7;decide) h7
 | has=>exact absurd (by show (5:UInt8).toNat<=7;decide) h7
 | flg=>exact absurd (by show (6:UInt8).toNat<=7;decide) h7
 | arr=>exact absurd (by show (7:UInt8).toNat<=7;decide) h7
 | un h=>exact .one (.inl ⟨h,Z,Z⟩)
 | win h hw=>exact .one (.inr (.inl ⟨h,hw⟩))
 | amo h ha hb=>exact .one (.inr (.inr ⟨h,ha,hb⟩))
 | cnt ha hb hn=>exact .cnt ha hb hn
 | bin ho=>exact .two (.inl ⟨ho,Z,Z⟩)
 | snc hw=>exact .two (.inr ⟨Z,hw⟩)
theorem bQ7 {op:UInt8} {nm fd:Str} {b:Int64} {ex:List Ex} {args:List Fm} (h:Fg2 (.mk op nm fd a b ex args)) (hl:args.length=2):∃ g k,args=[g,k]/\nm=[]/\fd=[]/\ex=[]/\((op=9\/op=10\/op=11)/\a=0/\b=0\/op=15/\bnW a b):=by
 cases h with
 | two ho=>exact ⟨_,_,Z,Z,Z,Z,ho⟩
 | one=>cases hl
 | cnt=>cases hl
theorem bV2 {op:UInt8} {nm fd:Str} {b:Int64} {ex:List Ex} {args:List Fm} (h:Fg2 (.mk op nm fd a b ex args)) (hl:¬ args.length=2):∃ g,args=[g]/\fd=[]/\((ex=[]/\(((op=8\/op=12)/\a=0/\b=0)\/((op=13\/op=14)/\bnW a b)\/((op=16\/op=17)/\-1000000<=a.toInt/\-1000000<=b.toInt)))\/(op=18/\(∃ n,ex=[.mk 1 [] n []]/\0<=n.toInt)/\-1000000<=a.toInt/\-1000000<=b.toInt)):=by
 cases h with
 | two=>exact absurd rfl hl
 | one ho=>exact ⟨_,Z,Z,.inl ⟨Z,ho⟩⟩
 | cnt ha hb hn=>exact ⟨_,Z,Z,.inr ⟨Z,⟨_,Z,hn⟩,ha,hb⟩⟩
theorem fg3 {nm fd:Str} {b:Int64} {ex:List Ex} {args:List Fm} (h:Fg7 (.mk 3 nm fd a b ex args)):∃ o x y,ex=[.mk o [] 0 [x,y]]/\o∈([16,17,18,19,20,21]:List UInt8)/\eI x=true/\eI y=true:=by
 cases h with
 | cmp ho hx hy=>exact ⟨_,_,_,Z,ho,hx,hy⟩
 | tf h=>exact absurd h aS
 | un h=>exact absurd h aS
 | win h=>exact absurd h aS
 | amo h=>exact absurd h aS
 | bin h=>exact absurd h aS
theorem fg5 {nm fd:Str} {b:Int64} {ex:List Ex} {args:List Fm} (h:Fg7 (.mk 5 nm fd a b ex args)):∃ x,ex=[x]/\eI x=true:=by
 cases h with
 | has hx=>exact ⟨_,Z,hx⟩
 | tf h=>exact absurd h aS
 | un h=>exact absurd h aS
 | win h=>exact absurd h aS
 | amo h=>exact absurd h aS
 | bin h=>exact absurd h aS
theorem fg7 {nm fd:Str} {b:Int64} {ex:List Ex} {args:List Fm} (h:Fg7 (.mk 7 nm fd a b ex args)):ex.length<=4/\∀ x∈ex,x=zE\/eI x=true:=by
 cases h with
 | arr hl hx=>exact ⟨hl,hx⟩
 | tf h=>exact absurd h aS
 | un h=>exact absurd h aS
 | win h=>exact absurd h aS
 | amo h=>exact absurd h aS
 | bin h=>exact absurd h aS
theorem OH:∀ op∈([1,2,3,4,5,6,7,8,9,10,11,12,13,14,15,16,17,18]:List UInt8),(op.toNat<=7->(cK op).lv=6)/\(op.toNat=15->(cK op).lv=4)/\(9<=op.toNat->op.toNat<=11->(cK op).lv=12 - op.toNat)/\(7<op.toNat->¬ op.toNat=15->¬ (9<=op.toNat/\op.toNat<=11)->(cK op).lv=5):=by decide +kernel
theorem cN5 {op:UInt8} (h:1<=op.toNat) (h2:op.toNat<=18):op∈([1,2,3,4,5,6,7,8,9,10,11,12,13,14,15,16,17,18]:List UInt8):=by
 revert h h2
 exact pK (q:=λop=>1<=op.toNat->op.toNat<=18->op∈([1,2,3,4,5,6,7,8,9,10,11,12,13,14,15,16,17,18]:List UInt8)) qS op
theorem aE2 {op:UInt8} {nm fd:Str} {b:Int64} {ex:List Ex} {args:List Fm} (h:jJ (.mk op nm fd a b ex args)=true):1<=op.toNat/\op.toNat<=18:=by
 refine ⟨Nat.pos_of_ne_zero λe=>?_,VE h⟩;obtain rfl:op=0:=aR.1 e;exact (kJ h).1 rfl
theorem MO (hf:Fm.all jJ f=true) (hn:Fm.all rN f=true) (hc:f.count<=60):(fmT f).length<=24000:=by
 have:=aL5 f (aL0 f hf hn);omega
theorem YA (sep x:Str):∀ l:List Str,qM sep (l++[x])=if l=[] then x else qM sep l++sep++x
 | []=>rfl
 | [y]=>rfl
 | y::z::r=>by
  have h:=YA sep x (z::r);rw [aA fG] at h;rw [aA fG];show y++sep++qM sep ((z::r)++[x])=(y++sep++qM sep (z::r))++sep++x;rw [h];simp only [aV]
def aX7 (f:Fm):List Str:=[[97,110,100],[111,114],[105,109,112,108,105,101,115],[],[],[],[115,105,110,99,101]++wnT f]
def WG (f:Fm):List Str:=[[110,111,116],[],[],[],[112,114,101,118,105,111,117,115],[111,110,99,101]++wnT f,[97,108,119,97,121,115]++wnT f,[],[102,111,114,97,108,108],[101,120,105,115,116,115],[99,111,117,110,116]]
variable {g:Fm}
theorem OS {op:UInt8} {b:Int64} {h:Fm} (ho:(op=9\/op=10\/op=11)/\a=0/\b=0\/op=15/\bnW a b) :
 fmT (.mk op [] [] a b [] [g,h])=(pfW (cK op).lv g++([32]:Str)++(aX7 (.mk op [] [] a b [] [g,h])).getD (op.toNat - 9) []++([32]:Str)++pfW ((cK op).lv+1) h:Str):=by
 rcases ho with ⟨ho,rfl,rfl⟩ | ⟨rfl,_⟩
 ·rcases ho with rfl | rfl | rfl <;> (rw [fxb fG fG fG];simp only [aV];rfl)
 ·rw [fxb fG fG fG,aX9 (show (cK (Fm.mk 15 [] [] a b [] [g,h]).op).wn=true from rfl)];simp only [aV];rfl
theorem OT {op:UInt8} {nm:Str} {b:Int64} (ho:((op=8\/op=12)/\a=0/\b=0)\/((op=13\/op=14)/\bnW a b)) :
 fmT (.mk op nm [] a b [] [g])=((WG (.mk op nm [] a b [] [g])).getD (op.toNat - 8) []++([32]:Str)++pfW 5 g:Str):=by
 rcases ho with ⟨ho,rfl,rfl⟩ | ⟨ho,_⟩
 ·rcases ho with rfl | rfl <;> (rw [fxu fG fG];rfl)
 ·rcases ho with rfl | rfl <;> (rw [fxu fG fG,aX9 rfl];rfl)
theorem OV {op:UInt8} {nm:Str} {b:Int64} (ho:op=16\/op=17) :
 fmT (.mk op nm [] a b [] [g])=((WG (.mk op nm [] a b [] [g])).getD (op.toNat - 8) []++DX (.mk op nm [] a b [] [g])++([32]:Str)++pfW 5 g:Str):=by
 rcases ho with rfl | rfl <;> (rw [fxq fG fG];rfl)
theorem OU {nm:Str} {b n:Int64} :
 fmT (.mk 18 nm [] a b [.mk 1 [] n []] [g])=((WG (.mk 18 nm [] a b [.mk 1 [] n []] [g])).getD 10 []++DX (.mk 18 nm [] a b [.mk 1 [] n []] [g])++([32,40]:Str)++fmT g++[41,32,62,61,32]++Lib.itoa n.toInt:Str):=by
 rw [bW6 rfl rfl fG];rfl
theorem SJ (H:Hp) (n:Nat):n<=9223372036854775807->∀ (w:World),Agr H w->Calls prg 47 #[.int .i64 (n:Nat)] w λr w'=>r=.returned (bJ (Lib.decDigits n))/\Ext w w':=by
 induction n using Nat.strongRecOn with | _ n ih
 intro hn w hA;refine Sx.enter (H:=H) func47 rfl ntmps47 rfl hA ?_;refine .sr<|.aq Z<|.sq<|.sm Z<|.yw (.lss Z Z)<|.nt<|.ce Z (λh4=>?_) (λh4=>?_)
 ·exact absurd (by omega:False) id
 refine .sk<|.tN<|.sq<|.sm Z<|.yw (.lss Z Z)<|.nt<|.ce Z (λh10=>?_) (λh10=>?_)
 ·refine .sm Z<|.mv Z<|.yw (.add Z Z (c:=((n+1:Nat):Int)) ((w6 aD).trans aD))<|.yw (.cast (.midS (l:=aM2) dX Z Z Z (lo:=n) (hi:=n+1) Z Z aD (by show n+1<=10;omega)) (by rw [YT aD]))<|.az Z<|.tR<|?_
  refine yE Z Z ?_
  (rfl)
 refine .sk<|.tN<|.sm Z<|.yw (.quo Z Z aS (c:=((n / 10:Nat):Int)) (by rw [jO aD];exact (w6 aD).trans aD))<|.yw (.xl Z (λW s=>ih (n / 10) aD aD W s.agr))<|.mv Z<|.yw (.rem Z Z aS (c:=((n % 10:Nat):Int)) (by rw [dJ aD];omega))<|.yw (.xl Z (λW s=>ih (n % 10) aD aD W s.agr))<|.yw (.app Z Z (by have:=AO (n:=n / 10) aD;have:=AO (n:=n % 10) aD;omega))<|.az Z<|?_
 refine yE Z Z ?_
 (rw [aM4 (n:=n) aD];rfl)
theorem DD (H:Hp) (n:Int) (h1:-9223372036854775808<n) (h2:n<=9223372036854775807) (w:World) (hA:Agr H w):Calls prg 47 #[.int .i64 n] w λr w'=>r=.returned (bJ (Lib.itoa n))/\Ext w w':=by
 by_cases h0:0<=n
 ·have h:=SJ H n.toNat aD w hA;rw [show ((n.toNat:Nat):Int)=n by omega] at h;rw [Lib.itoa,aA aD];exact h
 refine Sx.enter (H:=H) func47 rfl ntmps47 rfl hA ?_;refine .sr<|.aq Z<|.sq<|.sm Z<|.yw (.lss Z Z)<|.nt<|.ce Z (λh4=>?_) (λh4=>?_)
 ·refine .sm Z<|.yw (.neg64 Z (c:=((n.natAbs:Nat):Int)) aD aD aD)<|.yw (.xl Z (λW s=>SJ H n.natAbs aD W s.agr))<|.yw (.app Z Z (by have:=AO (n:=n.natAbs) aD;simp only [aF,aH];omega))<|.az Z<|.tR<|?_
  refine yE Z Z ?_
  first
   | (rw [Lib.itoa,aK aD];rfl)
 exact absurd (by omega:False) id
theorem OQ (H:Hp) (op:UInt8) (k1:1<=op.toNat) (k2:op.toNat<=18) (w:World) (hA:Agr H w):Calls prg 44 #[.int .i64 op.toNat] w λr w'=>r=.returned (iN ((cK op).lv))/\Ext w w':=by
 have hm:=cN5 k1 k2;refine Sx.enter (H:=H) func44 rfl ntmps44 rfl hA ?_;refine .sr<|.aq Z<|.sq<|.bk<|.sm Z<|.yw (.leq Z Z)<|.aq Z<|.cd Z (λh3=>?_) (λh3=>?_)
 ·have h3p:=aI h3;refine .sr<|.az Z<|.bR<|.tR<|?_
  refine yE Z Z ?_
  (rw [(OH op hm).1 aD];rfl)
 have h3p:=aJ h3;refine .sm Z<|.yw (.eql Z Z)<|.aq Z<|.cd Z (λh6=>?_) (λh6=>?_)
 ·have h6p:=aI h6;refine .sr<|.az Z<|.bR<|.tR<|?_
  refine yE Z Z ?_
  (rw [(OH op hm).2.1 aD];rfl)
 have h6p:=aJ h6;refine .sm Z<|.yw (.geq Z Z)<|.mv Z<|.b2 (λh12=>?_) (λh12=>?_)
 ·have h12p:=aI h12;refine .gy (.move Z)<|.gy (.leq Z Z)<|.pT Z<|.aq Z<|.cd Z (λh9=>?_) (λh9=>?_)
  ·have h9p:=aI h9;refine .sm Z<|.yw (.sub Z Z (c:=((12 - op.toNat:Nat):Int)) ((w6 aD).trans aD))<|.az Z<|.bR<|.tR<|?_
   refine yE Z Z ?_
   (rw [(OH op hm).2.2.1 aD aD])
  have h9p:=aJ h9;refine .sk<|.bN<|.tN<|.sr<|.az Z<|?_
  refine yE Z Z ?_
  (rw [(OH op hm).2.2.2 aD aD aD];rfl)
 have h12p:=aJ h12;refine .g2<|.pF Z<|.aq Z<|.cF Z<|.sk<|.bN<|.tN<|.sr<|.az Z<|?_
 refine yE Z Z ?_
 (rw [(OH op hm).2.2.2 aD aD aD];rfl)
theorem OP (H:Hp) (f:Fm) (ha:-1000000<=f.a.toInt) (cs:List Value) (w:World) (h:Rep H (dFm .i64 f) cs) (hA:Agr H w):Calls prg 45 #[.agg cs.toArray] w λr w'=>r=.returned (bJ (wnT f))/\Ext w w':=by
 obtain ⟨op,nm,fd,a,b,ex,args⟩:=f;replace ha:-1000000<=a.toInt:=ha;obtain ⟨p1,c1,p2,c2,rfl,hs1,hs2,hnm,hfd⟩:=gK h;have hi1:=lU a;have hi2:=lU b;refine Sx.enter (H:=H) func45 rfl ntmps45 rfl hA ?_;refine .sr<|.bx Z Z Z λb1=>.aq Z<|.sq<|.sr<|.fA Z iW<|.lD Z bQ Hm Z<|.yw (.lss Z Z)<|.nt<|.cd Z (λh5=>?_) (λh5=>?_)
 ·have h5p:=aI h5;refine .sr<|.az Z<|.tR<|?_
  refine yE Z Z ?_
  (unfold wnT;rw [aK (show (Fm.b (.mk op nm fd a b ex args)).toInt<0 from h5p)];rfl)
 have h5p:=aJ h5;refine .sk<|.tN<|.sq<|.fL 10 [(0,0),(1,0),(2,0),(3,0),(4,0),(5,0),(6,0),(7,0),(8,0),(9,0)]<|.fA Z iX<|.lD Z bQ Hm Z<|.yw (.xl Z (λW s=>DD H a.toInt (by have:=a.le_toInt;omega) (by have:=a.toInt_lt;omega) W s.agr))<|.yw (.app Z Z (by simp only [aC,aF,aH];omega))<|.yw (.app Z Z (by simp only [aC,aF,aH];omega))<|.fA Z iW<|.lD Z bQ Hm Z<|.yw (.xl Z (λW s=>DD H b.toInt (by have:=b.le_toInt;omega) (by have:=b.toInt_lt;omega) W s.agr))<|.yw (.app Z Z (by simp only [aC,aF,aH];omega))<|.yw (.app Z Z (by simp only [aC,aF,aH];omega))<|.fn (tl:=[_]) Z<|.az Z<|?_
 refine yE Z Z ?_
 (unfold wnT;rw [aA (show ¬ (Fm.b (.mk op nm fd a b ex args)).toInt<0 from h5p)];rfl)
def cD2 (H:Hp) (f:Fm):Prop:=∀ (cs:List Value) (w:World),Rep H (dFm .i64 f) cs->Fm.all jJ f=true->Fm.all rN f=true->f.count<=60->Agr H w ->
 Calls prg 18 #[.agg cs.toArray] w λr w'=>r=.returned (bJ (fmT f))/\Ext w w'
theorem EN (H:Hp) (f:Fm) (ht:cD2 H f) (cs:List Value) (h:Rep H (dFm .i64 f) cs) (hf:Fm.all jJ f=true) (hn:Fm.all rN f=true) (hc:f.count<=60) (k m:Nat) (hk:k+1=m) (w:World) (hA:Agr H w) :
 Calls prg 46 #[.agg cs.toArray,iN k] w λr w'=>r=.returned (bJ (pfW m f))/\Ext w w':=by
 subst hk;have hl:=MO hf hn hc;obtain ⟨op,nm,fd,a,b,ex,args⟩:=f;have hop:=aE2 (wJ hf).1;obtain ⟨p1,c1,p2,c2,rfl,hs1,hs2,hnm,hfd⟩:=gK h;refine Sx.enter (H:=H) func46 rfl ntmps46 rfl hA ?_;refine .sr<|.bx Z Z Z λb2=>.aq Z<|.sq<|.sr<|.fA Z hQ<|.lD Z bQ Hm Z<|.yw (.xl Z (λW s=>OQ H op hop.1 hop.2 W s.agr))<|.mv Z<|.yw (.leq Z Z)<|.nt<|.cd Z (λh9=>?_) (λh9=>?_)
 ·have h9p:=aI h9;refine .sr<|.yw (.loadW Z dP Hm Z)<|.yw (.xl Z (λW s=>ht _ W h hf hn hc s.agr))<|.yw (.app Z Z (by (try simp only [aC]);(try simp only [aF,aH]);omega))<|.yw (.app Z Z (by (try simp only [aC]);(try simp only [aF,aH]);omega))<|.az Z<|.tR<|?_
  refine yE Z Z ?_
  (unfold pfW;rw [show decide ((cK (Fm.op (.mk op nm fd a b ex args))).lv<k+1)=true from aG (show (cK op).lv<k+1 by omega)];rfl)
 have h9p:=aJ h9;refine .sk<|.tN<|.sr<|.yw (.loadW Z dP Hm Z)<|.yw (.xl Z (λW s=>ht _ W h hf hn hc s.agr))<|.az Z<|?_
 refine yE Z Z ?_
 (unfold pfW;rw [show decide ((cK (Fm.op (.mk op nm fd a b ex args))).lv<k+1)=false from aL (show ¬ (cK op).lv<k+1 by omega)];rfl)
theorem UZ {ex:List Ex} (h:k<ex.length):qM (([44,32]:Str)) ((ex.map tmT).take (k+1))=if 0<k then qM (([44,32]:Str)) ((ex.map tmT).take k)++([44,32]:Str)++tmT ex[k] else qM (([44,32]:Str)) ((ex.map tmT).take k)++tmT ex[k]:=by
 rw [List.take_succ,List.getElem?_eq_getElem (by rw [aP];exact h),pI];show qM _ (_++[tmT ex[k]])=_;rw [YA]
 by_cases h0:0<k
 ·rw [aK h0,aA];intro e;have:=congrArg List.length e;rw [dG,aP,aH] at this;omega
 ·obtain rfl:k=0:=aD
  rw [zM,aK rfl,aA (Nat.lt_irrefl 0)];rfl
theorem XZ (sep:Str):∀ (l:List Str) (k:Nat),(qM sep (l.take k)).length<=(qM sep l).length
 | [],k=>by rw [List.take_nil];exact aY _
 | [x],0=>aN _
 | [x],k+1=>by rw [fX fG];exact aY _
 | x::y::r,0=>aN _
 | x::y::r,1=>by
  show x.length<=(x++sep++qM sep (y::r)).length;simp only [aC];omega
 | x::y::r,k+2=>by
  have:=XZ sep (y::r) (k+1);show (x++sep++qM sep ((y::r).take (k+1))).length<=(x++sep++qM sep (y::r)).length;simp only [aC];omega
theorem bH7 {ex:List Ex} (h4:ex.length<=4) (hx:∀ x∈ex,x=zE\/eI x=true) (hm:∀ x∈ex,oT x=false) (hc:Ex.counts ex<=60) (k:Nat):(qM (([44,32]:Str)) ((ex.map tmT).take k)).length<=7808:=by
 have h1:=XZ (([44,32]:Str)) (ex.map tmT) k;have h2:=MN (([44,32]:Str)) (ex.map tmT)
 have h3:((ex.map tmT).map List.length).sum<=130 * Ex.counts ex:=by
  have key:∀ l:List Ex,(∀ x∈l,x=zE\/eI x=true)->(∀ x∈l,oT x=false)->((l.map tmT).map List.length).sum<=130 * Ex.counts l:=by
   intro l;induction l with
   | nil=>intro _ _;exact aN _
   | cons y r ih =>
    intro k1 k2;have i1:=ih (λx hx=>k1 x (cD _ hx)) (λx hx=>k2 x (cD _ hx));rw [eP,eP,List.sum_cons,Ex.counts]
    have:(tmT y).length<=130 * y.count:=by
     rcases k1 y (bH ..) with e | e
     ·rw [e];decide
     ·exact AB e (k2 y (bH ..))
    omega
  exact key ex hx hm
 rw [aP] at h2;have e2:(([44,32]:Str)).length=2:=rfl;rw [e2] at h2;omega
theorem aS0 (H:Hp) (f:Fm) (hf:jJ f=true) (hn:rN f=true) (hc:f.count<=60) (h7:f.op.toNat<=7) (cs:List Value) (w:World) (h:Rep H (dFm .i64 f) cs) (hA:Agr H w) :
 Calls prg 43 #[.agg cs.toArray] w λr w'=>r=.returned (bJ (fmT f))/\Ext w w':=by
 obtain ⟨op,nm,fd,a,b,ex,args⟩:=f;replace h7:op.toNat<=7:=h7;have hop:=aE2 hf;have hg:=IB hf;obtain ⟨_,_,hms⟩:=ML hn;have hcx:Ex.counts ex<=60:=by rw [iA] at hc;omega
 obtain ⟨p1,c1,p2,c2,rfl,hs1,hs2,hnm,hfd⟩:=gK h;have hcap:=hs1.cap;refine Sx.enter (H:=H) func43 rfl ntmps43 rfl hA ?_;refine .sr<|.bx Z Z Z λb1=>.aq Z<|.sq<|.sr<|.fA Z hQ<|.lD Z bQ Hm Z<|.nt<|.bk<|.sr<|.yw (.eql Z Z)<|.aq Z<|.ce Z (λh8=>?_) (λh8=>?_)
 ·obtain rfl:op=1:=aR.1 (by show op.toNat=1;omega);refine .sr<|.az Z<|.bR<|.tR<|?_
  refine yE Z Z ?_
  (rw [vH];rfl)
 have n1:¬ op.toNat=1:=aD
 refine .sr<|.yw (.eql Z Z)<|.aq Z<|.ce Z (λh10=>?_) (λh10=>?_)
 ·obtain rfl:op=2:=aR.1 (by show op.toNat=2;omega);refine .sr<|.az Z<|.bR<|.tR<|?_
  refine yE Z Z ?_
  (rw [vH];rfl)
 have n2:¬ op.toNat=2:=aD
 refine .sr<|.yw (.eql Z Z)<|.aq Z<|.ce Z (λh12=>?_) (λh12=>?_)
 ·obtain rfl:op=3:=aR.1 (by show op.toNat=3;omega);obtain ⟨o,x,y,rfl,ho,hx,hy⟩:=fg3 hg;obtain ⟨bE,oE,cE,hpE,rE,lE,mE⟩:=hs1.elem (i:=0) (d:=dEx .i64 (.mk o [] 0 [x,y])) rfl;cases hpE;have hm3:=(GM (hms _ (bS.2 rfl))).2.2;obtain ⟨tx,tf⟩:=bM1 ho hx hy;have l1:=AB hx (hm3 x fG);have l2:=AB hy (hm3 y fG);have l3:=xX o;rw [iA,Ex.counts,Ex.counts,nF,Ex.counts,Ex.counts,Ex.counts] at hc;refine .sr<|.fA Z eZ<|.lD Z fM Hm Z<|.yw (.indexSl fK Z Z (i:=0) Z (Nat.succ_pos _) (q:=oE+0 * 4) Z)<|.yw (.loadMW Z cY mE lE)<|.yw (.cast (.xl Z (λW s=>uL H _ cE W rE tf (by rw [tx];simp only [aC,aF,aH];omega) s.agr)) (congrArg bJ tx))<|.az Z<|.bR<|.tR<|?_
  refine yE Z Z ?_
  (rw [vH];rfl)
 have n3:¬ op.toNat=3:=aD
 refine .sr<|.yw (.eql Z Z)<|.aq Z<|.ce Z (λh19=>?_) (λh19=>?_)
 ·obtain rfl:op=4:=aR.1 (by show op.toNat=4;omega);refine .sr<|.fA Z oL<|.lD Z bT Hm Z<|.yw (.app Z Z (by (try simp only [aC]);(try simp only [aF,aH]);omega))<|.fA Z oK<|.lD Z bT Hm Z<|.yw (.app Z Z (by (try simp only [aC]);(try simp only [aF,aH]);omega))<|.az Z<|.bR<|.tR<|?_
  refine yE Z Z ?_
  (rw [vH];rfl)
 have n4:¬ op.toNat=4:=aD
 refine .sr<|.yw (.eql Z Z)<|.aq Z<|.ce Z (λh27=>?_) (λh27=>?_)
 ·obtain rfl:op=5:=aR.1 (by show op.toNat=5;omega);obtain ⟨x,rfl,hx⟩:=fg5 hg;obtain ⟨bE,oE,cE,hpE,rE,lE,mE⟩:=hs1.elem (i:=0) (d:=dEx .i64 x) rfl;cases hpE;have l1:=AB hx (hms x fG);rw [iA,Ex.counts,Ex.counts] at hc;obtain ⟨tx,tf,_⟩:=HJ x hx;refine .sq<|.fL 15 [(0,0),(1,0),(2,0),(3,0),(4,0),(5,0),(6,0),(7,0),(8,0),(9,0),(10,0),(11,0),(12,0),(13,0),(14,0)]<|.fA Z oL<|.lD Z bT Hm Z<|.yw (.app Z Z (by (try simp only [aC]);(try simp only [aF,aH]);omega))<|.yw (.app Z Z (by (try simp only [aC]);(try simp only [aF,aH]);omega))<|.fA Z oK<|.lD Z bT Hm Z<|.yw (.app Z Z (by (try simp only [aC]);(try simp only [aF,aH]);omega))<|.yw (.app Z Z (by (try simp only [aC]);(try simp only [aF,aH]);omega))<|.fA Z eZ<|.lD Z fM Hm Z<|.yw (.indexSl fK Z Z (i:=0) Z (Nat.succ_pos _) (q:=oE+0 * 4) Z)<|.yw (.loadMW Z cY mE lE)<|.yw (.cast (.xl Z (λW s=>uL H _ cE W rE tf (by rw [tx];omega) s.agr)) (congrArg bJ tx))<|.yw (.app Z Z (by (try simp only [aC]);(try simp only [aF,aH]);omega))<|.yw (.app Z Z (by (try simp only [aC]);(try simp only [aF,aH]);omega))<|.fn (tl:=[_]) Z<|.az Z<|.bR<|.tR<|?_
  refine yE Z Z ?_
  (rw [vH];rfl)
 have n5:¬ op.toNat=5:=aD
 refine .sr<|.yw (.eql Z Z)<|.aq Z<|.ce Z (λh44=>?_) (λh44=>?_)
 ·obtain rfl:op=6:=aR.1 (by show op.toNat=6;omega);refine .sr<|.fA Z oL<|.lD Z bT Hm Z<|.yw (.app Z Z (by (try simp only [aC]);(try simp only [aF,aH]);omega))<|.az Z<|.bR<|.tR<|?_
  refine yE Z Z ?_
  (rw [vH];rfl)
 have n6:¬ op.toNat=6:=aD
 obtain rfl:op=7:=aR.1 (by show op.toNat=7;omega);obtain ⟨h4x,hxs⟩:=fg7 hg;refine .sk<|.bN<|.tN<|.sr<|.fA Z oL<|.lD Z bT Hm Z<|.yw (.app Z Z (by (try simp only [aC]);(try simp only [aF,aH]);omega))<|.yw (.app Z Z (by (try simp only [aC]);(try simp only [aF,aH]);omega))<|.fA Z oK<|.lD Z bT Hm Z<|.yw (.app Z Z (by (try simp only [aC]);(try simp only [aF,aH]);omega))<|.yw (.cast (v':=bJ (([97,114,114,105,118,101,115,32]:Str)++nm++([46]:Str)++fd++([40]:Str))) (.app (b:=([40]:Str)) Z Z (by simp only [aC,aF,aH];omega)) Z)<|.aq Z<|.sq<|.sr<|.fA Z eZ<|.lD Z fM Hm Z<|.yw (.lenSl fK Z)<|.mv Z<|.nt<|.bk<|.lp (X:=Nat) [(58,_),(59,_)] ⟨Z,Z,Jt⟩ [_] (λk=>[(3,bJ ((([97,114,114,105,118,101,115,32]:Str)++nm++([46]:Str)++fd++([40]:Str))++qM (([44,32]:Str)) ((ex.map tmT).take k))),(60,iN k)]) (λk=>H) (λk=>[]) (λk=>k<=ex.length) (λk=>ex.length - k) 0 (λ_ s=>s) ⟨by rw [zM];exact congrArg (λs=>some (bJ s)) (eL _).symm,Z,Jt⟩ (aN _) λk hC=>?_
 have hk0:=hC;refine .sr<|.yw (.lss Z Z)<|.nt<|.sq<|.ce Z (λh61=>?_) (λh61=>?_)
 ·have hk:k<ex.length:=aD
  obtain ⟨bE,oE,cE,hpE,rE,lE,mE⟩:=hs1.elem (eR (f:=dEx .i64) hk);cases hpE;have hjl:=bH7 h4x hxs hms hcx k;have hml:=hms _ (aX hk);refine .sk<|.tN<|.sq<|.bk<|.sm Z<|.yw (.indexSl fK Z Z Z aD (q:=oE+k * 4) Z)<|.yw (.loadMW Z cY mE lE)<|.al gX Z λb5=>.a Z Z<|.sV .head Z Z eD lE rE.one Z<|.nt<|.sq<|.sm Z<|.yw (.gtr Z Z)<|.nt<|.cd Z (λh66=>?_) (λh66=>?_)
  ·have h66p:=aI h66;refine .rg<|.mv Z<|.yw (.app Z Z (by (try simp only [aC]);(try simp only [aF,aH]);omega))<|.a Z Z<|.ns<|.yw (.loadW Z cY Hm lE)<|.yw (.xl Z (λW s=>NY H _ cE W rE s.agr))<|.nt<|.cd Z (λh70=>?_) (λh70=>?_)
   ·have hzv:tmT ex[k]=[95]:=by rw [aG4 h70];exact wG
    exact .rg<|.mv Z<|.yw (.app Z Z (by (try simp only [aC]);(try simp only [aF,aH]);omega))<|.a Z Z<|.nl<|.bN<|.tN<|.rg<|.yw (.add Z Z w7)<|.mv Z<|.nt<|.ag (k+1) ⟨by rw [UZ hk];first | exact congrArg (λs=>some (bJ s)) (by rw [aK aD,hzv];simp only [aV]) | exact congrArg (λs=>some (bJ s)) (by rw [aA aD,hzv];simp only [aV]),Z,Jt⟩ ⟨Z,Z,Jt⟩ (λ_ s=>s.pick [1] [_] Z Z) aD aD
   have hT:eI ex[k]=true:=by
    rcases hxs _ (aX hk) with e | e
    ·rw [e] at h70;cases (show true=false from h70)
    ·exact e
   obtain ⟨tx,tf,_⟩:=HJ _ hT;have l1:=AB hT hml;have l2:=xJ (aX hk);have hzv:tmT ex[k]=tmT ex[k]:=rfl;exact .rg<|.mv Z<|.yw (.loadW Z cY Hm lE)<|.yw (.cast (.xl Z (λW s=>uL H _ cE W rE tf (by rw [tx];omega) s.agr)) (congrArg bJ tx))<|.yw (.app Z Z (by (try simp only [aC]);(try simp only [aF,aH]);omega))<|.a Z Z<|.nl<|.bN<|.tN<|.rg<|.yw (.add Z Z w7)<|.mv Z<|.nt<|.ag (k+1) ⟨by rw [UZ hk];first | exact congrArg (λs=>some (bJ s)) (by rw [aK aD,hzv];simp only [aV]) | exact congrArg (λs=>some (bJ s)) (by rw [aA aD,hzv];simp only [aV]),Z,Jt⟩ ⟨Z,Z,Jt⟩ (λ_ s=>s.pick [1] [_] Z Z) aD aD
  have h66p:=aJ h66;refine .sk<|.tN<|.sr<|.yw (.loadW Z cY Hm lE)<|.yw (.xl Z (λW s=>NY H _ cE W rE s.agr))<|.nt<|.cd Z (λh70=>?_) (λh70=>?_)
  ·have hzv:tmT ex[k]=[95]:=by rw [aG4 h70];exact wG
   exact .rg<|.mv Z<|.yw (.app Z Z (by (try simp only [aC]);(try simp only [aF,aH]);omega))<|.a Z Z<|.nl<|.bN<|.tN<|.rg<|.yw (.add Z Z w7)<|.mv Z<|.nt<|.ag (k+1) ⟨by rw [UZ hk];first | exact congrArg (λs=>some (bJ s)) (by rw [aK aD,hzv];simp only [aV]) | exact congrArg (λs=>some (bJ s)) (by rw [aA aD,hzv];simp only [aV]),Z,Jt⟩ ⟨Z,Z,Jt⟩ (λ_ s=>s.pick [1] [_] Z Z) aD aD
  have hT:eI ex[k]=true:=by
   rcases hxs _ (aX hk) with e | e
   ·rw [e] at h70;cases (show true=false from h70)
   ·exact e
  obtain ⟨tx,tf,_⟩:=HJ _ hT;have l1:=AB hT hml;have l2:=xJ (aX hk);have hzv:tmT ex[k]=tmT ex[k]:=rfl;exact .rg<|.mv Z<|.yw (.loadW Z cY Hm lE)<|.yw (.cast (.xl Z (λW s=>uL H _ cE W rE tf (by rw [tx];omega) s.agr)) (congrArg bJ tx))<|.yw (.app Z Z (by (try simp only [aC]);(try simp only [aF,aH]);omega))<|.a Z Z<|.nl<|.bN<|.tN<|.rg<|.yw (.add Z Z w7)<|.mv Z<|.nt<|.ag (k+1) ⟨by rw [UZ hk];first | exact congrArg (λs=>some (bJ s)) (by rw [aK aD,hzv];simp only [aV]) | exact congrArg (λs=>some (bJ s)) (by rw [aA aD,hzv];simp only [aV]),Z,Jt⟩ ⟨Z,Z,Jt⟩ (λ_ s=>s.pick [1] [_] Z Z) aD aD
 obtain rfl:k=ex.length:=aD
 have hjl:=bH7 h4x hxs hms hcx ex.length;refine .ex<|.eb<|.sm Z<|.yw (.app Z Z (by (try simp only [aC]);(try simp only [aF,aH]);omega))<|.az Z<|?_
 refine yE Z Z ?_
 (rw [fx7 rfl,fX (by rw [aP];exact aY _)];simp only [aV];rfl)
theorem bM6 {b:Int64} (h:bnW a b):-1000000<=a.toInt/\-1000000<=b.toInt:=by
 rcases h with ⟨rfl,rfl⟩ | h
 ·decide
 ·omega
theorem cE1 {op:UInt8} {b:Int64} (ho:(op=9\/op=10\/op=11)/\a=0/\b=0\/op=15/\bnW a b):-1000000<=a.toInt/\9<=op.toNat/\op.toNat<=15/\1<=(cK op).lv:=by
 rcases ho with ⟨ho,rfl,rfl⟩ | ⟨rfl,h⟩
 ·rcases ho with rfl | rfl | rfl <;> decide
 ·exact ⟨(bM6 h).1,aS⟩
theorem cG5 {op:UInt8} {b:Int64} {ex:List Ex} (h:((ex=[]/\(((op=8\/op=12)/\a=0/\b=0)\/((op=13\/op=14)/\bnW a b)\/((op=16\/op=17)/\-1000000<=a.toInt/\-1000000<=b.toInt)))\/(op=18/\(∃ n,ex=[.mk 1 [] n []]/\0<=n.toInt)/\-1000000<=a.toInt/\-1000000<=b.toInt))):-1000000<=a.toInt/\-1000000<=b.toInt/\8<=op.toNat/\op.toNat<=18:=by
 rcases h with ⟨_,⟨ho,rfl,rfl⟩ | ⟨ho,hw⟩ | ⟨ho,ha,hb⟩⟩ | ⟨rfl,_,ha,hb⟩
 ·rcases ho with rfl | rfl <;> decide
 ·rcases ho with rfl | rfl <;> exact ⟨(bM6 hw).1,(bM6 hw).2,aS⟩
 ·rcases ho with rfl | rfl <;> exact ⟨ha,hb,aS⟩
 ·exact ⟨ha,hb,aS⟩
theorem cG6 {b:Int64} {ex:List Ex} (h:((ex=[]/\((((18:UInt8)=8\/(18:UInt8)=12)/\a=0/\b=0)\/(((18:UInt8)=13\/(18:UInt8)=14)/\bnW a b)\/(((18:UInt8)=16\/(18:UInt8)=17)/\-1000000<=a.toInt/\-1000000<=b.toInt)))\/((18:UInt8)=18/\(∃ n,ex=[.mk 1 [] n []]/\0<=n.toInt)/\-1000000<=a.toInt/\-1000000<=b.toInt))):∃ n,ex=[.mk 1 [] n []]/\0<=n.toInt:=by
 rcases h with ⟨_,⟨ho,_⟩ | ⟨ho,_⟩ | ⟨ho,_⟩⟩ | ⟨_,h,_⟩
 ·exact absurd ho aS
 ·exact absurd ho aS
 ·exact absurd ho aS
 ·exact h
theorem cG3 {op:UInt8} {b:Int64} {ex:List Ex} (h:((ex=[]/\(((op=8\/op=12)/\a=0/\b=0)\/((op=13\/op=14)/\bnW a b)\/((op=16\/op=17)/\-1000000<=a.toInt/\-1000000<=b.toInt)))\/(op=18/\(∃ n,ex=[.mk 1 [] n []]/\0<=n.toInt)/\-1000000<=a.toInt/\-1000000<=b.toInt))) (h16:¬ 16<=op.toNat):ex=[]/\(((op=8\/op=12)/\a=0/\b=0)\/((op=13\/op=14)/\bnW a b)):=by
 rcases h with ⟨he,h | h | ⟨ho,_⟩⟩ | ⟨rfl,_⟩
 ·exact ⟨he,.inl h⟩
 ·exact ⟨he,.inr h⟩
 ·rcases ho with rfl | rfl <;> exact absurd aS h16
 ·exact absurd aS h16
theorem cG4 {op:UInt8} {b:Int64} {ex:List Ex} (h:((ex=[]/\(((op=8\/op=12)/\a=0/\b=0)\/((op=13\/op=14)/\bnW a b)\/((op=16\/op=17)/\-1000000<=a.toInt/\-1000000<=b.toInt)))\/(op=18/\(∃ n,ex=[.mk 1 [] n []]/\0<=n.toInt)/\-1000000<=a.toInt/\-1000000<=b.toInt))) (h16:16<=op.toNat) (h18:¬ op.toNat=18):ex=[]/\(op=16\/op=17):=by
 rcases h with ⟨he,⟨ho,_⟩ | ⟨ho,_⟩ | ⟨ho,_⟩⟩ | ⟨rfl,_⟩
 ·rcases ho with rfl | rfl <;> exact absurd h16 aS
 ·rcases ho with rfl | rfl <;> exact absurd h16 aS
 ·exact ⟨he,ho⟩
 ·exact absurd aS h18
theorem aX6 (f:Fm) (i:Nat):((aX7 f).getD i []).length<=60:=by
 refine MB (λx hx=>?_) i;have:=LW f;unfold aX7 at hx;simp only [bM,List.not_mem_nil,or_false] at hx;rcases hx with rfl | rfl | rfl | rfl | rfl | rfl | rfl <;> simp only [aC,aF,aH] <;> omega
theorem aX8 (f:Fm) (i:Nat):((WG f).getD i []).length<=60:=by
 refine MB (λx hx=>?_) i;have:=LW f;unfold WG at hx;simp only [bM,List.not_mem_nil,or_false] at hx;rcases hx with rfl | rfl | rfl | rfl | rfl | rfl | rfl | rfl | rfl | rfl | rfl <;> simp only [aC,aF,aH] <;> omega
set_option maxHeartbeats 2000000 in
theorem SI (H:Hp) (f:Fm):cD2 H f:=by
 induction f using Fm.ind with | _ op nm fd a b ex args ih
 intro cs w h hf hn hc hA;obtain ⟨hf1,hfs⟩:=wJ hf;rw [kF,aE,bD] at hn;obtain ⟨hn1,hns⟩:=hn;have hop:=aE2 hf1;have hg:=IB hf1;have hcs:Fm.counts args<=60:=by rw [iA] at hc;omega
 obtain ⟨p1,c1,p2,c2,rfl,hs1,hs2,hnm,hfd⟩:=gK h;have hcap2:=hs2.cap;refine Sx.enter (H:=H) func18 rfl ntmps18 rfl hA ?_;refine .sr<|.bx Z Z Z λb1=>.aq Z<|.sq<|.sr<|.fA Z hQ<|.lD Z bQ Hm Z<|.yw (.leq Z Z)<|.nt<|.cd Z (λh8=>?_) (λh8=>?_)
 ·have h8p:=aI h8;refine .sr<|.yw (.loadW Z dP Hm Z)<|.yw (.xl Z (λW s=>aS0 H (.mk op nm fd a b ex args) hf1 hn1 hc (show op.toNat<=7 by omega) _ W h s.agr))<|.az Z<|.tR<|?_
  refine yE Z Z ?_
  first
   | (rfl)
   | (rw [OS ho];simp only [aV];rfl)
   | (rw [OU];simp only [aV];rfl)
   | (rw [OV hoh];simp only [aV];rfl)
   | (rw [OT hol];simp only [aV];rfl)
 have h8p:=aJ h8;have hg2:=cJ9 hg (show ¬ op.toNat<=7 by omega);refine .sk<|.tN<|.sq<|.sr<|.fA Z jL<|.lD Z qR Hm Z<|.yw (.lenSl oI Z)<|.yw (.eql Z Z)<|.nt<|.cd Z (λh14=>?_) (λh14=>?_)
 ·have h14p:=aI h14;obtain ⟨g,k,rfl,rfl,rfl,rfl,ho⟩:=bQ7 hg2 aD;obtain ⟨bE,oE,cE,hpE,rE,lE,mE⟩:=hs2.elem (i:=0) (d:=dFm .i64 g) rfl;cases hpE;obtain ⟨bF,oF,cF,hpF,rF,lF,mF⟩:=hs2.elem (i:=1) (d:=dFm .i64 k) rfl;cases hpF;have f1:=hfs g fG;have n1:=hns g fG;have cc1:=aZ (uQ (l:=_) (e:=g) (by simp:g∈_)) hcs;have ll1:=MO f1 n1 cc1;have f2:=hfs k fG;have n2:=hns k fG;have cc2:=aZ (uQ (l:=_) (e:=k) (by simp:k∈_)) hcs;have ll2:=MO f2 n2 cc2;have pl1:=(BK (cK op).lv g).2;have pl2:=(BK ((cK op).lv+1) k).2;have wl:=LW (Fm.mk op [] [] a b [] [g,k]);obtain ⟨ha,ho9,ho15,hlv⟩:=cE1 ho;have hl6:=bG1 op;have hwl:=aX6 (Fm.mk op [] [] a b [] [g,k]) (op.toNat - 9);refine .sr<|.fA Z hQ<|.lD Z bQ Hm Z<|.yw (.xl Z (λW s=>OQ H op hop.1 hop.2 W s.agr))<|.aq Z<|.sq<|.fL 9 [(0,0),(1,0),(2,0),(4,0),(5,0),(6,0),(3,1),(7,0),(8,0)]<|.yw (.loadW Z dP Hm Z)<|.yw (.xl Z (λW s=>OP H (Fm.mk op [] [] a b [] [g,k]) ha _ W h s.agr))<|.yw (.cast (v':=bJ (([115,105,110,99,101]:Str)++wnT (Fm.mk op [] [] a b [] [g,k]))) (.app (a:=([115,105,110,99,101]:Str)) Z Z (by simp only [aC,aF,aH];omega)) Z)<|.fA Z hQ<|.lD Z bQ Hm Z<|.yw (.sub Z Z (c:=((op.toNat - 9:Nat):Int)) ((w6 aD).trans aD))<|.bl Z (aI0 _ _ _ _ _ _ _) Z λb21=>.yw (.indexSl fD Z Z (i:=op.toNat - 9) Z aD (q:=op.toNat - 9) aD)<|.yw (.load (v:=bJ ((aX7 (Fm.mk op [] [] a b [] [g,k])).getD (op.toNat - 9) [])) Z bT Hm (tI (f:=bJ) (l:=aX7 (Fm.mk op [] [] a b [] [g,k])) (by show _<7;omega) []))<|.fn (tl:=[_]) Z<|.aq Z<|.sq<|.fL 18 [(0,0),(1,0),(2,0),(3,0),(4,0),(5,0),(6,0),(7,0),(8,0),(9,0),(10,0),(11,0),(12,0),(13,0),(14,0),(15,0),(16,0),(17,0)]<|.fA Z jL<|.lD Z qR cU Z<|.yw (.indexSl oI Z Z (i:=0) Z (Nat.succ_pos _) (q:=oE+0 * 7) Z)<|.yw (.loadMW Z dP mE (qD rE))<|.mv Z<|.yw (.sub Z Z (c:=(((cK op).lv - 1:Nat):Int)) ((w6 aD).trans aD))<|.yw (.xl Z (λW s=>EN H g (ih g fG) cE rE f1 n1 cc1 ((cK op).lv - 1) (cK op).lv aD W s.agr))<|.yw (.app Z Z (by (try simp only [aC]);(try simp only [aF,aH]);omega))<|.mv Z<|.yw (.app Z Z (by (try simp only [aC]);(try simp only [aF,aH]);omega))<|.yw (.app Z Z (by (try simp only [aC]);(try simp only [aF,aH]);omega))<|.fA Z jL<|.lD Z qR cU Z<|.yw (.indexSl oI Z Z (i:=1) Z (dF 1) (q:=oE+1 * 7) Z)<|.yw (.loadMW Z dP mF (qD rF))<|.mv Z<|.yw (.xl Z (λW s=>EN H k (ih k fG) cF rF f2 n2 cc2 (cK op).lv ((cK op).lv+1) Z W s.agr))<|.yw (.app Z Z (by (try simp only [aC]);(try simp only [aF,aH]);omega))<|.fn (tl:=[_]) Z<|.az Z<|.tR<|?_
  refine yE Z Z ?_
  first
   | (rfl)
   | (rw [OS ho];simp only [aV];rfl)
   | (rw [OU];simp only [aV];rfl)
   | (rw [OV hoh];simp only [aV];rfl)
   | (rw [OT hol];simp only [aV];rfl)
 have h14p:=aJ h14;obtain ⟨g,rfl,rfl,hcase⟩:=bV2 hg2 (λe=>h14p (by rw [e];rfl));obtain ⟨bE,oE,cE,hpE,rE,lE,mE⟩:=hs2.elem (i:=0) (d:=dFm .i64 g) rfl;cases hpE;have f1:=hfs g fG;have n1:=hns g fG;have cc1:=aZ (uQ (l:=_) (e:=g) (by simp:g∈_)) hcs;have ll1:=MO f1 n1 cc1;have pl1:=(BK 5 g).2;have wl:=LW (Fm.mk op nm [] a b ex [g]);obtain ⟨ha,hb,ho8,ho18⟩:=cG5 hcase;have hwl:=aX8 (Fm.mk op nm [] a b ex [g]) (op.toNat - 8);have hi1:=lU a;have hi2:=lU b;have hal:=MY (op:=op) (nm:=nm) (fd:=[]) (a:=a) (b:=b) (ex:=ex) (args:=[g]);refine .sk<|.tN<|.sq<|.fL 12 [(0,0),(1,0),(2,0),(3,0),(4,0),(5,0),(7,0),(8,0),(9,0),(6,1),(10,0),(11,0)]<|.yw (.loadW Z dP Hm Z)<|.yw (.xl Z (λW s=>OP H (Fm.mk op nm [] a b ex [g]) ha _ W h s.agr))<|.yw (.cast (v':=bJ (([111,110,99,101]:Str)++wnT (Fm.mk op nm [] a b ex [g]))) (.app (a:=([111,110,99,101]:Str)) Z Z (by simp only [aC,aF,aH];omega)) Z)<|.yw (.loadW Z dP Hm Z)<|.yw (.xl Z (λW s=>OP H (Fm.mk op nm [] a b ex [g]) ha _ W h s.agr))<|.yw (.cast (v':=bJ (([97,108,119,97,121,115]:Str)++wnT (Fm.mk op nm [] a b ex [g]))) (.app (a:=([97,108,119,97,121,115]:Str)) Z Z (by simp only [aC,aF,aH];omega)) Z)<|.fA Z hQ<|.lD Z bQ Hm Z<|.yw (.sub Z Z (c:=((op.toNat - 8:Nat):Int)) ((w6 aD).trans aD))<|.bl Z (ZM _ _ _ _ _ _ _ _ _ _ _) Z λb51=>.yw (.indexSl fD Z Z (i:=op.toNat - 8) Z aD (q:=op.toNat - 8) aD)<|.yw (.load (v:=bJ ((WG (Fm.mk op nm [] a b ex [g])).getD (op.toNat - 8) [])) Z bT Hm (tI (f:=bJ) (l:=WG (Fm.mk op nm [] a b ex [g])) (by show _<11;omega) []))<|.fn (tl:=[_]) Z<|.aq Z<|.sq<|.sr<|.fA Z hQ<|.lD Z bQ cU Z<|.yw (.geq Z Z)<|.nt<|.cd Z (λh59=>?_) (λh59=>?_)
 ·have h59p:=aI h59;refine .fL 15 [(0,0),(1,0),(2,0),(3,0),(4,0),(5,0),(6,0),(7,0),(8,0),(9,0),(10,0),(11,0),(12,0),(13,0),(14,0)]<|.mv Z<|.fA Z oL<|.lD Z bT cU Z<|.yw (.app Z Z (by (try simp only [aC]);(try simp only [aF,aH]);omega))<|.yw (.app Z Z (by (try simp only [aC]);(try simp only [aF,aH]);omega))<|.fA Z iX<|.lD Z bQ cU Z<|.yw (.xl Z (λW s=>DD H a.toInt aD (by have:=a.toInt_lt;omega) W s.agr))<|.yw (.app Z Z (by (try simp only [aC]);(try simp only [aF,aH]);omega))<|.yw (.app Z Z (by (try simp only [aC]);(try simp only [aF,aH]);omega))<|.fA Z iW<|.lD Z bQ cU Z<|.yw (.xl Z (λW s=>DD H b.toInt aD (by have:=b.toInt_lt;omega) W s.agr))<|.yw (.app Z Z (by (try simp only [aC]);(try simp only [aF,aH]);omega))<|.yw (.cast (v':=bJ (((WG (Fm.mk op nm [] a b ex [g])).getD (op.toNat - 8) [])++DX (Fm.mk op nm [] a b ex [g]))) (.app Z Z (by simp only [aC,aF,aH];omega)) Z)<|.fn (tl:=[_]) Z<|.aq Z<|.sq<|.sr<|.fA Z hQ<|.lD Z bQ cU Z<|.yw (.eql Z Z)<|.nt<|.cd Z (λh77=>?_) (λh77=>?_)
  ·try simp only [dt] at h77
   obtain rfl:op=18:=aR.1 (by show op.toNat=18;omega);obtain ⟨n,rfl,hn0⟩:=cG6 hcase;obtain ⟨bG,oG,cG,hpG,rG,lG,mG⟩:=hs1.elem (i:=0) (d:=dEx .i64 (.mk 1 [] n [])) rfl;cases hpG;obtain ⟨p9,c9,rfl,_,_⟩:=eV rG;have hi3:=lU n;refine .sq<|.fL 16 [(0,0),(1,0),(2,0),(3,0),(4,0),(5,0),(6,0),(7,0),(8,0),(9,0),(10,0),(11,0),(12,0),(13,0),(14,0),(15,0)]<|.mv Z<|.yw (.app Z Z (by (try simp only [aC]);(try simp only [aF,aH]);omega))<|.fA Z jL<|.lD Z qR cU Z<|.yw (.indexSl oI Z Z (i:=0) Z (Nat.succ_pos _) (q:=oE+0 * 7) Z)<|.yw (.loadMW Z dP mE (qD rE))<|.yw (.xl Z (λW s=>ih g fG cE W rE f1 n1 cc1 s.agr))<|.yw (.app Z Z (by (try simp only [aC]);(try simp only [aF,aH]);omega))<|.yw (.app Z Z (by (try simp only [aC]);(try simp only [aF,aH]);omega))<|.fA Z eZ<|.lD Z fM cU Z<|.yw (.indexSl fK Z Z (i:=0) Z (Nat.succ_pos _) (q:=oG+0 * 4) Z)<|.fA Z mU<|.yw (.loadM Z jN mG (k:=2) Z Z)<|.yw (.xl Z (λW s=>DD H n.toInt aD (by have:=n.toInt_lt;omega) W s.agr))<|.yw (.app Z Z (by (try simp only [aC]);(try simp only [aF,aH]);omega))<|.fn (tl:=[_]) Z<|.az Z<|.tR<|?_
   refine yE Z Z ?_
   first
    | (rfl)
    | (rw [OS ho];simp only [aV];rfl)
    | (rw [OU];simp only [aV];rfl)
    | (rw [OV hoh];simp only [aV];rfl)
    | (rw [OT hol];simp only [aV];rfl)
  try simp only [df] at h77
  obtain ⟨rfl,hoh⟩:=cG4 hcase aD aD;refine .sk<|.tN<|.sm Z<|.yw (.app Z Z (by (try simp only [aC]);(try simp only [aF,aH]);omega))<|.fA Z jL<|.lD Z qR cU Z<|.yw (.indexSl oI Z Z (i:=0) Z (Nat.succ_pos _) (q:=oE+0 * 7) Z)<|.yw (.loadMW Z dP mE (qD rE))<|.yw (.xl Z (λW s=>EN H g (ih g fG) cE rE f1 n1 cc1 4 5 Z W s.agr))<|.yw (.app Z Z (by (try simp only [aC]);(try simp only [aF,aH]);omega))<|.az Z<|?_
  refine yE Z Z ?_
  first
   | (rfl)
   | (rw [OS ho];simp only [aV];rfl)
   | (rw [OU];simp only [aV];rfl)
   | (rw [OV hoh];simp only [aV];rfl)
   | (rw [OT hol];simp only [aV];rfl)
 have h59p:=aJ h59;refine .sk<|.tN<|.sq<|.sr<|.fA Z hQ<|.lD Z bQ cU Z<|.yw (.eql Z Z)<|.nt<|.cd Z (λh77=>?_) (λh77=>?_)
 ·try simp only [dt] at h77
  exact absurd (by omega:False) id
 try simp only [df] at h77
 obtain ⟨rfl,hol⟩:=cG3 hcase aD;refine .sk<|.tN<|.sm Z<|.yw (.app Z Z (by (try simp only [aC]);(try simp only [aF,aH]);omega))<|.fA Z jL<|.lD Z qR cU Z<|.yw (.indexSl oI Z Z (i:=0) Z (Nat.succ_pos _) (q:=oE+0 * 7) Z)<|.yw (.loadMW Z dP mE (qD rE))<|.yw (.xl Z (λW s=>EN H g (ih g fG) cE rE f1 n1 cc1 4 5 Z W s.agr))<|.yw (.app Z Z (by (try simp only [aC]);(try simp only [aF,aH]);omega))<|.az Z<|?_
 refine yE Z Z ?_
 first
  | (rfl)
  | (rw [OS ho];simp only [aV];rfl)
  | (rw [OU];simp only [aV];rfl)
  | (rw [OV hoh];simp only [aV];rfl)
  | (rw [OT hol];simp only [aV];rfl)
theorem bP7:jI prg 53=some (some 3):=by kernel_rfl
theorem wS {α:Type} {a:α} {I:Decidable (¬ a=a)} :Value.bool (@decide (¬ a=a) I)=.bool false:=congrArg Value.bool (aL (λh=>h rfl))
theorem cK8 {α:Type} {a:α} {I:Decidable (a=a)} :Value.bool (@decide (a=a) I)=.bool true:=congrArg Value.bool (aG rfl)
def cS0 (gf:FuncId) (d:D) (H:Hp):Prop:=∀ (ca cb:List Value) (w:World),Rep H d ca->Rep H d cb->Agr H w->Calls prg gf #[.agg ca.toArray,.agg cb.toArray] w λr w'=>r=.returned (.bool true)/\Ext w w'
theorem IE (H:Hp) (gf:FuncId) (hgf:kM prg gf=true) (l:List Ex) (hq:∀ a∈l,cS0 gf (dEx .u8 a) H) (v u:Value) (hs:Rep H (.seq 4 (l.map (dEx .u8))) [v]) (ht:Rep H (.seq 4 (l.map (dEx .u8))) [u]) (w:World) (hA:Agr H w) :
 Calls prg 51 #[v,u,.func (.func gf) #[] #[]] w λr w'=>r=.returned (.bool true)/\Ext w w':=by
 obtain ⟨p,c,e,_⟩:=hs.sl;simp only [bV,dL,aP] at e;subst e;obtain ⟨p2,c2,e,_⟩:=ht.sl;simp only [bV,dL,aP] at e;subst e;have hcap:=hs.cap;have hcap2:=ht.cap;refine Sx.enter (H:=H) func51 rfl ntmps51 rfl hA ?_;refine .sr<|.aq Z<|.sq<|.sm Z<|.yw (.lenSl eG Z)<|.mv Z<|.yw (.lenSl eG Z)<|.yw (.cast (.neq Z Z) wS)<|.nt<|.cF Z<|.sk<|.tN<|.sq<|.sm Z<|.yw (.lenSl eG Z)<|.mv Z<|.nt<|.bk<|.lp (X:=Nat) [(1,_),(2,_),(15,_),(16,_)] ⟨Z,Z,Z,Z,Jt⟩ [] (λk=>[(17,iN k)]) (λk=>H) (λk=>[]) (λk=>k<=l.length) (λk=>l.length - k) 0 (λ_ s=>s) ⟨Z,Jt⟩ (aN _) λk hC=>?_
 refine .sr<|.yw (.lss Z Z)<|.nt<|.sq<|.ce Z (λh18=>?_) (λh18=>?_)
 ·have hk:k<l.length:=aD
  obtain ⟨bE,oE,cE,hpE,rE,lE,mE⟩:=hs.elem (eR hk);cases hpE;obtain ⟨bF,oF,cF,hpF,rF,lF,mF⟩:=ht.elem (eR hk);cases hpF;exact .sk<|.tN<|.sq<|.bk<|.sm Z<|.yw (.indexSl eG Z Z Z aD (q:=oE+k * 4) Z)<|.yw (.loadMW Z eM mE lE)<|.al kQ Z λb8=>.a Z Z<|.sV .head Z Z gR lE rE.one Z<|.ns<|.mv Z<|.mv Z<|.yw (.indexSl eG Z Z Z aD (q:=oF+k * 4) Z)<|.yw (.loadMW Z eM mF lF)<|.al kQ Z λb9=>.sV .head Z Z gR lF rF.one Z<|.ns<|.mv Z<|.yw (.loadW Z eM cU lE)<|.yw (.loadW Z eM Hm lF)<|.yw (.callV (fi:=[]) (ca:=[]) Z hgf Z (λW s=>hq _ (aX hk) cE cF W rE rF s.agr))<|.yw (.not Z)<|.nt<|.cF Z<|.sk<|.bN<|.tN<|.rg<|.yw (.add Z Z w7)<|.mv Z<|.nt<|.ag (k+1) ⟨Z,Jt⟩ ⟨Z,Z,Z,Z,Jt⟩ (λ_ s=>s.pick [] [] Z Z) hk aD
 refine .ex<|.eb<|.sr<|.az Z<|?_
 exact yE Z Z Z
theorem BQ (H:Hp) (a:Ex):cS0 52 (dEx .u8 a) H:=by
 induction a using Ex.ind with | _ op nm n args ih
 intro ca cb w ha hb hA;obtain ⟨p,c,rfl,hs,hnm⟩:=eV ha;obtain ⟨p2,c2,rfl,hs2,hnm2⟩:=eV hb;refine Sx.enter (H:=H) func52 rfl ntmps52 rfl hA ?_;refine .sr<|.bx Z Z Z λb2=>.bx Z Z Z λb3=>.a Z Z<|.ns<|.fA Z hP<|.lD Z kO cU Z<|.fA Z hP<|.lD Z kO Hm Z<|.yw (.cast (.eql Z Z) cK8)<|.mv Z<|.gy (.fieldAddr Z gN)<|.gy (.load Z bT cU Z)<|.gy (.fieldAddr Z gN)<|.gy (.load Z bT Hm Z)<|.gy (.cast (.eqS Z Z) cK8)<|.pT Z<|.mv Z<|.gy (.fieldAddr Z gS)<|.gy (.load Z jN cU Z)<|.gy (.fieldAddr Z gS)<|.gy (.load Z jN Hm Z)<|.gy (.cast (.eql Z Z) cK8)<|.pT Z<|.mv Z<|.gy (.fieldAddr Z eS)<|.gy (.load Z dR cU Z)<|.gy (.fieldAddr Z eS)<|.gy (.load Z dR Hm Z)<|.gy (.xl Z (λW s=>IE H 52 AV args ih _ _ hs hs2 W s.agr))<|.pT Z<|.az Z<|?_
 exact yE Z Z Z
set_option maxHeartbeats 2000000 in
theorem bY3 (H:Hp) (f:Fm) (N:Nat) (hb:blF N f=true) (hN:N * f.count<=100000000000) (hN1:N<=100000000000) (cs ds:List Value) (w:World) (h:Rep H (dFm .u8 f) cs) (k:Rep H (dFm .u8 f) ds) (hA:Agr H w):Calls prg 24 #[.agg cs.toArray,.agg ds.toArray] w λr w'=>r=.returned (.bool true)/\Ext w w':=by
 obtain ⟨op,nm,fd,a,b,ex,args⟩:=f;obtain ⟨p1,c1,p2,c2,rfl,_,_,_,_⟩:=gK h;obtain ⟨p3,c3,p4,c4,rfl,_,_,_,_⟩:=gK k;refine Sx.enter (H:=H) func24 rfl ntmps24 rfl hA ?_;refine .sr<|.bx Z Z Z λb2=>.bx Z Z Z λb3=>.aq Z<|.sq<|.ft (p:=.light _ _ (.light _ _ (.alt _ _ _ (.light _ _ (.alt _ _ _ (.done) (.no))) (.alt _ _ _ (.alt _ _ _ (.light _ _ (.done)) (.no)) (.no))))) 5 (.light 0 (.light 2 (.alt 1 0 (.light 4 (.alt 3 0 (.done) (.no))) (.alt 3 0 (.alt 1 0 (.light 4 (.done)) (.no)) (.no))))) fT fT Z<|.yw (.loadW Z cQ cU Z)<|.yw (.loadW Z cQ Hm Z)<|.h ?_ (.h ?_ .nn)
 ·
  refine .blR (z:=7) Z (rV _ _ _ _ _ _ _) Z Z (by simp [maxLen]) λb11=>.a Z Z<|.h1<|.blR (z:=7) Z (rV _ _ _ _ _ _ _) Z Z (by simp [maxLen]) λb13=>.fn (tl:=[_]) Z<|.aq Z<|.sq<|.sr<|.aq Z<|.bk<|.pm [1,0,2,3] [_,_,_,_] Z Z<|.lp (X:=Nat × List Fm × Value × Value × List Value × List Value) [] trivial [_,_] (λz=>[(5,z.2.2.1),(6,z.2.2.2.1),(7,.int .i64 ((z.2.1.length:Int) - 1))]) (λz=>H) (λz=>[.row 35 7 z.2.2.1 z.2.1.length z.2.2.2.2.1,.row 35 7 z.2.2.2.1 z.2.1.length z.2.2.2.2.2]) (λz=>dT H 7 (z.2.1.map (dFm .u8)) z.2.2.2.2.1/\dT H 7 (z.2.1.map (dFm .u8)) z.2.2.2.2.2/\z.1+Fm.counts z.2.1<=Fm.count (.mk op nm fd a b ex args)/\(∀ g∈z.2.1,blF N g=true)/\z.2.1.length<=1+N * z.1) (λz=>Fm.counts z.2.1) (0,[Fm.mk op nm fd a b ex args],.slice (dI b11) 1 1,.slice (dI b13) 1 1,[.int .u8 op.toNat,bJ nm,bJ fd,.int .i64 a.toInt,.int .i64 b.toInt,.slice p1 ex.length c1,.slice p2 args.length c2],[.int .u8 op.toNat,bJ nm,bJ fd,.int .i64 a.toInt,.int .i64 b.toInt,.slice p3 ex.length c3,.slice p4 args.length c4]) (λ_ s=>s) ⟨Z,Z,Z,Jt⟩ ⟨.single h Z,.single k Z,by rw [Fm.counts,Fm.counts];omega,λg hg=>by rw [bS.1 hg];exact hb,by simp⟩ λz hC=>?_
  obtain ⟨n,fs,rf,rg,xf,xg⟩:=z;obtain ⟨zf,zg,hcnt,hbf,hlen⟩:=hC;dsimp only at zf zg hcnt hbf hlen|-;have hNn:N * n<=N * Fm.count (.mk op nm fd a b ex args):=mV N aD;refine At.ra (size:=7) (r:=rf) (e:=35) Hm λpf cf e=>?_;subst e;refine At.ra (size:=7) (r:=rg) (e:=35) cU λpg cg e=>?_;subst e;refine .sq<|.sm Z<|.yw (.geq Z Z)<|.nt<|.cd Z (λh15=>?_) (λh15=>?_)
  ·try simp only [dt] at h15
   have hpos:0<fs.length:=aD
   obtain ⟨fs0,f0,rfl⟩:∃ fs0 f0,fs=fs0++[f0]:=by
    rcases List.eq_nil_or_concat fs with h | ⟨t,x,h⟩
    ·subst h;simp at hpos
    ·exact ⟨t,x,by rw [h,List.concat_eq_append]⟩
   have hl0:(fs0++[f0]).length=fs0.length+1:=by rw [aC];rfl
   refine Sx.rowCase (size:=7) (r:=.slice pf (fs0++[f0]).length cf) (e:=35) Hm (by rw [hl0];exact Nat.succ_pos _) λwf c e hgc=>?_;injection e with e3 _ e4
   subst e3 e4;refine Sx.rowCase (size:=7) (r:=.slice pg (fs0++[f0]).length cg) (e:=35) cU (by rw [hl0];exact Nat.succ_pos _) λwg c e hgd=>?_;injection e with e3 _ e4
   subst e3 e4;obtain ⟨cs0,r0,hc0,hx0⟩:=dT.at zf (i:=fs0.length) (d:=dFm .u8 f0) (by rw [bI,List.getElem?_append_right (by rw [aP];exact aY _),aP,hZ];rfl)
   have hz0:dT H 7 (fs0.map (dFm .u8)) (xf.take (fs0.length * 7)):=by
    have h:=dT.take fs0.length zf;rw [bI,List.take_left' (by rw [aP])] at h;exact h
   obtain ⟨cs1,r1,hc1,hx1⟩:=dT.at zg (i:=fs0.length) (d:=dFm .u8 f0) (by rw [bI,List.getElem?_append_right (by rw [aP];exact aY _),aP,hZ];rfl)
   have hz1:dT H 7 (fs0.map (dFm .u8)) (xg.take (fs0.length * 7)):=by
    have h:=dT.take fs0.length zg;rw [bI,List.take_left' (by rw [aP])] at h;exact h
   obtain ⟨op0,nm0,fd0,a0,b0,ex0,args0⟩:=f0;obtain ⟨q1,d1,q2,d2,rfl,hs0,hs3,_,_⟩:=gK r0;obtain ⟨q5,d5,q6,d6,rfl,hs5,hs6,_,_⟩:=gK r1;have hb0:=(yN.1 (hbf _ (cJ.2 (.inr (bS.2 rfl)))));rw [fQ,Fm.counts,Fm.counts,iA] at hcnt;rw [hl0] at hlen;have hNs:N * (n+1)=N * n+N:=Nat.mul_succ N n;have hcp0:=hs3.cap;have hcp1:=hs6.cap;refine .sk<|.tN<|.sq<|.bk<|.sq<|.ft (p:=.light _ _ (.light _ _ (.light _ _ (.light _ _ (.light _ _ (.light _ _ (.light _ _ (.light _ _ (.alt _ _ _ (.alt _ _ _ (.alt _ _ _ (.done) (.no)) (.no)) (.alt _ _ _ (.alt _ _ _ (.alt _ _ _ (.done) (.no)) (.no)) (.no))))))))))) 11 (.light 0 (.light 1 (.light 2 (.light 3 (.light 4 (.light 5 (.light 6 (.light 7 (.alt 8 0 (.alt 9 0 (.alt 10 2 (.done) (.no)) (.no)) (.alt 9 0 (.alt 8 0 (.alt 10 2 (.done) (.no)) (.no)) (.no))))))))))) fT fT Z<|.mv Z<|.mv Z<|.yw (.indexSl fJ Z Z (i:=fs0.length) (by rw [hl0];omega) (by rw [hl0];omega) (q:=fs0.length * 7) aD)<|.yw (.loadR (vs:=cFm .u8 op0 nm0 fd0 a0 b0 (.slice q1 ex0.length d1) (.slice q2 args0.length d2)) Z cQ Hm Z hx0)<|.mv Z<|.mv Z<|.yw (.indexSl fJ Z Z (i:=fs0.length) (by rw [hl0];omega) (by rw [hl0];omega) (q:=fs0.length * 7) aD)<|.yw (.loadR (vs:=cFm .u8 op0 nm0 fd0 a0 b0 (.slice q5 ex0.length d5) (.slice q6 args0.length d6)) Z cQ cU Z hx1)<|.h ?_ (.h ?_ .nn)
   ·
    refine .al fB Z λb8=>.h1<|.al fB Z λb9=>.h1<|.sW iJ Z Z dK (by simp [Value.oneCell',bJ]) Z ((.yv (.loadR (vs:=cFm .u8 op0 nm0 fd0 a0 b0 (.slice q5 ex0.length d5) (.slice q6 args0.length d6)) Z cQ qL Z hx1)<|.yv (.indexSl fJ Z Z (i:=fs0.length) (by rw [hl0];omega) (by rw [hl0];omega) (q:=fs0.length * 7) aD)<|.yv (.move Z)<|.yv (.move Z)<|.d4<|.nl))<|.fn (tl:=[_]) Z<|.sX .head Z Z dK Z<|.nt<|.sq<|.sr<|.fA Z eY<|.lD Z iP cU Z<|.fA Z eY<|.lD Z iP Hm Z<|.yw (.cast (.neq Z Z) wS)<|.mv Z<|.gy (.fieldAddr Z gP)<|.gy (.load Z bT cU Z)<|.gy (.fieldAddr Z gP)<|.gy (.load Z bT Hm Z)<|.gy (.cast (.neS Z Z) wS)<|.pF Z<|.mv Z<|.gy (.fieldAddr Z gO)<|.gy (.load Z bT cU Z)<|.gy (.fieldAddr Z gO)<|.gy (.load Z bT Hm Z)<|.gy (.cast (.neS Z Z) wS)<|.pF Z<|.mv Z<|.gy (.fieldAddr Z fR)<|.gy (.load Z bQ cU Z)<|.gy (.fieldAddr Z fR)<|.gy (.load Z bQ Hm Z)<|.gy (.cast (.neq Z Z) wS)<|.pF Z<|.mv Z<|.gy (.fieldAddr Z fH)<|.gy (.load Z bQ cU Z)<|.gy (.fieldAddr Z fH)<|.gy (.load Z bQ Hm Z)<|.gy (.cast (.neq Z Z) wS)<|.pF Z<|.mv Z<|.gy (.fieldAddr Z dQ)<|.gy (.load Z gM cU Z)<|.gy (.lenSl fJ Z)<|.gy (.fieldAddr Z dQ)<|.gy (.load Z gM Hm Z)<|.gy (.lenSl fJ Z)<|.gy (.cast (.neq Z Z) wS)<|.pF Z<|.mv Z<|.gy (.fieldAddr Z dB)<|.gy (.load Z dR cU Z)<|.gy (.fieldAddr Z dB)<|.gy (.load Z dR Hm Z)<|.gy (.xl Z (λW s=>IE H 52 AV ex0 (λa _=>BQ H a) _ _ hs0 hs5 W s.agr))<|.gy (.not Z)<|.pF Z<|.nt<|.cF Z<|.sk<|.tN<|?_
    refine Sx.At.rcut (size:=7) (m:=fs0.length) (ys:=xf.take (fs0.length * 7)) iE (by rw [hl0];exact Nat.le_succ _) rfl ?_;refine Sx.At.rcut (size:=7) (m:=fs0.length) (ys:=xg.take (fs0.length * 7)) lJ (by rw [hl0];exact Nat.le_succ _) rfl ?_;exact .fL 12 [(0,0),(1,0),(2,0),(3,0),(4,0),(6,0),(7,0),(8,0),(9,0),(10,0),(5,3),(11,3)]<|.mv Z<|.mv Z<|.yw (.cutHi fJ Z Z (h:=fs0.length) (by rw [hl0];omega) (by rw [hl0] at hgc;omega) (λq e=>by cases e;rfl))<|.fA Z dQ<|.lD Z gM cU Z<|.mv Z<|.mv Z<|.yw (.cutHi fJ Z Z (h:=fs0.length) (by rw [hl0];omega) (by rw [hl0] at hgd;omega) (λq e=>by cases e;rfl))<|.fA Z dQ<|.lD Z gM Hm Z<|.apD tA Z (λ_ _=>iE) Z hs3 (by simp only [maxLen];omega) aD Z (λ_ _=>(.yv (.load Z gM Hm Z)<|.yv (.fieldAddr Z dQ)<|.yv (.cutHi fJ Z Z (h:=fs0.length) (by rw [hl0];omega) (by rw [hl0] at hgd;omega) (λq e=>by cases e;rfl))<|.yv (.move Z)<|.yv (.move Z)<|.d3<|.d2<|.nl)) λnews pN cN hzn=>.apD tA Z (λ_ _=>lJ) Z hs6 (by simp only [maxLen];omega) aD Z (λ_ _=>(.d4<|.d4<|.d2<|.nl)) λmews pM cM hzm=>.fn (tl:=[_,_]) Z<|.a Z Z<|.a Z Z<|.nl<|.bN<|.tN<|.rg<|.mv Z<|.yw (.lenSl fJ Z)<|.yw (.sub Z Z (w6 aD))<|.aq Z<|.ag (x:=(n,fs0++[Fm.mk op0 nm0 fd0 a0 b0 ex0 args0],Value.slice (some ⟨wf,0,none⟩) (fs0++[Fm.mk op0 nm0 fd0 a0 b0 ex0 args0]).length cf,Value.slice (some ⟨wg,0,none⟩) (fs0++[Fm.mk op0 nm0 fd0 a0 b0 ex0 args0]).length cg,xf,xg)) (n+1,fs0++args0,Value.slice pN (fs0.length+args0.length) cN,Value.slice pM (fs0.length+args0.length) cM,xf.take (fs0.length * 7)++news,xg.take (fs0.length * 7)++mews) ⟨Z,Z,by dsimp only;exact congrArg (λm:Nat=>some (Value.int .i64 ((m:Int) - 1))) (aC ).symm,Jt⟩ trivial (λ_ s=>by dsimp only;rw [aC];exact (s.pick [2,3,4,5] _ Z Z)) ⟨by rw [bI];exact hz0.app hzn,by rw [bI];exact hz1.app hzm,by dsimp only;rw [fQ];omega,λe he=>by rcases cJ.1 he with h | h;exact hbf e (cJ.2 (.inl h));exact hb0.2 e h,by dsimp only;rw [aC,hNs];omega⟩ (by dsimp only;rw [fQ,fQ,Fm.counts,Fm.counts,iA];omega)
   refine .al fB Z λb9=>.h1<|.al fB Z λb8=>.h1<|.sW .head Z Z dK (by simp [Value.oneCell',bJ]) Z ((.yv (.loadR (vs:=cFm .u8 op0 nm0 fd0 a0 b0 (.slice q5 ex0.length d5) (.slice q6 args0.length d6)) Z cQ qL Z hx1)<|.yv (.indexSl fJ Z Z (i:=fs0.length) (by rw [hl0];omega) (by rw [hl0];omega) (q:=fs0.length * 7) aD)<|.yv (.move Z)<|.yv (.move Z)<|.d4<|.nl))<|.fn (tl:=[_]) Z<|.sX iJ Z Z dK Z<|.nt<|.sq<|.sr<|.fA Z eY<|.lD Z iP Hm Z<|.fA Z eY<|.lD Z iP cU Z<|.yw (.cast (.neq Z Z) wS)<|.mv Z<|.gy (.fieldAddr Z gP)<|.gy (.load Z bT Hm Z)<|.gy (.fieldAddr Z gP)<|.gy (.load Z bT cU Z)<|.gy (.cast (.neS Z Z) wS)<|.pF Z<|.mv Z<|.gy (.fieldAddr Z gO)<|.gy (.load Z bT Hm Z)<|.gy (.fieldAddr Z gO)<|.gy (.load Z bT cU Z)<|.gy (.cast (.neS Z Z) wS)<|.pF Z<|.mv Z<|.gy (.fieldAddr Z fR)<|.gy (.load Z bQ Hm Z)<|.gy (.fieldAddr Z fR)<|.gy (.load Z bQ cU Z)<|.gy (.cast (.neq Z Z) wS)<|.pF Z<|.mv Z<|.gy (.fieldAddr Z fH)<|.gy (.load Z bQ Hm Z)<|.gy (.fieldAddr Z fH)<|.gy (.load Z bQ cU Z)<|.gy (.cast (.neq Z Z) wS)<|.pF Z<|.mv Z<|.gy (.fieldAddr Z dQ)<|.gy (.load Z gM Hm Z)<|.gy (.lenSl fJ Z)<|.gy (.fieldAddr Z dQ)<|.gy (.load Z gM cU Z)<|.gy (.lenSl fJ Z)<|.gy (.cast (.neq Z Z) wS)<|.pF Z<|.mv Z<|.gy (.fieldAddr Z dB)<|.gy (.load Z dR Hm Z)<|.gy (.fieldAddr Z dB)<|.gy (.load Z dR cU Z)<|.gy (.xl Z (λW s=>IE H 52 AV ex0 (λa _=>BQ H a) _ _ hs0 hs5 W s.agr))<|.gy (.not Z)<|.pF Z<|.nt<|.cF Z<|.sk<|.tN<|?_
   refine Sx.At.rcut (size:=7) (m:=fs0.length) (ys:=xf.take (fs0.length * 7)) iE (by rw [hl0];exact Nat.le_succ _) rfl ?_;refine Sx.At.rcut (size:=7) (m:=fs0.length) (ys:=xg.take (fs0.length * 7)) lJ (by rw [hl0];exact Nat.le_succ _) rfl ?_;exact .fL 12 [(0,0),(1,0),(2,0),(3,0),(4,0),(6,0),(7,0),(8,0),(9,0),(10,0),(5,3),(11,3)]<|.mv Z<|.mv Z<|.yw (.cutHi fJ Z Z (h:=fs0.length) (by rw [hl0];omega) (by rw [hl0] at hgc;omega) (λq e=>by cases e;rfl))<|.fA Z dQ<|.lD Z gM Hm Z<|.mv Z<|.mv Z<|.yw (.cutHi fJ Z Z (h:=fs0.length) (by rw [hl0];omega) (by rw [hl0] at hgd;omega) (λq e=>by cases e;rfl))<|.fA Z dQ<|.lD Z gM cU Z<|.apD tA Z (λ_ _=>iE) Z hs3 (by simp only [maxLen];omega) aD Z (λ_ _=>(.yv (.load Z gM cU Z)<|.yv (.fieldAddr Z dQ)<|.yv (.cutHi fJ Z Z (h:=fs0.length) (by rw [hl0];omega) (by rw [hl0] at hgd;omega) (λq e=>by cases e;rfl))<|.yv (.move Z)<|.yv (.move Z)<|.d3<|.d2<|.nl)) λnews pN cN hzn=>.apD tA Z (λ_ _=>lJ) Z hs6 (by simp only [maxLen];omega) aD Z (λ_ _=>(.d4<|.d4<|.d2<|.nl)) λmews pM cM hzm=>.fn (tl:=[_,_]) Z<|.a Z Z<|.a Z Z<|.nl<|.bN<|.tN<|.rg<|.mv Z<|.yw (.lenSl fJ Z)<|.yw (.sub Z Z (w6 aD))<|.aq Z<|.ag (x:=(n,fs0++[Fm.mk op0 nm0 fd0 a0 b0 ex0 args0],Value.slice (some ⟨wf,0,none⟩) (fs0++[Fm.mk op0 nm0 fd0 a0 b0 ex0 args0]).length cf,Value.slice (some ⟨wg,0,none⟩) (fs0++[Fm.mk op0 nm0 fd0 a0 b0 ex0 args0]).length cg,xf,xg)) (n+1,fs0++args0,Value.slice pN (fs0.length+args0.length) cN,Value.slice pM (fs0.length+args0.length) cM,xf.take (fs0.length * 7)++news,xg.take (fs0.length * 7)++mews) ⟨Z,Z,by dsimp only;exact congrArg (λm:Nat=>some (Value.int .i64 ((m:Int) - 1))) (aC ).symm,Jt⟩ trivial (λ_ s=>by dsimp only;rw [aC];exact (s.pick [2,3,4,5] _ Z Z)) ⟨by rw [bI];exact hz0.app hzn,by rw [bI];exact hz1.app hzm,by dsimp only;rw [fQ];omega,λe he=>by rcases cJ.1 he with h | h;exact hbf e (cJ.2 (.inl h));exact hb0.2 e h,by dsimp only;rw [aC,hNs];omega⟩ (by dsimp only;rw [fQ,fQ,Fm.counts,Fm.counts,iA];omega)
  try simp only [df] at h15
  refine .ex<|.eb<|.sr<|.az Z<|?_
  exact yE Z Z Z
 refine .blR (z:=7) Z (rV _ _ _ _ _ _ _) Z Z (by simp [maxLen]) λb13=>.h1<|.blR (z:=7) Z (rV _ _ _ _ _ _ _) Z Z (by simp [maxLen]) λb11=>.a Z Z<|.fn (tl:=[_]) Z<|.aq Z<|.sq<|.sr<|.aq Z<|.bk<|.lp (X:=Nat × List Fm × Value × Value × List Value × List Value) [] trivial [_,_] (λz=>[(5,z.2.2.1),(6,z.2.2.2.1),(7,.int .i64 ((z.2.1.length:Int) - 1))]) (λz=>H) (λz=>[.row 35 7 z.2.2.1 z.2.1.length z.2.2.2.2.1,.row 35 7 z.2.2.2.1 z.2.1.length z.2.2.2.2.2]) (λz=>dT H 7 (z.2.1.map (dFm .u8)) z.2.2.2.2.1/\dT H 7 (z.2.1.map (dFm .u8)) z.2.2.2.2.2/\z.1+Fm.counts z.2.1<=Fm.count (.mk op nm fd a b ex args)/\(∀ g∈z.2.1,blF N g=true)/\z.2.1.length<=1+N * z.1) (λz=>Fm.counts z.2.1) (0,[Fm.mk op nm fd a b ex args],.slice (dI b11) 1 1,.slice (dI b13) 1 1,[.int .u8 op.toNat,bJ nm,bJ fd,.int .i64 a.toInt,.int .i64 b.toInt,.slice p1 ex.length c1,.slice p2 args.length c2],[.int .u8 op.toNat,bJ nm,bJ fd,.int .i64 a.toInt,.int .i64 b.toInt,.slice p3 ex.length c3,.slice p4 args.length c4]) (λ_ s=>s) ⟨Z,Z,Z,Jt⟩ ⟨.single h Z,.single k Z,by rw [Fm.counts,Fm.counts];omega,λg hg=>by rw [bS.1 hg];exact hb,by simp⟩ λz hC=>?_
 obtain ⟨n,fs,rf,rg,xf,xg⟩:=z;obtain ⟨zf,zg,hcnt,hbf,hlen⟩:=hC;dsimp only at zf zg hcnt hbf hlen|-;have hNn:N * n<=N * Fm.count (.mk op nm fd a b ex args):=mV N aD;refine At.ra (size:=7) (r:=rf) (e:=35) Hm λpf cf e=>?_;subst e;refine At.ra (size:=7) (r:=rg) (e:=35) cU λpg cg e=>?_;subst e;refine .sq<|.sm Z<|.yw (.geq Z Z)<|.nt<|.cd Z (λh15=>?_) (λh15=>?_)
 ·try simp only [dt] at h15
  have hpos:0<fs.length:=aD
  obtain ⟨fs0,f0,rfl⟩:∃ fs0 f0,fs=fs0++[f0]:=by
   rcases List.eq_nil_or_concat fs with h | ⟨t,x,h⟩
   ·subst h;simp at hpos
   ·exact ⟨t,x,by rw [h,List.concat_eq_append]⟩
  have hl0:(fs0++[f0]).length=fs0.length+1:=by rw [aC];rfl
  refine Sx.rowCase (size:=7) (r:=.slice pf (fs0++[f0]).length cf) (e:=35) Hm (by rw [hl0];exact Nat.succ_pos _) λwf c e hgc=>?_;injection e with e3 _ e4
  subst e3 e4;refine Sx.rowCase (size:=7) (r:=.slice pg (fs0++[f0]).length cg) (e:=35) cU (by rw [hl0];exact Nat.succ_pos _) λwg c e hgd=>?_;injection e with e3 _ e4
  subst e3 e4;obtain ⟨cs0,r0,hc0,hx0⟩:=dT.at zf (i:=fs0.length) (d:=dFm .u8 f0) (by rw [bI,List.getElem?_append_right (by rw [aP];exact aY _),aP,hZ];rfl)
  have hz0:dT H 7 (fs0.map (dFm .u8)) (xf.take (fs0.length * 7)):=by
   have h:=dT.take fs0.length zf;rw [bI,List.take_left' (by rw [aP])] at h;exact h
  obtain ⟨cs1,r1,hc1,hx1⟩:=dT.at zg (i:=fs0.length) (d:=dFm .u8 f0) (by rw [bI,List.getElem?_append_right (by rw [aP];exact aY _),aP,hZ];rfl)
  have hz1:dT H 7 (fs0.map (dFm .u8)) (xg.take (fs0.length * 7)):=by
   have h:=dT.take fs0.length zg;rw [bI,List.take_left' (by rw [aP])] at h;exact h
  obtain ⟨op0,nm0,fd0,a0,b0,ex0,args0⟩:=f0;obtain ⟨q1,d1,q2,d2,rfl,hs0,hs3,_,_⟩:=gK r0;obtain ⟨q5,d5,q6,d6,rfl,hs5,hs6,_,_⟩:=gK r1;have hb0:=(yN.1 (hbf _ (cJ.2 (.inr (bS.2 rfl)))));rw [fQ,Fm.counts,Fm.counts,iA] at hcnt;rw [hl0] at hlen;have hNs:N * (n+1)=N * n+N:=Nat.mul_succ N n;have hcp0:=hs3.cap;have hcp1:=hs6.cap;refine .sk<|.tN<|.sq<|.bk<|.sq<|.ft (p:=.light _ _ (.light _ _ (.light _ _ (.light _ _ (.light _ _ (.light _ _ (.light _ _ (.light _ _ (.alt _ _ _ (.alt _ _ _ (.alt _ _ _ (.done) (.no)) (.no)) (.alt _ _ _ (.alt _ _ _ (.alt _ _ _ (.done) (.no)) (.no)) (.no))))))))))) 11 (.light 0 (.light 1 (.light 2 (.light 3 (.light 4 (.light 5 (.light 6 (.light 7 (.alt 8 0 (.alt 9 0 (.alt 10 2 (.done) (.no)) (.no)) (.alt 9 0 (.alt 8 0 (.alt 10 2 (.done) (.no)) (.no)) (.no))))))))))) fT fT Z<|.mv Z<|.mv Z<|.yw (.indexSl fJ Z Z (i:=fs0.length) (by rw [hl0];omega) (by rw [hl0];omega) (q:=fs0.length * 7) aD)<|.yw (.loadR (vs:=cFm .u8 op0 nm0 fd0 a0 b0 (.slice q1 ex0.length d1) (.slice q2 args0.length d2)) Z cQ Hm Z hx0)<|.mv Z<|.mv Z<|.yw (.indexSl fJ Z Z (i:=fs0.length) (by rw [hl0];omega) (by rw [hl0];omega) (q:=fs0.length * 7) aD)<|.yw (.loadR (vs:=cFm .u8 op0 nm0 fd0 a0 b0 (.slice q5 ex0.length d5) (.slice q6 args0.length d6)) Z cQ cU Z hx1)<|.h ?_ (.h ?_ .nn)
  ·
   refine .al fB Z λb8=>.h1<|.al fB Z λb9=>.h1<|.sW iJ Z Z dK (by simp [Value.oneCell',bJ]) Z ((.yv (.loadR (vs:=cFm .u8 op0 nm0 fd0 a0 b0 (.slice q5 ex0.length d5) (.slice q6 args0.length d6)) Z cQ qL Z hx1)<|.yv (.indexSl fJ Z Z (i:=fs0.length) (by rw [hl0];omega) (by rw [hl0];omega) (q:=fs0.length * 7) aD)<|.yv (.move Z)<|.yv (.move Z)<|.d4<|.nl))<|.fn (tl:=[_]) Z<|.sX .head Z Z dK Z<|.nt<|.sq<|.sr<|.fA Z eY<|.lD Z iP cU Z<|.fA Z eY<|.lD Z iP Hm Z<|.yw (.cast (.neq Z Z) wS)<|.mv Z<|.gy (.fieldAddr Z gP)<|.gy (.load Z bT cU Z)<|.gy (.fieldAddr Z gP)<|.gy (.load Z bT Hm Z)<|.gy (.cast (.neS Z Z) wS)<|.pF Z<|.mv Z<|.gy (.fieldAddr Z gO)<|.gy (.load Z bT cU Z)<|.gy (.fieldAddr Z gO)<|.gy (.load Z bT Hm Z)<|.gy (.cast (.neS Z Z) wS)<|.pF Z<|.mv Z<|.gy (.fieldAddr Z fR)<|.gy (.load Z bQ cU Z)<|.gy (.fieldAddr Z fR)<|.gy (.load Z bQ Hm Z)<|.gy (.cast (.neq Z Z) wS)<|.pF Z<|.mv Z<|.gy (.fieldAddr Z fH)<|.gy (.load Z bQ cU Z)<|.gy (.fieldAddr Z fH)<|.gy (.load Z bQ Hm Z)<|.gy (.cast (.neq Z Z) wS)<|.pF Z<|.mv Z<|.gy (.fieldAddr Z dQ)<|.gy (.load Z gM cU Z)<|.gy (.lenSl fJ Z)<|.gy (.fieldAddr Z dQ)<|.gy (.load Z gM Hm Z)<|.gy (.lenSl fJ Z)<|.gy (.cast (.neq Z Z) wS)<|.pF Z<|.mv Z<|.gy (.fieldAddr Z dB)<|.gy (.load Z dR cU Z)<|.gy (.fieldAddr Z dB)<|.gy (.load Z dR Hm Z)<|.gy (.xl Z (λW s=>IE H 52 AV ex0 (λa _=>BQ H a) _ _ hs0 hs5 W s.agr))<|.gy (.not Z)<|.pF Z<|.nt<|.cF Z<|.sk<|.tN<|?_
   refine Sx.At.rcut (size:=7) (m:=fs0.length) (ys:=xf.take (fs0.length * 7)) iE (by rw [hl0];exact Nat.le_succ _) rfl ?_;refine Sx.At.rcut (size:=7) (m:=fs0.length) (ys:=xg.take (fs0.length * 7)) lJ (by rw [hl0];exact Nat.le_succ _) rfl ?_;exact .fL 12 [(0,0),(1,0),(2,0),(3,0),(4,0),(6,0),(7,0),(8,0),(9,0),(10,0),(5,3),(11,3)]<|.mv Z<|.mv Z<|.yw (.cutHi fJ Z Z (h:=fs0.length) (by rw [hl0];omega) (by rw [hl0] at hgc;omega) (λq e=>by cases e;rfl))<|.fA Z dQ<|.lD Z gM cU Z<|.mv Z<|.mv Z<|.yw (.cutHi fJ Z Z (h:=fs0.length) (by rw [hl0];omega) (by rw [hl0] at hgd;omega) (λq e=>by cases e;rfl))<|.fA Z dQ<|.lD Z gM Hm Z<|.apD tA Z (λ_ _=>iE) Z hs3 (by simp only [maxLen];omega) aD Z (λ_ _=>(.yv (.load Z gM Hm Z)<|.yv (.fieldAddr Z dQ)<|.yv (.cutHi fJ Z Z (h:=fs0.length) (by rw [hl0];omega) (by rw [hl0] at hgd;omega) (λq e=>by cases e;rfl))<|.yv (.move Z)<|.yv (.move Z)<|.d3<|.d2<|.nl)) λnews pN cN hzn=>.apD tA Z (λ_ _=>lJ) Z hs6 (by simp only [maxLen];omega) aD Z (λ_ _=>(.d4<|.d4<|.d2<|.nl)) λmews pM cM hzm=>.fn (tl:=[_,_]) Z<|.a Z Z<|.a Z Z<|.nl<|.bN<|.tN<|.rg<|.mv Z<|.yw (.lenSl fJ Z)<|.yw (.sub Z Z (w6 aD))<|.aq Z<|.ag (x:=(n,fs0++[Fm.mk op0 nm0 fd0 a0 b0 ex0 args0],Value.slice (some ⟨wf,0,none⟩) (fs0++[Fm.mk op0 nm0 fd0 a0 b0 ex0 args0]).length cf,Value.slice (some ⟨wg,0,none⟩) (fs0++[Fm.mk op0 nm0 fd0 a0 b0 ex0 args0]).length cg,xf,xg)) (n+1,fs0++args0,Value.slice pN (fs0.length+args0.length) cN,Value.slice pM (fs0.length+args0.length) cM,xf.take (fs0.length * 7)++news,xg.take (fs0.length * 7)++mews) ⟨Z,Z,by dsimp only;exact congrArg (λm:Nat=>some (Value.int .i64 ((m:Int) - 1))) (aC ).symm,Jt⟩ trivial (λ_ s=>by dsimp only;rw [aC];exact (s.pick [2,3,4,5] _ Z Z)) ⟨by rw [bI];exact hz0.app hzn,by rw [bI];exact hz1.app hzm,by dsimp only;rw [fQ];omega,λe he=>by rcases cJ.1 he with h | h;exact hbf e (cJ.2 (.inl h));exact hb0.2 e h,by dsimp only;rw [aC,hNs];omega⟩ (by dsimp only;rw [fQ,fQ,Fm.counts,Fm.counts,iA];omega)
  refine .al fB Z λb9=>.h1<|.al fB Z λb8=>.h1<|.sW .head Z Z dK (by simp [Value.oneCell',bJ]) Z ((.yv (.loadR (vs:=cFm .u8 op0 nm0 fd0 a0 b0 (.slice q5 ex0.length d5) (.slice q6 args0.length d6)) Z cQ qL Z hx1)<|.yv (.indexSl fJ Z Z (i:=fs0.length) (by rw [hl0];omega) (by rw [hl0];omega) (q:=fs0.length * 7) aD)<|.yv (.move Z)<|.yv (.move Z)<|.d4<|.nl))<|.fn (tl:=[_]) Z<|.sX iJ Z Z dK Z<|.nt<|.sq<|.sr<|.fA Z eY<|.lD Z iP Hm Z<|.fA Z eY<|.lD Z iP cU Z<|.yw (.cast (.neq Z Z) wS)<|.mv Z<|.gy (.fieldAddr Z gP)<|.gy (.load Z bT Hm Z)<|.gy (.fieldAddr Z gP)<|.gy (.load Z bT cU Z)<|.gy (.cast (.neS Z Z) wS)<|.pF Z<|.mv Z<|.gy (.fieldAddr Z gO)<|.gy (.load Z bT Hm Z)<|.gy (.fieldAddr Z gO)<|.gy (.load Z bT cU Z)<|.gy (.cast (.neS Z Z) wS)<|.pF Z<|.mv Z<|.gy (.fieldAddr Z fR)<|.gy (.load Z bQ Hm Z)<|.gy (.fieldAddr Z fR)<|.gy (.load Z bQ cU Z)<|.gy (.cast (.neq Z Z) wS)<|.pF Z<|.mv Z<|.gy (.fieldAddr Z fH)<|.gy (.load Z bQ Hm Z)<|.gy (.fieldAddr Z fH)<|.gy (.load Z bQ cU Z)<|.gy (.cast (.neq Z Z) wS)<|.pF Z<|.mv Z<|.gy (.fieldAddr Z dQ)<|.gy (.load Z gM Hm Z)<|.gy (.lenSl fJ Z)<|.gy (.fieldAddr Z dQ)<|.gy (.load Z gM cU Z)<|.gy (.lenSl fJ Z)<|.gy (.cast (.neq Z Z) wS)<|.pF Z<|.mv Z<|.gy (.fieldAddr Z dB)<|.gy (.load Z dR Hm Z)<|.gy (.fieldAddr Z dB)<|.gy (.load Z dR cU Z)<|.gy (.xl Z (λW s=>IE H 52 AV ex0 (λa _=>BQ H a) _ _ hs0 hs5 W s.agr))<|.gy (.not Z)<|.pF Z<|.nt<|.cF Z<|.sk<|.tN<|?_
  refine Sx.At.rcut (size:=7) (m:=fs0.length) (ys:=xf.take (fs0.length * 7)) iE (by rw [hl0];exact Nat.le_succ _) rfl ?_;refine Sx.At.rcut (size:=7) (m:=fs0.length) (ys:=xg.take (fs0.length * 7)) lJ (by rw [hl0];exact Nat.le_succ _) rfl ?_;exact .fL 12 [(0,0),(1,0),(2,0),(3,0),(4,0),(6,0),(7,0),(8,0),(9,0),(10,0),(5,3),(11,3)]<|.mv Z<|.mv Z<|.yw (.cutHi fJ Z Z (h:=fs0.length) (by rw [hl0];omega) (by rw [hl0] at hgc;omega) (λq e=>by cases e;rfl))<|.fA Z dQ<|.lD Z gM Hm Z<|.mv Z<|.mv Z<|.yw (.cutHi fJ Z Z (h:=fs0.length) (by rw [hl0];omega) (by rw [hl0] at hgd;omega) (λq e=>by cases e;rfl))<|.fA Z dQ<|.lD Z gM cU Z<|.apD tA Z (λ_ _=>iE) Z hs3 (by simp only [maxLen];omega) aD Z (λ_ _=>(.yv (.load Z gM cU Z)<|.yv (.fieldAddr Z dQ)<|.yv (.cutHi fJ Z Z (h:=fs0.length) (by rw [hl0];omega) (by rw [hl0] at hgd;omega) (λq e=>by cases e;rfl))<|.yv (.move Z)<|.yv (.move Z)<|.d3<|.d2<|.nl)) λnews pN cN hzn=>.apD tA Z (λ_ _=>lJ) Z hs6 (by simp only [maxLen];omega) aD Z (λ_ _=>(.d4<|.d4<|.d2<|.nl)) λmews pM cM hzm=>.fn (tl:=[_,_]) Z<|.a Z Z<|.a Z Z<|.nl<|.bN<|.tN<|.rg<|.mv Z<|.yw (.lenSl fJ Z)<|.yw (.sub Z Z (w6 aD))<|.aq Z<|.ag (x:=(n,fs0++[Fm.mk op0 nm0 fd0 a0 b0 ex0 args0],Value.slice (some ⟨wf,0,none⟩) (fs0++[Fm.mk op0 nm0 fd0 a0 b0 ex0 args0]).length cf,Value.slice (some ⟨wg,0,none⟩) (fs0++[Fm.mk op0 nm0 fd0 a0 b0 ex0 args0]).length cg,xf,xg)) (n+1,fs0++args0,Value.slice pN (fs0.length+args0.length) cN,Value.slice pM (fs0.length+args0.length) cM,xf.take (fs0.length * 7)++news,xg.take (fs0.length * 7)++mews) ⟨Z,Z,by dsimp only;exact congrArg (λm:Nat=>some (Value.int .i64 ((m:Int) - 1))) (aC ).symm,Jt⟩ trivial (λ_ s=>by dsimp only;rw [aC];exact (s.pick [2,3,4,5] _ Z Z)) ⟨by rw [bI];exact hz0.app hzn,by rw [bI];exact hz1.app hzm,by dsimp only;rw [fQ];omega,λe he=>by rcases cJ.1 he with h | h;exact hbf e (cJ.2 (.inl h));exact hb0.2 e h,by dsimp only;rw [aC,hNs];omega⟩ (by dsimp only;rw [fQ,fQ,Fm.counts,Fm.counts,iA];omega)
 try simp only [df] at h15
 refine .ex<|.eb<|.sr<|.az Z<|?_
 exact yE Z Z Z
variable {cs:List Value}
theorem cS5 {x:Pln} (h:Rep H (aF1 x) cs):cs.length=3:=by
 obtain ⟨_,_,_,_,rfl,_⟩:=XL h
 rfl
theorem aP7 (H:Hp) (f:Fm) (hg:gdF f=true) (hN:f.count<=1000000) (cs ds:List Value) (w:World) (h:Rep H (dFm .u8 f) cs) (k:Rep H (dFm .i64 f) ds) (hA:Agr H w):Calls prg 29 #[.agg cs.toArray,.agg ds.toArray] w λr w'=>r=.returned (.bool true)/\Ext w w':=by
 have hb:blF 4 f=true:=VB aS f hg;refine Sx.enter (H:=H) func29 rfl ntmps29 rfl hA ?_;refine .sr<|.bx Z Z Z λb2=>.bx Z Z Z λb3=>.aq Z<|.sq<|.fL 4 [(0,0),(1,0),(2,1),(3,0)]<|.yw (.loadW Z cQ cU (qD h))<|.yw (.loadW Z dP Hm (qD k))<|.xt (X:=List Value) Z (λW s=>YJ f hg H _ W k s.agr) λx1 H1 hx1 u1=>.yw (.xl Z (λW s=>bY3 H1 f 4 hb aD aS _ _ W (h.up u1.up) hx1 s.agr))<|.fn (tl:=[_]) Z<|.az Z<|?_
 exact y9 Z Z λW s=>⟨Z,(u1.grow s).ext⟩
set_option maxHeartbeats 2000000 in
theorem DI (H:Hp) (GL:Gl H) (G:Gf H) (gq:Gq H) (p:Pln) (cs:List Value) (l:List UInt8) (v:Value) (h:Rep H (aF1 p) cs) (hv:Rep H (.seq 1 (l.map dU8)) [v]) (w:World) (hA:Agr H w) :
 Calls prg 8 #[.agg cs.toArray,v] w λr w'=>r=.returned (.bool true)/\Ext w w':=by
 obtain ⟨tp,tc,e,_⟩:=hv.sl;simp only [bV,dL,aP] at e;subst e;have hb:=hv;refine Sx.enter (H:=H) func8 rfl ntmps8 rfl hA ?_;refine .sr<|.bx Z Z Z λb2=>.aq Z<|.sq<|.sr<|.yw (.xl Z (λW s=>aT7 H GL G gq W s.agr))<|.yw (.not Z)<|.nt<|.cF Z<|.sk<|.tN<|.sr<|.yw (.loadW Z bP7 Hm (cS5 h))<|.xt (X:=List Value) Z (λW s=>aF8 H p _ W h s.agr) λx1 H1 hx1 u1=>?_
 have hb1:=hb.up u1.up;refine .mv Z<|.xt (X:=List Value) Z (λW s=>UR H1 p l tp tc _ W hx1 hb1 s.agr) λx2 H2 hx2 u2=>?_
 obtain ⟨g1,r1,hg1,hc1⟩:=hx2;refine .al lH Z λb5=>.sV .head Z Z gC (qD r1) r1.one Z<|.ns<|.yw (.loadW Z dP Hm (qD r1))<|.xt (X:=List Value) Z (λW s=>YJ g1 hg1 H2 _ W r1 s.agr) λx3 H3 hx3 uH3=>?_
 have r1a:=r1.up uH3.up;refine .al fB Z λb6=>.sV .head Z Z dK (qD hx3) hx3.one Z<|.nt<|.sq<|.sr<|.yw (.loadW Z dP cU (qD r1))<|.yw (.xl Z (λW s=>aC3 H3 g1 hg1 aD _ W r1a s.agr))<|.a Z Z<|.ns<|.mv Z<|.yw (.neq Z Z)<|.nt<|.cd Z (λh22=>?_) (λh22=>?_)
 ·refine .sr<|.yw (.loadW Z cQ Hm (qD hx3))<|.yw (.xl Z (λW s=>yM H3 (((GL.up u1.up).up u2.up).up uH3.up) (((G.up u1.up).up u2.up).up uH3.up) g1 (VB aS g1 hg1) _ W hx3 s.agr))<|.mv Z<|.yw (.cast (.eql Z Z) (congrArg Value.bool (aG Z)))<|.az Z<|.tR<|?_
  exact y9 Z Z λW s=>⟨Z,(((u1.trans u2).trans uH3).grow s).ext⟩
 have hc:gT g1=0:=by have:=aJ h22;omega
 obtain ⟨hc60,_,hcn,hcf⟩:=JU hc;refine .sk<|.tN<|.sr<|.yw (.loadW Z dP cU (qD r1))<|.yw (.xl Z (λW s=>SI H3 g1 _ W r1a hcf hcn hc60 s.agr))<|.xt (X:=List Value) Z (λW s=>JR H3 (((GL.up u1.up).up u2.up).up uH3.up) (((G.up u1.up).up u2.up).up uH3.up) (fmT g1) g1 (aZ (aD7 hc) aS) (bM7 hc) W s.agr) λx4 H4 hx4 uH4=>?_
 have hx3a:=hx3.up uH4.up;have r1b:=r1a.up uH4.up;refine .mv Z<|.yw (.extract Z Z)<|.yw (.extract Z Z)<|.yw (.extract Z Z)<|.al fB Z λb8=>.sV .head Z Z dK (qD hx4) hx4.one Z<|.a Z Z<|.aq Z<|.sq<|.fL 19 [(0,0),(1,0),(2,0),(3,0),(4,0),(5,0),(6,0),(7,0),(8,0),(9,0),(10,0),(11,0),(12,0),(13,0),(14,0),(15,0),(16,0),(17,0),(18,0)]<|.yw (.loadW Z cQ cU (qD hx3))<|.yw (.xl Z (λW s=>yM H4 ((((GL.up u1.up).up u2.up).up uH3.up).up uH4.up) ((((G.up u1.up).up u2.up).up uH3.up).up uH4.up) g1 (VB aS g1 hg1) _ W hx3a s.agr))<|.yw (.cast (.eql Z Z) (congrArg Value.bool (aG (by rw [hc];rfl))))<|.mv Z<|.yg Z Z (.loadW Z cQ cU (qD hx3)) Z<|.yg Z Z (.cast (.xl Z (λW s=>SM H4 ((((GL.up u1.up).up u2.up).up uH3.up).up uH4.up) ((((G.up u1.up).up u2.up).up uH3.up).up uH4.up) ((((gq.up u1.up).up u2.up).up uH3.up).up uH4.up) g1 (VB aS g1 hg1) _ W hx3a s.agr)) (congrArg bJ (aZ9 hc))) Z<|.yg Z Z (.loadW Z dP iG (qD r1)) Z<|.yg Z Z (.xl Z (λW s=>SI H4 g1 _ W r1b hcf hcn hc60 s.agr)) Z<|.yg Z Z (.cast (.eqS Z Z) (congrArg Value.bool (aG Z))) Z<|.pT Z<|.mv Z<|.yg Z Z (.move Z) Z<|.yg Z Z (.cast (.eql Z Z) (congrArg Value.bool (aG Z))) Z<|.pT Z<|.mv Z<|.yg Z Z (.loadW Z cQ Hm (qD hx4)) Z<|.yg Z Z (.loadW Z dP iG (qD r1)) Z<|.yg Z Z (.xl Z (λW s=>aP7 H4 g1 hg1 aD _ _ W hx4 r1b s.agr)) Z<|.pT Z<|.fn (tl:=[_]) Z<|.az Z<|?_
 exact y9 Z Z λW s=>⟨Z,((((u1.trans u2).trans uH3).trans uH4).grow s).ext⟩
variable {H:Type} {enc:TypeId × Value->H}
theorem wrap {a:Assume} {C:Checked} {os:Os} {f:FuncId} {fn:Func} {s:ChangeSpec} {conds:List PathCond} {apart fresh handsOn again:Bool} {X:World->Array Value->Prop} 
 (hX:∀ (w w':World) (args:Array Value),w.heap=w'.heap->X w args->X w' args)
 (own:ownKnob C.prog.godebug=none) (started:os.Started) (noInit:C.prog.inits.idxOf? f=none) (hfn:C.prog.funcs[f]? = some fn)
 (witness:∃ (w:World) (tape:Tape) (i:Input),w.os=os/\(w.forCall tape i).Shaped C.prog/\i.vars=[]/\Input.okWide C.prog (w.forCall tape i) .any w.heap.size f i /\
  ((s.pre enc C.prog fn conds apart (w.forCall tape i).memory i.args/\X (w.forCall tape i).memory i.args)/\sizedMet enc C.prog fn (OpenSpec.ofChange s) apart (w.forCall tape i).memory i.args)/\a.holds C.prog (lone (Frame.enter C.prog f i.args .normal) [] (w.forCall tape i)))
 (contract:∀ (W:World) (base:Nat) (args:Array Value) (ds gs:List (DataW H)) (before:List MemPlace),
  (∀ (j:Nat) t v,fn.params[j]? = some t->args[j]? = some v->Value.okWide C.prog W .any base t v) ->
  DataW.Whole enc C.prog fn.params.toList s.vars apart W args.toList ds gs before ->
  X W args->W.ShapedOpen C.prog ->
  Calls C.prog f args W λe W'=>∃ v,e=.returned v/\s.post enc C.prog fn apart fresh handsOn again W args v W') :
 ReturnsInHanded a C os f .any (λw args=>(s.pre enc C.prog fn conds apart w args/\X w args)/\sizedMet enc C.prog fn (OpenSpec.ofChange s) apart w args) (s.post enc C.prog fn apart fresh handsOn again):=by
 refine returnsInHanded_of_calls own started noInit witness ?_;intro w tape i _ hsh _ hok hpre _;obtain ⟨_,_,_,fn',hfn',_,_,_,_,hval⟩:=hok;have e:fn'=fn:=bL (hfn'.symm.trans hfn);subst e;obtain ⟨⟨⟨ds,gs,before,hw,_⟩,hx⟩,_⟩:=hpre;have hw':=DataW.Whole.of_heap (w':=w.forCall tape i) (by rfl) hw;refine (contract (w.forCall tape i) w.heap.size i.args ds gs before hval hw' (hX _ _ _ (by rfl) hx) hsh).mono λe W' ⟨v,he,hp⟩=>?_;subst he;exact ChangeSpec.post_blind hp

theorem own:ownKnob prg.godebug=none:=by kernel_rfl
def FK:List (String × DataW Unit):=[("math/bits.deBruijn32tab",Rows.laid_math_bits_deBruijn32tab),("math/bits.deBruijn64tab",Rows.laid_math_bits_deBruijn64tab),("internal/strconv.uint64pow10",Rows.laid_internal_strconv_uint64pow10),("rootcause/lexer.words",Rows.laid_rootcause_lexer_words),("rootcause/lexer.symbols",Rows.laid_rootcause_lexer_symbols),("rootcause/formula.shapes",Rows.laid_rootcause_formula_shapes),("rootcause/formula.symbols",Rows.laid_rootcause_formula_symbols),("rootcause/formula.words",Rows.laid_rootcause_formula_words)]
theorem cP1:prg.globalNamed "internal/strconv.uint64pow10" = some 6:=by kernel_rfl
theorem cP0:(prg.globals[6]?).map (·.type)=some 257:=by kernel_rfl
theorem bM3:prg.cellsOf 257=20:=by kernel_rfl
theorem aT2:prg.cellsOf 242=1:=by kernel_rfl
theorem cM9:(Rows.laid_internal_strconv_uint64pow10:DataW Unit)=Lib.tabData .u64 Lib.pow10Tab:=by kernel_rfl
variable {W:World}
theorem cO5 (h:laidMet prg FK W):Gq (PM W):=by
 intro W' hA;have h1:Lib.TabIs prg W "internal/strconv.uint64pow10" .u64 Lib.pow10Tab:=Lib.tabIs_of_head cP1 cP0 Tryz.underlying257 Tryz.underlying242 aT2 bM3 (cM9 ▸ h.tail.tail);unfold Lib.TabIs World.var? at *;rw [cP1] at *;simp only [iR] at *
 split at h1
 ·rename_i cs T m hb;rw [hA 6 _ hb];exact h1
 ·cases h1
theorem cO6 (h:laidMet prg FK W):Gl (PM W) :=
 ⟨DA (t:=235) (.arr 39 .strg) _ fT fT fT fT fT h.tail.tail.tail,
  DA (t:=217) (.arr 25 .strg) _ fT fT fT fT fT h.tail.tail.tail.tail⟩
theorem cO7 (h:laidMet prg FK W):Gf (PM W) :=
 ⟨DA (t:=163) (.arr 19 .strg) _ fT fT fT fT fT h.tail.tail.tail.tail.tail.tail.tail,
  DA (t:=165) (.arr 22 .strg) _ fT fT fT fT fT h.tail.tail.tail.tail.tail.tail,
  DA (t:=200) (.arr 19 (.str [.int .u8,.bool,.bool,.bool,.bool,.int .u8,.int .u8])) _ fT fT fT fT fT h.tail.tail.tail.tail.tail⟩
theorem bH2 (os:Os) (args:Array Value):laidMet prg FK ((World.laidAll prg os FK).forCall (λ_ _=>0) ⟨#[],args,[]⟩).memory :=
 laidMet_laidAll _ fT fT
theorem XV (os:Os) (args:Array Value):((World.laidAll prg os FK).forCall (λ_ _=>0) ⟨#[],args,[]⟩).Shaped prg :=
 World.shaped_of_ZipB fT fT
variable {W':World}
theorem bK3 (h:Ext W W'):∀ may,W.keptBut W' may:=λmay=>(Ext.below h).frame may
theorem aK7:laidOutB prg=true:=by kernel_rfl
end Go.Proofs.YtidclioghdbphaaGreatDoor
/- The walk lifted: for every input, rootcauselaw34.FormulaQuestions returns true, and its arguments read as they did (the tied card FormulaQuestionsCardSaid). Conditions: the card's own (the listed package variables read as the program's initialisers lay them, tied to the text), and no others. -/
namespace Go.Proofs.YtidclioghdbphaaGreatDoor
open Go.RowKit Go.Par Go.Sx
theorem GD {x:D} (h:Ty.has (.int .u8) x):∃ y:UInt8,x=dU8 y:=by
 simp only [Ty.has] at h;obtain ⟨n,rfl,hn⟩:=h;obtain ⟨a,rfl⟩:=cI5 hn;exact ⟨a,Z⟩
theorem JL {α:Type} {f:α->D} {τ:Ty} {x:D} (k:∀ y,Ty.has τ y->∃ z,y=f z) (h:Ty.has (.seq τ) x):∃ l:List α,x=.seq τ.cells (l.map f):=by
 unfold Ty.has at h;obtain ⟨ds,rfl,h1⟩:=h;obtain ⟨l,rfl⟩:=aK6 (f:=f) λx hx=>k x (h1 x hx);exact ⟨l,Z⟩
theorem cD0 {x:D} (h:Ty.has (.str [.int .u8,.seq (.int .u8)]) x):∃ y:Cd,x=dCd y:=by
 rw [Ty.has] at h;obtain ⟨ds,rfl,h⟩:=h;simp only [Ty.hasL] at h;obtain ⟨_,_,rfl,h1,_,_,rfl,h2,rfl⟩:=h;obtain ⟨a,rfl⟩:=GD h1;obtain ⟨l,rfl⟩:=JL (f:=dU8) (λ_=>GD) h2;exact ⟨⟨a,l⟩,Z⟩
theorem cF5 {x:D} (h:Ty.has (.str [.int .u8,.int .u8,.seq (.str [.int .u8,.seq (.int .u8)]),.seq (.str [.int .u8,.seq (.int .u8)])]) x):∃ y:Prt,x=LO y:=by
 rw [Ty.has] at h;obtain ⟨ds,rfl,h⟩:=h;simp only [Ty.hasL] at h;obtain ⟨_,_,rfl,h1,_,_,rfl,h2,_,_,rfl,h3,_,_,rfl,h4,rfl⟩:=h;obtain ⟨a,rfl⟩:=GD h1;obtain ⟨b,rfl⟩:=GD h2;obtain ⟨l,rfl⟩:=JL (f:=dCd) (λ_=>cD0) h3;obtain ⟨m,rfl⟩:=JL (f:=dCd) (λ_=>cD0) h4;exact ⟨⟨a,b,l,m⟩,Z⟩
theorem cF6 {x:D} (h:Ty.has (.str [.int .u8,.seq (.int .u8),.seq (.str [.int .u8,.int .u8,.seq (.str [.int .u8,.seq (.int .u8)]),.seq (.str [.int .u8,.seq (.int .u8)])])]) x):∃ y:Pln,x=aF1 y:=by
 rw [Ty.has] at h;obtain ⟨ds,rfl,h⟩:=h;simp only [Ty.hasL] at h;obtain ⟨_,_,rfl,h1,_,_,rfl,h2,_,_,rfl,h3,rfl⟩:=h;obtain ⟨a,rfl⟩:=GD h1;obtain ⟨l,rfl⟩:=JL (f:=dU8) (λ_=>GD) h2;obtain ⟨m,rfl⟩:=JL (f:=LO) (λ_=>cF5) h3;exact ⟨⟨a,l,m⟩,Z⟩
variable {W:World} {b:Nat} {v:Value}
theorem aQ5 {H:Type} {enc:TypeId × Value->H} {base:Nat} {sp:Nat->Bool} {held:Bool} {d:DataW H} {p:List MemPlace} (hv:Value.okWide prg W .any b 53 v) (h:DataW.Trod enc prg W base sp held 53 v d p) :
 ∃ (p:Pln) (cs:List Value),v=.agg cs.toArray/\Rep (PM W) (aF1 p) cs:=by
 obtain ⟨cs0,rfl,_⟩:=Go.WideShapes.okWide_struct Tryz.underlying53 hv;obtain ⟨fuel,hf⟩:=h;obtain ⟨d,hd,hr⟩:=Ty.opens W (.str [.int .u8,.seq (.int .u8),.seq (.str [.int .u8,.int .u8,.seq (.str [.int .u8,.seq (.int .u8)]),.seq (.str [.int .u8,.seq (.int .u8)])])]) 53 fuel _ _ fT fT hf;obtain ⟨p,rfl⟩:=cF6 hd;exact ⟨p,cs0.toList,by simp,hr⟩
theorem aC7 {H:Type} {enc:TypeId × Value->H} {base:Nat} {sp:Nat->Bool} {held:Bool} {d:DataW H} {p:List MemPlace} (hv:Value.okWide prg W .any b 50 v) (h:DataW.Trod enc prg W base sp held 50 v d p) :
 ∃ l:List UInt8,Rep (PM W) (.seq 1 (l.map dU8)) [v]:=by
 obtain ⟨a0,n0,c0,rfl⟩:=Go.WideShapes.okWide_slice Tryz.underlying50 hv;obtain ⟨fuel,hf⟩:=h;obtain ⟨d,hd,hr⟩:=Ty.opens W (.seq (.int .u8)) 50 fuel _ _ fT fT hf;obtain ⟨l,rfl⟩:=JL (f:=dU8) (λ_=>GD) hd;exact ⟨l,hr⟩
namespace formulaQuestions
open Go.ChangeShapes Go.WideShapes Go.ChangeAt Go.RowKit
open Go.ChangeMaps (open_string shut_string)
theorem lifted (os:Os) (started:os.Started) (H:Type) (enc:TypeId × Value->H) :
 ReturnsInHanded {} Tryz.checked os 8 .any (λw args=>(Rows.formulaQuestionsSpec.pre enc prg Tryz.f8 [] false w args/\laidMet prg FK w)/\sizedMet enc prg Tryz.f8 (OpenSpec.ofChange Rows.formulaQuestionsSpec) false w args)
  (Rows.formulaQuestionsSpec.post enc prg Tryz.f8 false true false false):=by
 refine wrap (C:=Tryz.checked) (X:=λw _=>laidMet prg FK w) (λ_ _ _ hh h=>h.of_heap hh) own started fT Tryz.func8
  (ChangeSpec.witness_shaped (enc:=enc) (C:=Tryz.checked) (os:=os) (X:=λw _=>laidMet prg FK w) false (World.laidAll prg os FK) #[.agg #[.int .u8 0,cL,cL],cL] 8 (World.laidAll_os _ _ _) (XV os _) fT fT fT (bH2 os _)) ?_
 intro W base args ds gs before hval0 hW hL hS;have GL:=cO6 hL;have G:=cO7 hL;have gq:=cO5 hL;have hval:∀ (j:Nat) t v,Tryz.f8.params[j]? = some t->args[j]? = some v->Value.okWide prg W .any base t v:=hval0;have hW':=hW;obtain ⟨p,q,hA0,hV,rfl,hfz,hnd⟩:=hW;have hA:DataW.TrodAll enc prg W 0 (λ_=>true) true Tryz.f8.params.toList args.toList ds p:=hA0;rw [Tryz.params8] at hA hval;obtain ⟨v0,v1,d0,d1,p0,p1,rfl,rfl,rfl,h0,h1⟩:=trodAll_two hA;obtain ⟨rfl,rfl⟩:=trodVars_none hV;have k0:=h0;have hlt0:∀ x∈p0,x.block<W.heap.size:=λx hx=>hW'.lt x (by simp [hx]);have k1:=h1;have hlt1:∀ x∈p1,x.block<W.heap.size:=λx hx=>hW'.lt x (by simp [hx]);obtain ⟨q0,cs0,e0,hr0⟩:=aQ5 (hval 0 53 v0 rfl rfl) h0;subst e0;obtain ⟨l1,hr1⟩:=aC7 (hval 1 50 v1 rfl rfl) h1;clear hA0 hval0;simp only [eL] at hW';refine (DI (PM W) GL G gq q0 cs0 l1 v1 hr0 hr1 W (bO1 W)).mono λe W' ⟨he,hg⟩=>?_;subst he;refine ⟨_,Z,_,_,_,[],(p0++p1),[],hW',?_,?_,Z,bK3 hg _,λh=>by cases h⟩
 ·exact trodAll_mk1 (shut_bool Tryz.underlying4 _)
 ·exact trodAll_mk2 (Below.trod aK7 fT (aI fT) k0 hg.below hlt0) (Below.trod aK7 fT (aI fT) k1 hg.below hlt1)
end formulaQuestions
end Go.Proofs.YtidclioghdbphaaGreatDoor
