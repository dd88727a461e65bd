/- Texts of the proof, one behind the other. -/
import Derived.Test.YtidclioghdbphaaGreatDoorMe
set_option linter.all false
set_option maxRecDepth 100000
namespace Go.Proofs.YtidclioghdbphaaGreatDoor
open Go.RowKit Go.Par Go.Sx Tryz
variable {k:Nat}
theorem GP {l:List Ex} {p:Ex->Bool} (hk:k<l.length) (h:(l.take k).all p=true) (hp:p l[k]=true):(l.take (k+1)).all p=true:=by
 rw [List.take_succ,List.all_append,h,List.getElem?_eq_getElem hk];simp [hp]
theorem MQ {l:List Ex} {p:Ex->Bool} (hk:k<l.length) (hp:p l[k]=false):l.all p=false:=List.all_eq_false.2 ⟨_,bI hk,by rw [hp];decide⟩
theorem vH:∀ l,zO l=l.all dS
 | []=>rfl
 | e::r=>by rw [zO,eY,vH r]
theorem mU (H:Hp) (op:UInt8) (nm:Str) (nn:Int64) (args:List Ex) (n:Nat) (cs:List Value) (w:World) (h:Rep H (dEx .u8 (.mk op nm nn args)) cs) (ht:∀ a∈args,(∀ (cs:List Value) (W:World),Rep H (dEx .u8 a) cs->Agr H W->Calls prg 79 #[.agg cs.toArray] W λr W'=>r=.returned (.bool (dS a))/\Ext W W')) (hA:Agr H w) :
 Calls prg 132 #[.agg cs.toArray,iN n] w λr w'=>r=.returned (.bool (args.all dS && decide (args.length=n)))/\Ext w w':=by
 obtain ⟨pp,c,rfl,hs,hnm⟩:=fX h;have hcap:=hs.cap;refine Sx.enter (H:=H) func132 rfl ntmps132 rfl hA ?_;refine .sr<|.bx Z Z Z λb2=>.aq Z<|.sq<|.sr<|.fA Z eJ<|.lD Z dQ Hm Z<|.yw (.lenSl dW Z)<|.mv Z<|.nt<|.bk<|.lp (X:=Nat) [(1,_),(2,_),(8,_),(9,_)] ⟨Z,Z,Z,Z,Jt⟩ [_] (λk=>[(10,iN k)]) (λk=>H) (λk=>[]) (λk=>k<=args.length/\(args.take k).all dS=true) (λk=>args.length - k) 0 (λ_ s=>s) ⟨Z,Jt⟩ ⟨aR _,Z⟩ λk hC=>?_
 obtain ⟨hk0,hal⟩:=hC;refine .sr<|.yw (.lss Z Z)<|.nt<|.sq<|.ce Z (λh11=>?_) (λh11=>?_)
 ·have hk:k<args.length:=by omega
  obtain ⟨bE,oE,cE,hpE,rE,lE,mE⟩:=hs.elem (fW (f:=dEx .u8) hk);cases hpE;refine .sk<|.tN<|.sq<|.bk<|.sr<|.yw (.indexSl dW Z Z Z (by omega) (q:=oE+k * 4) Z)<|.yw (.loadMW Z eC mE lE)<|.al lI Z λb6=>.sV .head Z Z gQ lE rE.one Z<|.ns<|.yw (.loadW Z eC Hm lE)<|.yw (.call CZ Z (λW s=>ht _ (bI hk) cE W rE s.agr))<|.yw (.not Z)<|.nt<|.cd Z (λh16=>?_) (λh16=>?_)
  ·refine .sr<|.az Z<|.bR<|.tR<|.tR<|.bR<|.tR<|?_
   refine y9 Z Z λW s=>⟨?_,s.ext⟩
   first
    | (rw [MQ hk (by simpa using h16)];rfl)
    | (rw [hal,aA])
  exact .sk<|.bN<|.tN<|.rg<|.yw (.add Z Z w7)<|.mv Z<|.nt<|.ag (k+1) ⟨Z,Jt⟩ ⟨Z,Z,Z,Z,Jt⟩ (λ_ s=>s.pick [1] [_] Z Z) ⟨by omega,GP hk hal (by simpa using h16)⟩ (by omega)
 obtain rfl:k=args.length:=by omega
 rw [aZ] at hal;refine .ex<|.eb<|.sr<|.fA Z eJ<|.lD Z dQ Hm Z<|.yw (.lenSl dW Z)<|.mv Z<|.yw (.cast (.eql Z Z) (congrArg Value.bool n0))<|.az Z<|?_
 refine y9 Z Z λW s=>⟨?_,s.ext⟩
 first
  | (rw [MQ hk (by simpa using h16)];rfl)
  | (rw [hal,aA])
theorem tb1 {op:UInt8} {nm:Str} {n:Int64} {args:List Ex} (h:op=1):dS (.mk op nm n args)=(decide (nm=[]) && decide (0<=n.toInt) && decide (args.length=0)):=by rw [dS,aO h]
theorem tb4 {op:UInt8} {nm:Str} {n:Int64} {args:List Ex} (h:op=4):dS (.mk op nm n args)=(decide (nm=[]) && decide (n=0) && decide (args.length=0)):=by subst h;rw [dS,aG (by decide),aO rfl]
theorem tb5 {op:UInt8} {nm:Str} {n:Int64} {args:List Ex} (h:op=5\/op=8):dS (.mk op nm n args)=(decide (n=0) && decide (args.length=0)):=by
 rw [dS,aG (by rcases h with rfl | rfl <;> decide),aG (by rcases h with rfl | rfl <;> decide),aO h]
theorem tb6 {op:UInt8} {nm:Str} {n:Int64} {args:List Ex} (h:op=6):dS (.mk op nm n args)=(decide (n=0) && (args.all dS && decide (args.length=1))):=by
 subst h;rw [dS,aG (by decide),aG (by decide),aG (by decide),aO rfl,vH]
theorem tb9 {op:UInt8} {nm:Str} {n:Int64} {args:List Ex} (h:op=9):dS (.mk op nm n args)=(decide (nm=[]) && decide (n=0) && (args.all dS && decide (args.length=1))):=by
 subst h;rw [dS,aG (by decide),aG (by decide),aG (by decide),aG (by decide),aO rfl,vH]
theorem tbb {op:UInt8} {nm:Str} {n:Int64} {args:List Ex} (h:op=11\/op=12\/op=13\/op=14\/op=15):dS (.mk op nm n args)=(decide (nm=[]) && decide (n=0) && (args.all dS && decide (args.length=2))):=by
 have e:∀ k:UInt8,k<11->¬ op=k:=by
  intro k hk e;subst e;rcases h with rfl | rfl | rfl | rfl | rfl <;> exact absurd hk (by decide)
 rw [dS,aG (e 1 (by decide)),aG (e 4 (by decide)),aG (by rintro (h | h);exact e 5 (by decide) h;exact e 8 (by decide) h),aG (e 6 (by decide)),aG (e 9 (by decide)),aO h,vH]
theorem tbn {op:UInt8} {nm:Str} {n:Int64} {args:List Ex} (h1:¬ op=1) (h4:¬ op=4) (h5:¬ op=5) (h8:¬ op=8) (h6:¬ op=6) (h9:¬ op=9) (a:¬ op=11) (b:¬ op=12) (c:¬ op=13) (d:¬ op=14) (e:¬ op=15):dS (.mk op nm n args)=false:=by
 rw [dS,aG h1,aG h4,aG (rK.2 ⟨h5,h8⟩),aG h6,aG h9,aG (by rintro (h | h | h | h | h);exact a h;exact b h;exact c h;exact d h;exact e h)]
set_option maxHeartbeats 1000000 in
theorem zX (H:Hp) (e:Ex):(∀ (cs:List Value) (W:World),Rep H (dEx .u8 e) cs->Agr H W->Calls prg 79 #[.agg cs.toArray] W λr W'=>r=.returned (.bool (dS e))/\Ext W W'):=by
 induction e using Ex.ind with | _ op nm nn args ih
 intro cs w h hA;obtain ⟨pp,c,rfl,hs,hnm⟩:=fX h;refine Sx.enter (H:=H) func79 rfl ntmps79 rfl hA ?_;refine .sr<|.bx Z Z Z λb1=>.aq Z<|.sq<|.sr<|.fA Z iI<|.lD Z kW Hm Z<|.nt<|.bk<|.sr<|.yw (.eql Z Z)<|.aq Z<|.cd Z (λh5=>?_) (λh5=>?_)
 ·have q1:op=1:=aS.1 (by have:=aJ h5;show op.toNat=1;omega);refine .sr<|.fA Z gM<|.lD Z cP Hm Z<|.yw (.eqS Z Z)<|.mv Z<|.b2 (λh10=>?_) (λh10=>?_)
  ·refine .gy (.fieldAddr Z gZ)<|.gy (.load Z eS Hm Z)<|.gy (.geq Z Z)<|.yw (.pickT Z Z)<|.mv Z<|.b2 (λh15=>?_) (λh15=>?_)
   ·refine .gy (.fieldAddr Z eJ)<|.gy (.load Z dQ Hm Z)<|.gy (.lenSl dW Z)<|.gy (.cast (.eql Z Z) (congrArg Value.bool er0))<|.yw (.pickT Z Z)<|.az Z<|.bR<|.tR<|?_
    refine y9 Z Z λW s=>⟨?_,s.ext⟩
    first
     | (rw [tb1 q1,h10,h15];simp only [aA,aB,aC,Bool.and_false])
     | (rw [tb1 q1,h10,h15];rfl)
     | (rw [tb1 q1,h10];simp only [aA,aB,aC,Bool.and_false])
     | (rw [tb1 q1,h10];rfl)
     | (rw [tb4 q4,h26,h31];simp only [aA,aB,aC,Bool.and_false])
     | (rw [tb4 q4,h26,h31];rfl)
     | (rw [tb4 q4,h26];simp only [aA,aB,aC,Bool.and_false])
     | (rw [tb4 q4,h26];rfl)
     | (rw [tb5 (.inl q58),h43];simp only [aA,aB,aC,Bool.and_false])
     | (rw [tb5 (.inl q58),h43];rfl)
     | (rw [tb5 (.inr q58),h43];simp only [aA,aB,aC,Bool.and_false])
     | (rw [tb5 (.inr q58),h43];rfl)
     | (rw [tb6 q6,h54];simp only [aA,aB,aC,Bool.and_false])
     | (rw [tb6 q6,h54];rfl)
     | (rw [tb9 q9,h63,h68];simp only [aA,aB,aC,Bool.and_false])
     | (rw [tb9 q9,h63,h68];rfl)
     | (rw [tb9 q9,h63];simp only [aA,aB,aC,Bool.and_false])
     | (rw [tb9 q9,h63];rfl)
     | (rw [tbb (.inl qb),h81,h86];simp only [aA,aB,aC,Bool.and_false])
     | (rw [tbb (.inl qb),h81,h86];rfl)
     | (rw [tbb (.inl qb),h81];simp only [aA,aB,aC,Bool.and_false])
     | (rw [tbb (.inl qb),h81];rfl)
     | (rw [tbb (.inr (.inl qb)),h81,h86];simp only [aA,aB,aC,Bool.and_false])
     | (rw [tbb (.inr (.inl qb)),h81,h86];rfl)
     | (rw [tbb (.inr (.inl qb)),h81];simp only [aA,aB,aC,Bool.and_false])
     | (rw [tbb (.inr (.inl qb)),h81];rfl)
     | (rw [tbb (.inr (.inr (.inl qb))),h81,h86];simp only [aA,aB,aC,Bool.and_false])
     | (rw [tbb (.inr (.inr (.inl qb))),h81,h86];rfl)
     | (rw [tbb (.inr (.inr (.inl qb))),h81];simp only [aA,aB,aC,Bool.and_false])
     | (rw [tbb (.inr (.inr (.inl qb))),h81];rfl)
     | (rw [tbb (.inr (.inr (.inr (.inl qb)))),h81,h86];simp only [aA,aB,aC,Bool.and_false])
     | (rw [tbb (.inr (.inr (.inr (.inl qb)))),h81,h86];rfl)
     | (rw [tbb (.inr (.inr (.inr (.inl qb)))),h81];simp only [aA,aB,aC,Bool.and_false])
     | (rw [tbb (.inr (.inr (.inr (.inl qb)))),h81];rfl)
     | (rw [tbb (.inr (.inr (.inr (.inr qb)))),h81,h86];simp only [aA,aB,aC,Bool.and_false])
     | (rw [tbb (.inr (.inr (.inr (.inr qb)))),h81,h86];rfl)
     | (rw [tbb (.inr (.inr (.inr (.inr qb)))),h81];simp only [aA,aB,aC,Bool.and_false])
     | (rw [tbb (.inr (.inr (.inr (.inr qb)))),h81];rfl)
     | (rw [tbn q1 q4 q585 q588 q6 q9 qb11 qb12 qb13 qb14 qb15])
   refine .gG<|.gG<|.gG<|.gG<|.yw (.pickF Z Z)<|.az Z<|.bR<|.tR<|?_
   refine y9 Z Z λW s=>⟨?_,s.ext⟩
   first
    | (rw [tb1 q1,h10,h15];simp only [aA,aB,aC,Bool.and_false])
    | (rw [tb1 q1,h10,h15];rfl)
    | (rw [tb1 q1,h10];simp only [aA,aB,aC,Bool.and_false])
    | (rw [tb1 q1,h10];rfl)
    | (rw [tb4 q4,h26,h31];simp only [aA,aB,aC,Bool.and_false])
    | (rw [tb4 q4,h26,h31];rfl)
    | (rw [tb4 q4,h26];simp only [aA,aB,aC,Bool.and_false])
    | (rw [tb4 q4,h26];rfl)
    | (rw [tb5 (.inl q58),h43];simp only [aA,aB,aC,Bool.and_false])
    | (rw [tb5 (.inl q58),h43];rfl)
    | (rw [tb5 (.inr q58),h43];simp only [aA,aB,aC,Bool.and_false])
    | (rw [tb5 (.inr q58),h43];rfl)
    | (rw [tb6 q6,h54];simp only [aA,aB,aC,Bool.and_false])
    | (rw [tb6 q6,h54];rfl)
    | (rw [tb9 q9,h63,h68];simp only [aA,aB,aC,Bool.and_false])
    | (rw [tb9 q9,h63,h68];rfl)
    | (rw [tb9 q9,h63];simp only [aA,aB,aC,Bool.and_false])
    | (rw [tb9 q9,h63];rfl)
    | (rw [tbb (.inl qb),h81,h86];simp only [aA,aB,aC,Bool.and_false])
    | (rw [tbb (.inl qb),h81,h86];rfl)
    | (rw [tbb (.inl qb),h81];simp only [aA,aB,aC,Bool.and_false])
    | (rw [tbb (.inl qb),h81];rfl)
    | (rw [tbb (.inr (.inl qb)),h81,h86];simp only [aA,aB,aC,Bool.and_false])
    | (rw [tbb (.inr (.inl qb)),h81,h86];rfl)
    | (rw [tbb (.inr (.inl qb)),h81];simp only [aA,aB,aC,Bool.and_false])
    | (rw [tbb (.inr (.inl qb)),h81];rfl)
    | (rw [tbb (.inr (.inr (.inl qb))),h81,h86];simp only [aA,aB,aC,Bool.and_false])
    | (rw [tbb (.inr (.inr (.inl qb))),h81,h86];rfl)
    | (rw [tbb (.inr (.inr (.inl qb))),h81];simp only [aA,aB,aC,Bool.and_false])
    | (rw [tbb (.inr (.inr (.inl qb))),h81];rfl)
    | (rw [tbb (.inr (.inr (.inr (.inl qb)))),h81,h86];simp only [aA,aB,aC,Bool.and_false])
    | (rw [tbb (.inr (.inr (.inr (.inl qb)))),h81,h86];rfl)
    | (rw [tbb (.inr (.inr (.inr (.inl qb)))),h81];simp only [aA,aB,aC,Bool.and_false])
    | (rw [tbb (.inr (.inr (.inr (.inl qb)))),h81];rfl)
    | (rw [tbb (.inr (.inr (.inr (.inr qb)))),h81,h86];simp only [aA,aB,aC,Bool.and_false])
    | (rw [tbb (.inr (.inr (.inr (.inr qb)))),h81,h86];rfl)
    | (rw [tbb (.inr (.inr (.inr (.inr qb)))),h81];simp only [aA,aB,aC,Bool.and_false])
    | (rw [tbb (.inr (.inr (.inr (.inr qb)))),h81];rfl)
    | (rw [tbn q1 q4 q585 q588 q6 q9 qb11 qb12 qb13 qb14 qb15])
  refine .gG<|.gG<|.gG<|.yw (.pickF Z Z)<|.mv Z<|.gG<|.gG<|.gG<|.gG<|.yw (.pickF Z Z)<|.az Z<|.bR<|.tR<|?_
  refine y9 Z Z λW s=>⟨?_,s.ext⟩
  first
   | (rw [tb1 q1,h10,h15];simp only [aA,aB,aC,Bool.and_false])
   | (rw [tb1 q1,h10,h15];rfl)
   | (rw [tb1 q1,h10];simp only [aA,aB,aC,Bool.and_false])
   | (rw [tb1 q1,h10];rfl)
   | (rw [tb4 q4,h26,h31];simp only [aA,aB,aC,Bool.and_false])
   | (rw [tb4 q4,h26,h31];rfl)
   | (rw [tb4 q4,h26];simp only [aA,aB,aC,Bool.and_false])
   | (rw [tb4 q4,h26];rfl)
   | (rw [tb5 (.inl q58),h43];simp only [aA,aB,aC,Bool.and_false])
   | (rw [tb5 (.inl q58),h43];rfl)
   | (rw [tb5 (.inr q58),h43];simp only [aA,aB,aC,Bool.and_false])
   | (rw [tb5 (.inr q58),h43];rfl)
   | (rw [tb6 q6,h54];simp only [aA,aB,aC,Bool.and_false])
   | (rw [tb6 q6,h54];rfl)
   | (rw [tb9 q9,h63,h68];simp only [aA,aB,aC,Bool.and_false])
   | (rw [tb9 q9,h63,h68];rfl)
   | (rw [tb9 q9,h63];simp only [aA,aB,aC,Bool.and_false])
   | (rw [tb9 q9,h63];rfl)
   | (rw [tbb (.inl qb),h81,h86];simp only [aA,aB,aC,Bool.and_false])
   | (rw [tbb (.inl qb),h81,h86];rfl)
   | (rw [tbb (.inl qb),h81];simp only [aA,aB,aC,Bool.and_false])
   | (rw [tbb (.inl qb),h81];rfl)
   | (rw [tbb (.inr (.inl qb)),h81,h86];simp only [aA,aB,aC,Bool.and_false])
   | (rw [tbb (.inr (.inl qb)),h81,h86];rfl)
   | (rw [tbb (.inr (.inl qb)),h81];simp only [aA,aB,aC,Bool.and_false])
   | (rw [tbb (.inr (.inl qb)),h81];rfl)
   | (rw [tbb (.inr (.inr (.inl qb))),h81,h86];simp only [aA,aB,aC,Bool.and_false])
   | (rw [tbb (.inr (.inr (.inl qb))),h81,h86];rfl)
   | (rw [tbb (.inr (.inr (.inl qb))),h81];simp only [aA,aB,aC,Bool.and_false])
   | (rw [tbb (.inr (.inr (.inl qb))),h81];rfl)
   | (rw [tbb (.inr (.inr (.inr (.inl qb)))),h81,h86];simp only [aA,aB,aC,Bool.and_false])
   | (rw [tbb (.inr (.inr (.inr (.inl qb)))),h81,h86];rfl)
   | (rw [tbb (.inr (.inr (.inr (.inl qb)))),h81];simp only [aA,aB,aC,Bool.and_false])
   | (rw [tbb (.inr (.inr (.inr (.inl qb)))),h81];rfl)
   | (rw [tbb (.inr (.inr (.inr (.inr qb)))),h81,h86];simp only [aA,aB,aC,Bool.and_false])
   | (rw [tbb (.inr (.inr (.inr (.inr qb)))),h81,h86];rfl)
   | (rw [tbb (.inr (.inr (.inr (.inr qb)))),h81];simp only [aA,aB,aC,Bool.and_false])
   | (rw [tbb (.inr (.inr (.inr (.inr qb)))),h81];rfl)
   | (rw [tbn q1 q4 q585 q588 q6 q9 qb11 qb12 qb13 qb14 qb15])
 have q1:¬ op=1:=λe=>aP h5 (by rw [e];rfl);refine .sr<|.yw (.eql Z Z)<|.aq Z<|.cd Z (λh21=>?_) (λh21=>?_)
 ·have q4:op=4:=aS.1 (by have:=aJ h21;show op.toNat=4;omega);refine .sr<|.fA Z gM<|.lD Z cP Hm Z<|.yw (.eqS Z Z)<|.mv Z<|.b2 (λh26=>?_) (λh26=>?_)
  ·refine .gy (.fieldAddr Z gZ)<|.gy (.load Z eS Hm Z)<|.gy (.cast (.eql Z Z) (congrArg Value.bool i0))<|.yw (.pickT Z Z)<|.mv Z<|.b2 (λh31=>?_) (λh31=>?_)
   ·refine .gy (.fieldAddr Z eJ)<|.gy (.load Z dQ Hm Z)<|.gy (.lenSl dW Z)<|.gy (.cast (.eql Z Z) (congrArg Value.bool er0))<|.yw (.pickT Z Z)<|.az Z<|.bR<|.tR<|?_
    refine y9 Z Z λW s=>⟨?_,s.ext⟩
    first
     | (rw [tb1 q1,h10,h15];simp only [aA,aB,aC,Bool.and_false])
     | (rw [tb1 q1,h10,h15];rfl)
     | (rw [tb1 q1,h10];simp only [aA,aB,aC,Bool.and_false])
     | (rw [tb1 q1,h10];rfl)
     | (rw [tb4 q4,h26,h31];simp only [aA,aB,aC,Bool.and_false])
     | (rw [tb4 q4,h26,h31];rfl)
     | (rw [tb4 q4,h26];simp only [aA,aB,aC,Bool.and_false])
     | (rw [tb4 q4,h26];rfl)
     | (rw [tb5 (.inl q58),h43];simp only [aA,aB,aC,Bool.and_false])
     | (rw [tb5 (.inl q58),h43];rfl)
     | (rw [tb5 (.inr q58),h43];simp only [aA,aB,aC,Bool.and_false])
     | (rw [tb5 (.inr q58),h43];rfl)
     | (rw [tb6 q6,h54];simp only [aA,aB,aC,Bool.and_false])
     | (rw [tb6 q6,h54];rfl)
     | (rw [tb9 q9,h63,h68];simp only [aA,aB,aC,Bool.and_false])
     | (rw [tb9 q9,h63,h68];rfl)
     | (rw [tb9 q9,h63];simp only [aA,aB,aC,Bool.and_false])
     | (rw [tb9 q9,h63];rfl)
     | (rw [tbb (.inl qb),h81,h86];simp only [aA,aB,aC,Bool.and_false])
     | (rw [tbb (.inl qb),h81,h86];rfl)
     | (rw [tbb (.inl qb),h81];simp only [aA,aB,aC,Bool.and_false])
     | (rw [tbb (.inl qb),h81];rfl)
     | (rw [tbb (.inr (.inl qb)),h81,h86];simp only [aA,aB,aC,Bool.and_false])
     | (rw [tbb (.inr (.inl qb)),h81,h86];rfl)
     | (rw [tbb (.inr (.inl qb)),h81];simp only [aA,aB,aC,Bool.and_false])
     | (rw [tbb (.inr (.inl qb)),h81];rfl)
     | (rw [tbb (.inr (.inr (.inl qb))),h81,h86];simp only [aA,aB,aC,Bool.and_false])
     | (rw [tbb (.inr (.inr (.inl qb))),h81,h86];rfl)
     | (rw [tbb (.inr (.inr (.inl qb))),h81];simp only [aA,aB,aC,Bool.and_false])
     | (rw [tbb (.inr (.inr (.inl qb))),h81];rfl)
     | (rw [tbb (.inr (.inr (.inr (.inl qb)))),h81,h86];simp only [aA,aB,aC,Bool.and_false])
     | (rw [tbb (.inr (.inr (.inr (.inl qb)))),h81,h86];rfl)
     | (rw [tbb (.inr (.inr (.inr (.inl qb)))),h81];simp only [aA,aB,aC,Bool.and_false])
     | (rw [tbb (.inr (.inr (.inr (.inl qb)))),h81];rfl)
     | (rw [tbb (.inr (.inr (.inr (.inr qb)))),h81,h86];simp only [aA,aB,aC,Bool.and_false])
     | (rw [tbb (.inr (.inr (.inr (.inr qb)))),h81,h86];rfl)
     | (rw [tbb (.inr (.inr (.inr (.inr qb)))),h81];simp only [aA,aB,aC,Bool.and_false])
     | (rw [tbb (.inr (.inr (.inr (.inr qb)))),h81];rfl)
     | (rw [tbn q1 q4 q585 q588 q6 q9 qb11 qb12 qb13 qb14 qb15])
   refine .gG<|.gG<|.gG<|.gG<|.yw (.pickF Z Z)<|.az Z<|.bR<|.tR<|?_
   refine y9 Z Z λW s=>⟨?_,s.ext⟩
   first
    | (rw [tb1 q1,h10,h15];simp only [aA,aB,aC,Bool.and_false])
    | (rw [tb1 q1,h10,h15];rfl)
    | (rw [tb1 q1,h10];simp only [aA,aB,aC,Bool.and_false])
    | (rw [tb1 q1,h10];rfl)
    | (rw [tb4 q4,h26,h31];simp only [aA,aB,aC,Bool.and_false])
    | (rw [tb4 q4,h26,h31];rfl)
    | (rw [tb4 q4,h26];simp only [aA,aB,aC,Bool.and_false])
    | (rw [tb4 q4,h26];rfl)
    | (rw [tb5 (.inl q58),h43];simp only [aA,aB,aC,Bool.and_false])
    | (rw [tb5 (.inl q58),h43];rfl)
    | (rw [tb5 (.inr q58),h43];simp only [aA,aB,aC,Bool.and_false])
    | (rw [tb5 (.inr q58),h43];rfl)
    | (rw [tb6 q6,h54];simp only [aA,aB,aC,Bool.and_false])
    | (rw [tb6 q6,h54];rfl)
    | (rw [tb9 q9,h63,h68];simp only [aA,aB,aC,Bool.and_false])
    | (rw [tb9 q9,h63,h68];rfl)
    | (rw [tb9 q9,h63];simp only [aA,aB,aC,Bool.and_false])
    | (rw [tb9 q9,h63];rfl)
    | (rw [tbb (.inl qb),h81,h86];simp only [aA,aB,aC,Bool.and_false])
    | (rw [tbb (.inl qb),h81,h86];rfl)
    | (rw [tbb (.inl qb),h81];simp only [aA,aB,aC,Bool.and_false])
    | (rw [tbb (.inl qb),h81];rfl)
    | (rw [tbb (.inr (.inl qb)),h81,h86];simp only [aA,aB,aC,Bool.and_false])
    | (rw [tbb (.inr (.inl qb)),h81,h86];rfl)
    | (rw [tbb (.inr (.inl qb)),h81];simp only [aA,aB,aC,Bool.and_false])
    | (rw [tbb (.inr (.inl qb)),h81];rfl)
    | (rw [tbb (.inr (.inr (.inl qb))),h81,h86];simp only [aA,aB,aC,Bool.and_false])
    | (rw [tbb (.inr (.inr (.inl qb))),h81,h86];rfl)
    | (rw [tbb (.inr (.inr (.inl qb))),h81];simp only [aA,aB,aC,Bool.and_false])
    | (rw [tbb (.inr (.inr (.inl qb))),h81];rfl)
    | (rw [tbb (.inr (.inr (.inr (.inl qb)))),h81,h86];simp only [aA,aB,aC,Bool.and_false])
    | (rw [tbb (.inr (.inr (.inr (.inl qb)))),h81,h86];rfl)
    | (rw [tbb (.inr (.inr (.inr (.inl qb)))),h81];simp only [aA,aB,aC,Bool.and_false])
    | (rw [tbb (.inr (.inr (.inr (.inl qb)))),h81];rfl)
    | (rw [tbb (.inr (.inr (.inr (.inr qb)))),h81,h86];simp only [aA,aB,aC,Bool.and_false])
    | (rw [tbb (.inr (.inr (.inr (.inr qb)))),h81,h86];rfl)
    | (rw [tbb (.inr (.inr (.inr (.inr qb)))),h81];simp only [aA,aB,aC,Bool.and_false])
    | (rw [tbb (.inr (.inr (.inr (.inr qb)))),h81];rfl)
    | (rw [tbn q1 q4 q585 q588 q6 q9 qb11 qb12 qb13 qb14 qb15])
  refine .gG<|.gG<|.gG<|.yw (.pickF Z Z)<|.mv Z<|.gG<|.gG<|.gG<|.gG<|.yw (.pickF Z Z)<|.az Z<|.bR<|.tR<|?_
  refine y9 Z Z λW s=>⟨?_,s.ext⟩
  first
   | (rw [tb1 q1,h10,h15];simp only [aA,aB,aC,Bool.and_false])
   | (rw [tb1 q1,h10,h15];rfl)
   | (rw [tb1 q1,h10];simp only [aA,aB,aC,Bool.and_false])
   | (rw [tb1 q1,h10];rfl)
   | (rw [tb4 q4,h26,h31];simp only [aA,aB,aC,Bool.and_false])
   | (rw [tb4 q4,h26,h31];rfl)
   | (rw [tb4 q4,h26];simp only [aA,aB,aC,Bool.and_false])
   | (rw [tb4 q4,h26];rfl)
   | (rw [tb5 (.inl q58),h43];simp only [aA,aB,aC,Bool.and_false])
   | (rw [tb5 (.inl q58),h43];rfl)
   | (rw [tb5 (.inr q58),h43];simp only [aA,aB,aC,Bool.and_false])
   | (rw [tb5 (.inr q58),h43];rfl)
   | (rw [tb6 q6,h54];simp only [aA,aB,aC,Bool.and_false])
   | (rw [tb6 q6,h54];rfl)
   | (rw [tb9 q9,h63,h68];simp only [aA,aB,aC,Bool.and_false])
   | (rw [tb9 q9,h63,h68];rfl)
   | (rw [tb9 q9,h63];simp only [aA,aB,aC,Bool.and_false])
   | (rw [tb9 q9,h63];rfl)
   | (rw [tbb (.inl qb),h81,h86];simp only [aA,aB,aC,Bool.and_false])
   | (rw [tbb (.inl qb),h81,h86];rfl)
   | (rw [tbb (.inl qb),h81];simp only [aA,aB,aC,Bool.and_false])
   | (rw [tbb (.inl qb),h81];rfl)
   | (rw [tbb (.inr (.inl qb)),h81,h86];simp only [aA,aB,aC,Bool.and_false])
   | (rw [tbb (.inr (.inl qb)),h81,h86];rfl)
   | (rw [tbb (.inr (.inl qb)),h81];simp only [aA,aB,aC,Bool.and_false])
   | (rw [tbb (.inr (.inl qb)),h81];rfl)
   | (rw [tbb (.inr (.inr (.inl qb))),h81,h86];simp only [aA,aB,aC,Bool.and_false])
   | (rw [tbb (.inr (.inr (.inl qb))),h81,h86];rfl)
   | (rw [tbb (.inr (.inr (.inl qb))),h81];simp only [aA,aB,aC,Bool.and_false])
   | (rw [tbb (.inr (.inr (.inl qb))),h81];rfl)
   | (rw [tbb (.inr (.inr (.inr (.inl qb)))),h81,h86];simp only [aA,aB,aC,Bool.and_false])
   | (rw [tbb (.inr (.inr (.inr (.inl qb)))),h81,h86];rfl)
   | (rw [tbb (.inr (.inr (.inr (.inl qb)))),h81];simp only [aA,aB,aC,Bool.and_false])
   | (rw [tbb (.inr (.inr (.inr (.inl qb)))),h81];rfl)
   | (rw [tbb (.inr (.inr (.inr (.inr qb)))),h81,h86];simp only [aA,aB,aC,Bool.and_false])
   | (rw [tbb (.inr (.inr (.inr (.inr qb)))),h81,h86];rfl)
   | (rw [tbb (.inr (.inr (.inr (.inr qb)))),h81];simp only [aA,aB,aC,Bool.and_false])
   | (rw [tbb (.inr (.inr (.inr (.inr qb)))),h81];rfl)
   | (rw [tbn q1 q4 q585 q588 q6 q9 qb11 qb12 qb13 qb14 qb15])
 have q4:¬ op=4:=λe=>aP h21 (by rw [e];rfl);refine .sq<|.sr<|.yw (.eql Z Z)<|.aq Z<|.cr Z (λh37=>?_) (λh37=>?_)
 ·have q58:op=5:=aS.1 (by have:=aJ h37;show op.toNat=5;omega);refine .sk<|.tN<|.cT Z<|.sr<|.fA Z gZ<|.lD Z eS Hm Z<|.yw (.cast (.eql Z Z) (congrArg Value.bool i0))<|.mv Z<|.b2 (λh43=>?_) (λh43=>?_)
  ·refine .gy (.fieldAddr Z eJ)<|.gy (.load Z dQ Hm Z)<|.gy (.lenSl dW Z)<|.gy (.cast (.eql Z Z) (congrArg Value.bool er0))<|.yw (.pickT Z Z)<|.az Z<|.bR<|.tR<|?_
   refine y9 Z Z λW s=>⟨?_,s.ext⟩
   first
    | (rw [tb1 q1,h10,h15];simp only [aA,aB,aC,Bool.and_false])
    | (rw [tb1 q1,h10,h15];rfl)
    | (rw [tb1 q1,h10];simp only [aA,aB,aC,Bool.and_false])
    | (rw [tb1 q1,h10];rfl)
    | (rw [tb4 q4,h26,h31];simp only [aA,aB,aC,Bool.and_false])
    | (rw [tb4 q4,h26,h31];rfl)
    | (rw [tb4 q4,h26];simp only [aA,aB,aC,Bool.and_false])
    | (rw [tb4 q4,h26];rfl)
    | (rw [tb5 (.inl q58),h43];simp only [aA,aB,aC,Bool.and_false])
    | (rw [tb5 (.inl q58),h43];rfl)
    | (rw [tb5 (.inr q58),h43];simp only [aA,aB,aC,Bool.and_false])
    | (rw [tb5 (.inr q58),h43];rfl)
    | (rw [tb6 q6,h54];simp only [aA,aB,aC,Bool.and_false])
    | (rw [tb6 q6,h54];rfl)
    | (rw [tb9 q9,h63,h68];simp only [aA,aB,aC,Bool.and_false])
    | (rw [tb9 q9,h63,h68];rfl)
    | (rw [tb9 q9,h63];simp only [aA,aB,aC,Bool.and_false])
    | (rw [tb9 q9,h63];rfl)
    | (rw [tbb (.inl qb),h81,h86];simp only [aA,aB,aC,Bool.and_false])
    | (rw [tbb (.inl qb),h81,h86];rfl)
    | (rw [tbb (.inl qb),h81];simp only [aA,aB,aC,Bool.and_false])
    | (rw [tbb (.inl qb),h81];rfl)
    | (rw [tbb (.inr (.inl qb)),h81,h86];simp only [aA,aB,aC,Bool.and_false])
    | (rw [tbb (.inr (.inl qb)),h81,h86];rfl)
    | (rw [tbb (.inr (.inl qb)),h81];simp only [aA,aB,aC,Bool.and_false])
    | (rw [tbb (.inr (.inl qb)),h81];rfl)
    | (rw [tbb (.inr (.inr (.inl qb))),h81,h86];simp only [aA,aB,aC,Bool.and_false])
    | (rw [tbb (.inr (.inr (.inl qb))),h81,h86];rfl)
    | (rw [tbb (.inr (.inr (.inl qb))),h81];simp only [aA,aB,aC,Bool.and_false])
    | (rw [tbb (.inr (.inr (.inl qb))),h81];rfl)
    | (rw [tbb (.inr (.inr (.inr (.inl qb)))),h81,h86];simp only [aA,aB,aC,Bool.and_false])
    | (rw [tbb (.inr (.inr (.inr (.inl qb)))),h81,h86];rfl)
    | (rw [tbb (.inr (.inr (.inr (.inl qb)))),h81];simp only [aA,aB,aC,Bool.and_false])
    | (rw [tbb (.inr (.inr (.inr (.inl qb)))),h81];rfl)
    | (rw [tbb (.inr (.inr (.inr (.inr qb)))),h81,h86];simp only [aA,aB,aC,Bool.and_false])
    | (rw [tbb (.inr (.inr (.inr (.inr qb)))),h81,h86];rfl)
    | (rw [tbb (.inr (.inr (.inr (.inr qb)))),h81];simp only [aA,aB,aC,Bool.and_false])
    | (rw [tbb (.inr (.inr (.inr (.inr qb)))),h81];rfl)
    | (rw [tbn q1 q4 q585 q588 q6 q9 qb11 qb12 qb13 qb14 qb15])
  refine .gG<|.gG<|.gG<|.gG<|.yw (.pickF Z Z)<|.az Z<|.bR<|.tR<|?_
  refine y9 Z Z λW s=>⟨?_,s.ext⟩
  first
   | (rw [tb1 q1,h10,h15];simp only [aA,aB,aC,Bool.and_false])
   | (rw [tb1 q1,h10,h15];rfl)
   | (rw [tb1 q1,h10];simp only [aA,aB,aC,Bool.and_false])
   | (rw [tb1 q1,h10];rfl)
   | (rw [tb4 q4,h26,h31];simp only [aA,aB,aC,Bool.and_false])
   | (rw [tb4 q4,h26,h31];rfl)
   | (rw [tb4 q4,h26];simp only [aA,aB,aC,Bool.and_false])
   | (rw [tb4 q4,h26];rfl)
   | (rw [tb5 (.inl q58),h43];simp only [aA,aB,aC,Bool.and_false])
   | (rw [tb5 (.inl q58),h43];rfl)
   | (rw [tb5 (.inr q58),h43];simp only [aA,aB,aC,Bool.and_false])
   | (rw [tb5 (.inr q58),h43];rfl)
   | (rw [tb6 q6,h54];simp only [aA,aB,aC,Bool.and_false])
   | (rw [tb6 q6,h54];rfl)
   | (rw [tb9 q9,h63,h68];simp only [aA,aB,aC,Bool.and_false])
   | (rw [tb9 q9,h63,h68];rfl)
   | (rw [tb9 q9,h63];simp only [aA,aB,aC,Bool.and_false])
   | (rw [tb9 q9,h63];rfl)
   | (rw [tbb (.inl qb),h81,h86];simp only [aA,aB,aC,Bool.and_false])
   | (rw [tbb (.inl qb),h81,h86];rfl)
   | (rw [tbb (.inl qb),h81];simp only [aA,aB,aC,Bool.and_false])
   | (rw [tbb (.inl qb),h81];rfl)
   | (rw [tbb (.inr (.inl qb)),h81,h86];simp only [aA,aB,aC,Bool.and_false])
   | (rw [tbb (.inr (.inl qb)),h81,h86];rfl)
   | (rw [tbb (.inr (.inl qb)),h81];simp only [aA,aB,aC,Bool.and_false])
   | (rw [tbb (.inr (.inl qb)),h81];rfl)
   | (rw [tbb (.inr (.inr (.inl qb))),h81,h86];simp only [aA,aB,aC,Bool.and_false])
   | (rw [tbb (.inr (.inr (.inl qb))),h81,h86];rfl)
   | (rw [tbb (.inr (.inr (.inl qb))),h81];simp only [aA,aB,aC,Bool.and_false])
   | (rw [tbb (.inr (.inr (.inl qb))),h81];rfl)
   | (rw [tbb (.inr (.inr (.inr (.inl qb)))),h81,h86];simp only [aA,aB,aC,Bool.and_false])
   | (rw [tbb (.inr (.inr (.inr (.inl qb)))),h81,h86];rfl)
   | (rw [tbb (.inr (.inr (.inr (.inl qb)))),h81];simp only [aA,aB,aC,Bool.and_false])
   | (rw [tbb (.inr (.inr (.inr (.inl qb)))),h81];rfl)
   | (rw [tbb (.inr (.inr (.inr (.inr qb)))),h81,h86];simp only [aA,aB,aC,Bool.and_false])
   | (rw [tbb (.inr (.inr (.inr (.inr qb)))),h81,h86];rfl)
   | (rw [tbb (.inr (.inr (.inr (.inr qb)))),h81];simp only [aA,aB,aC,Bool.and_false])
   | (rw [tbb (.inr (.inr (.inr (.inr qb)))),h81];rfl)
   | (rw [tbn q1 q4 q585 q588 q6 q9 qb11 qb12 qb13 qb14 qb15])
 have q585:¬ op=5:=λe=>aP h37 (by rw [e];rfl);refine .rg<|.yw (.eql Z Z)<|.aq Z<|.cr Z (λh37=>?_) (λh37=>?_)
 ·have q58:op=8:=aS.1 (by have:=aJ h37;show op.toNat=8;omega);refine .sr<|.fA Z gZ<|.lD Z eS Hm Z<|.yw (.cast (.eql Z Z) (congrArg Value.bool i0))<|.mv Z<|.b2 (λh43=>?_) (λh43=>?_)
  ·refine .gy (.fieldAddr Z eJ)<|.gy (.load Z dQ Hm Z)<|.gy (.lenSl dW Z)<|.gy (.cast (.eql Z Z) (congrArg Value.bool er0))<|.yw (.pickT Z Z)<|.az Z<|.bR<|.tR<|?_
   refine y9 Z Z λW s=>⟨?_,s.ext⟩
   first
    | (rw [tb1 q1,h10,h15];simp only [aA,aB,aC,Bool.and_false])
    | (rw [tb1 q1,h10,h15];rfl)
    | (rw [tb1 q1,h10];simp only [aA,aB,aC,Bool.and_false])
    | (rw [tb1 q1,h10];rfl)
    | (rw [tb4 q4,h26,h31];simp only [aA,aB,aC,Bool.and_false])
    | (rw [tb4 q4,h26,h31];rfl)
    | (rw [tb4 q4,h26];simp only [aA,aB,aC,Bool.and_false])
    | (rw [tb4 q4,h26];rfl)
    | (rw [tb5 (.inl q58),h43];simp only [aA,aB,aC,Bool.and_false])
    | (rw [tb5 (.inl q58),h43];rfl)
    | (rw [tb5 (.inr q58),h43];simp only [aA,aB,aC,Bool.and_false])
    | (rw [tb5 (.inr q58),h43];rfl)
    | (rw [tb6 q6,h54];simp only [aA,aB,aC,Bool.and_false])
    | (rw [tb6 q6,h54];rfl)
    | (rw [tb9 q9,h63,h68];simp only [aA,aB,aC,Bool.and_false])
    | (rw [tb9 q9,h63,h68];rfl)
    | (rw [tb9 q9,h63];simp only [aA,aB,aC,Bool.and_false])
    | (rw [tb9 q9,h63];rfl)
    | (rw [tbb (.inl qb),h81,h86];simp only [aA,aB,aC,Bool.and_false])
    | (rw [tbb (.inl qb),h81,h86];rfl)
    | (rw [tbb (.inl qb),h81];simp only [aA,aB,aC,Bool.and_false])
    | (rw [tbb (.inl qb),h81];rfl)
    | (rw [tbb (.inr (.inl qb)),h81,h86];simp only [aA,aB,aC,Bool.and_false])
    | (rw [tbb (.inr (.inl qb)),h81,h86];rfl)
    | (rw [tbb (.inr (.inl qb)),h81];simp only [aA,aB,aC,Bool.and_false])
    | (rw [tbb (.inr (.inl qb)),h81];rfl)
    | (rw [tbb (.inr (.inr (.inl qb))),h81,h86];simp only [aA,aB,aC,Bool.and_false])
    | (rw [tbb (.inr (.inr (.inl qb))),h81,h86];rfl)
    | (rw [tbb (.inr (.inr (.inl qb))),h81];simp only [aA,aB,aC,Bool.and_false])
    | (rw [tbb (.inr (.inr (.inl qb))),h81];rfl)
    | (rw [tbb (.inr (.inr (.inr (.inl qb)))),h81,h86];simp only [aA,aB,aC,Bool.and_false])
    | (rw [tbb (.inr (.inr (.inr (.inl qb)))),h81,h86];rfl)
    | (rw [tbb (.inr (.inr (.inr (.inl qb)))),h81];simp only [aA,aB,aC,Bool.and_false])
    | (rw [tbb (.inr (.inr (.inr (.inl qb)))),h81];rfl)
    | (rw [tbb (.inr (.inr (.inr (.inr qb)))),h81,h86];simp only [aA,aB,aC,Bool.and_false])
    | (rw [tbb (.inr (.inr (.inr (.inr qb)))),h81,h86];rfl)
    | (rw [tbb (.inr (.inr (.inr (.inr qb)))),h81];simp only [aA,aB,aC,Bool.and_false])
    | (rw [tbb (.inr (.inr (.inr (.inr qb)))),h81];rfl)
    | (rw [tbn q1 q4 q585 q588 q6 q9 qb11 qb12 qb13 qb14 qb15])
  refine .gG<|.gG<|.gG<|.gG<|.yw (.pickF Z Z)<|.az Z<|.bR<|.tR<|?_
  refine y9 Z Z λW s=>⟨?_,s.ext⟩
  first
   | (rw [tb1 q1,h10,h15];simp only [aA,aB,aC,Bool.and_false])
   | (rw [tb1 q1,h10,h15];rfl)
   | (rw [tb1 q1,h10];simp only [aA,aB,aC,Bool.and_false])
   | (rw [tb1 q1,h10];rfl)
   | (rw [tb4 q4,h26,h31];simp only [aA,aB,aC,Bool.and_false])
   | (rw [tb4 q4,h26,h31];rfl)
   | (rw [tb4 q4,h26];simp only [aA,aB,aC,Bool.and_false])
   | (rw [tb4 q4,h26];rfl)
   | (rw [tb5 (.inl q58),h43];simp only [aA,aB,aC,Bool.and_false])
   | (rw [tb5 (.inl q58),h43];rfl)
   | (rw [tb5 (.inr q58),h43];simp only [aA,aB,aC,Bool.and_false])
   | (rw [tb5 (.inr q58),h43];rfl)
   | (rw [tb6 q6,h54];simp only [aA,aB,aC,Bool.and_false])
   | (rw [tb6 q6,h54];rfl)
   | (rw [tb9 q9,h63,h68];simp only [aA,aB,aC,Bool.and_false])
   | (rw [tb9 q9,h63,h68];rfl)
   | (rw [tb9 q9,h63];simp only [aA,aB,aC,Bool.and_false])
   | (rw [tb9 q9,h63];rfl)
   | (rw [tbb (.inl qb),h81,h86];simp only [aA,aB,aC,Bool.and_false])
   | (rw [tbb (.inl qb),h81,h86];rfl)
   | (rw [tbb (.inl qb),h81];simp only [aA,aB,aC,Bool.and_false])
   | (rw [tbb (.inl qb),h81];rfl)
   | (rw [tbb (.inr (.inl qb)),h81,h86];simp only [aA,aB,aC,Bool.and_false])
   | (rw [tbb (.inr (.inl qb)),h81,h86];rfl)
   | (rw [tbb (.inr (.inl qb)),h81];simp only [aA,aB,aC,Bool.and_false])
   | (rw [tbb (.inr (.inl qb)),h81];rfl)
   | (rw [tbb (.inr (.inr (.inl qb))),h81,h86];simp only [aA,aB,aC,Bool.and_false])
   | (rw [tbb (.inr (.inr (.inl qb))),h81,h86];rfl)
   | (rw [tbb (.inr (.inr (.inl qb))),h81];simp only [aA,aB,aC,Bool.and_false])
   | (rw [tbb (.inr (.inr (.inl qb))),h81];rfl)
   | (rw [tbb (.inr (.inr (.inr (.inl qb)))),h81,h86];simp only [aA,aB,aC,Bool.and_false])
   | (rw [tbb (.inr (.inr (.inr (.inl qb)))),h81,h86];rfl)
   | (rw [tbb (.inr (.inr (.inr (.inl qb)))),h81];simp only [aA,aB,aC,Bool.and_false])
   | (rw [tbb (.inr (.inr (.inr (.inl qb)))),h81];rfl)
   | (rw [tbb (.inr (.inr (.inr (.inr qb)))),h81,h86];simp only [aA,aB,aC,Bool.and_false])
   | (rw [tbb (.inr (.inr (.inr (.inr qb)))),h81,h86];rfl)
   | (rw [tbb (.inr (.inr (.inr (.inr qb)))),h81];simp only [aA,aB,aC,Bool.and_false])
   | (rw [tbb (.inr (.inr (.inr (.inr qb)))),h81];rfl)
   | (rw [tbn q1 q4 q585 q588 q6 q9 qb11 qb12 qb13 qb14 qb15])
 have q588:¬ op=8:=λe=>aP h37 (by rw [e];rfl);refine .sr<|.yw (.eql Z Z)<|.aq Z<|.cd Z (λh49=>?_) (λh49=>?_)
 ·have q6:op=6:=aS.1 (by have:=aJ h49;show op.toNat=6;omega);refine .sr<|.fA Z gZ<|.lD Z eS Hm Z<|.yw (.cast (.eql Z Z) (congrArg Value.bool i0))<|.mv Z<|.b2 (λh54=>?_) (λh54=>?_)
  ·refine .gy (.loadW Z eC Hm Z)<|.gy (.call qR Z (λW s=>mU H op nm nn args 1 _ W h (λa ha=>ih a ha) s.agr))<|.yw (.pickT Z Z)<|.az Z<|.bR<|.tR<|?_
   refine y9 Z Z λW s=>⟨?_,s.ext⟩
   first
    | (rw [tb1 q1,h10,h15];simp only [aA,aB,aC,Bool.and_false])
    | (rw [tb1 q1,h10,h15];rfl)
    | (rw [tb1 q1,h10];simp only [aA,aB,aC,Bool.and_false])
    | (rw [tb1 q1,h10];rfl)
    | (rw [tb4 q4,h26,h31];simp only [aA,aB,aC,Bool.and_false])
    | (rw [tb4 q4,h26,h31];rfl)
    | (rw [tb4 q4,h26];simp only [aA,aB,aC,Bool.and_false])
    | (rw [tb4 q4,h26];rfl)
    | (rw [tb5 (.inl q58),h43];simp only [aA,aB,aC,Bool.and_false])
    | (rw [tb5 (.inl q58),h43];rfl)
    | (rw [tb5 (.inr q58),h43];simp only [aA,aB,aC,Bool.and_false])
    | (rw [tb5 (.inr q58),h43];rfl)
    | (rw [tb6 q6,h54];simp only [aA,aB,aC,Bool.and_false])
    | (rw [tb6 q6,h54];rfl)
    | (rw [tb9 q9,h63,h68];simp only [aA,aB,aC,Bool.and_false])
    | (rw [tb9 q9,h63,h68];rfl)
    | (rw [tb9 q9,h63];simp only [aA,aB,aC,Bool.and_false])
    | (rw [tb9 q9,h63];rfl)
    | (rw [tbb (.inl qb),h81,h86];simp only [aA,aB,aC,Bool.and_false])
    | (rw [tbb (.inl qb),h81,h86];rfl)
    | (rw [tbb (.inl qb),h81];simp only [aA,aB,aC,Bool.and_false])
    | (rw [tbb (.inl qb),h81];rfl)
    | (rw [tbb (.inr (.inl qb)),h81,h86];simp only [aA,aB,aC,Bool.and_false])
    | (rw [tbb (.inr (.inl qb)),h81,h86];rfl)
    | (rw [tbb (.inr (.inl qb)),h81];simp only [aA,aB,aC,Bool.and_false])
    | (rw [tbb (.inr (.inl qb)),h81];rfl)
    | (rw [tbb (.inr (.inr (.inl qb))),h81,h86];simp only [aA,aB,aC,Bool.and_false])
    | (rw [tbb (.inr (.inr (.inl qb))),h81,h86];rfl)
    | (rw [tbb (.inr (.inr (.inl qb))),h81];simp only [aA,aB,aC,Bool.and_false])
    | (rw [tbb (.inr (.inr (.inl qb))),h81];rfl)
    | (rw [tbb (.inr (.inr (.inr (.inl qb)))),h81,h86];simp only [aA,aB,aC,Bool.and_false])
    | (rw [tbb (.inr (.inr (.inr (.inl qb)))),h81,h86];rfl)
    | (rw [tbb (.inr (.inr (.inr (.inl qb)))),h81];simp only [aA,aB,aC,Bool.and_false])
    | (rw [tbb (.inr (.inr (.inr (.inl qb)))),h81];rfl)
    | (rw [tbb (.inr (.inr (.inr (.inr qb)))),h81,h86];simp only [aA,aB,aC,Bool.and_false])
    | (rw [tbb (.inr (.inr (.inr (.inr qb)))),h81,h86];rfl)
    | (rw [tbb (.inr (.inr (.inr (.inr qb)))),h81];simp only [aA,aB,aC,Bool.and_false])
    | (rw [tbb (.inr (.inr (.inr (.inr qb)))),h81];rfl)
    | (rw [tbn q1 q4 q585 q588 q6 q9 qb11 qb12 qb13 qb14 qb15])
  refine .gG<|.gG<|.yw (.pickF Z Z)<|.az Z<|.bR<|.tR<|?_
  refine y9 Z Z λW s=>⟨?_,s.ext⟩
  first
   | (rw [tb1 q1,h10,h15];simp only [aA,aB,aC,Bool.and_false])
   | (rw [tb1 q1,h10,h15];rfl)
   | (rw [tb1 q1,h10];simp only [aA,aB,aC,Bool.and_false])
   | (rw [tb1 q1,h10];rfl)
   | (rw [tb4 q4,h26,h31];simp only [aA,aB,aC,Bool.and_false])
   | (rw [tb4 q4,h26,h31];rfl)
   | (rw [tb4 q4,h26];simp only [aA,aB,aC,Bool.and_false])
   | (rw [tb4 q4,h26];rfl)
   | (rw [tb5 (.inl q58),h43];simp only [aA,aB,aC,Bool.and_false])
   | (rw [tb5 (.inl q58),h43];rfl)
   | (rw [tb5 (.inr q58),h43];simp only [aA,aB,aC,Bool.and_false])
   | (rw [tb5 (.inr q58),h43];rfl)
   | (rw [tb6 q6,h54];simp only [aA,aB,aC,Bool.and_false])
   | (rw [tb6 q6,h54];rfl)
   | (rw [tb9 q9,h63,h68];simp only [aA,aB,aC,Bool.and_false])
   | (rw [tb9 q9,h63,h68];rfl)
   | (rw [tb9 q9,h63];simp only [aA,aB,aC,Bool.and_false])
   | (rw [tb9 q9,h63];rfl)
   | (rw [tbb (.inl qb),h81,h86];simp only [aA,aB,aC,Bool.and_false])
   | (rw [tbb (.inl qb),h81,h86];rfl)
   | (rw [tbb (.inl qb),h81];simp only [aA,aB,aC,Bool.and_false])
   | (rw [tbb (.inl qb),h81];rfl)
   | (rw [tbb (.inr (.inl qb)),h81,h86];simp only [aA,aB,aC,Bool.and_false])
   | (rw [tbb (.inr (.inl qb)),h81,h86];rfl)
   | (rw [tbb (.inr (.inl qb)),h81];simp only [aA,aB,aC,Bool.and_false])
   | (rw [tbb (.inr (.inl qb)),h81];rfl)
   | (rw [tbb (.inr (.inr (.inl qb))),h81,h86];simp only [aA,aB,aC,Bool.and_false])
   | (rw [tbb (.inr (.inr (.inl qb))),h81,h86];rfl)
   | (rw [tbb (.inr (.inr (.inl qb))),h81];simp only [aA,aB,aC,Bool.and_false])
   | (rw [tbb (.inr (.inr (.inl qb))),h81];rfl)
   | (rw [tbb (.inr (.inr (.inr (.inl qb)))),h81,h86];simp only [aA,aB,aC,Bool.and_false])
   | (rw [tbb (.inr (.inr (.inr (.inl qb)))),h81,h86];rfl)
   | (rw [tbb (.inr (.inr (.inr (.inl qb)))),h81];simp only [aA,aB,aC,Bool.and_false])
   | (rw [tbb (.inr (.inr (.inr (.inl qb)))),h81];rfl)
   | (rw [tbb (.inr (.inr (.inr (.inr qb)))),h81,h86];simp only [aA,aB,aC,Bool.and_false])
   | (rw [tbb (.inr (.inr (.inr (.inr qb)))),h81,h86];rfl)
   | (rw [tbb (.inr (.inr (.inr (.inr qb)))),h81];simp only [aA,aB,aC,Bool.and_false])
   | (rw [tbb (.inr (.inr (.inr (.inr qb)))),h81];rfl)
   | (rw [tbn q1 q4 q585 q588 q6 q9 qb11 qb12 qb13 qb14 qb15])
 have q6:¬ op=6:=λe=>aP h49 (by rw [e];rfl);refine .sr<|.yw (.eql Z Z)<|.aq Z<|.cd Z (λh58=>?_) (λh58=>?_)
 ·have q9:op=9:=aS.1 (by have:=aJ h58;show op.toNat=9;omega);refine .sr<|.fA Z gM<|.lD Z cP Hm Z<|.yw (.eqS Z Z)<|.mv Z<|.b2 (λh63=>?_) (λh63=>?_)
  ·refine .gy (.fieldAddr Z gZ)<|.gy (.load Z eS Hm Z)<|.gy (.cast (.eql Z Z) (congrArg Value.bool i0))<|.yw (.pickT Z Z)<|.mv Z<|.b2 (λh68=>?_) (λh68=>?_)
   ·refine .gy (.loadW Z eC Hm Z)<|.gy (.call qR Z (λW s=>mU H op nm nn args 1 _ W h (λa ha=>ih a ha) s.agr))<|.yw (.pickT Z Z)<|.az Z<|.bR<|.tR<|?_
    refine y9 Z Z λW s=>⟨?_,s.ext⟩
    first
     | (rw [tb1 q1,h10,h15];simp only [aA,aB,aC,Bool.and_false])
     | (rw [tb1 q1,h10,h15];rfl)
     | (rw [tb1 q1,h10];simp only [aA,aB,aC,Bool.and_false])
     | (rw [tb1 q1,h10];rfl)
     | (rw [tb4 q4,h26,h31];simp only [aA,aB,aC,Bool.and_false])
     | (rw [tb4 q4,h26,h31];rfl)
     | (rw [tb4 q4,h26];simp only [aA,aB,aC,Bool.and_false])
     | (rw [tb4 q4,h26];rfl)
     | (rw [tb5 (.inl q58),h43];simp only [aA,aB,aC,Bool.and_false])
     | (rw [tb5 (.inl q58),h43];rfl)
     | (rw [tb5 (.inr q58),h43];simp only [aA,aB,aC,Bool.and_false])
     | (rw [tb5 (.inr q58),h43];rfl)
     | (rw [tb6 q6,h54];simp only [aA,aB,aC,Bool.and_false])
     | (rw [tb6 q6,h54];rfl)
     | (rw [tb9 q9,h63,h68];simp only [aA,aB,aC,Bool.and_false])
     | (rw [tb9 q9,h63,h68];rfl)
     | (rw [tb9 q9,h63];simp only [aA,aB,aC,Bool.and_false])
     | (rw [tb9 q9,h63];rfl)
     | (rw [tbb (.inl qb),h81,h86];simp only [aA,aB,aC,Bool.and_false])
     | (rw [tbb (.inl qb),h81,h86];rfl)
     | (rw [tbb (.inl qb),h81];simp only [aA,aB,aC,Bool.and_false])
     | (rw [tbb (.inl qb),h81];rfl)
     | (rw [tbb (.inr (.inl qb)),h81,h86];simp only [aA,aB,aC,Bool.and_false])
     | (rw [tbb (.inr (.inl qb)),h81,h86];rfl)
     | (rw [tbb (.inr (.inl qb)),h81];simp only [aA,aB,aC,Bool.and_false])
     | (rw [tbb (.inr (.inl qb)),h81];rfl)
     | (rw [tbb (.inr (.inr (.inl qb))),h81,h86];simp only [aA,aB,aC,Bool.and_false])
     | (rw [tbb (.inr (.inr (.inl qb))),h81,h86];rfl)
     | (rw [tbb (.inr (.inr (.inl qb))),h81];simp only [aA,aB,aC,Bool.and_false])
     | (rw [tbb (.inr (.inr (.inl qb))),h81];rfl)
     | (rw [tbb (.inr (.inr (.inr (.inl qb)))),h81,h86];simp only [aA,aB,aC,Bool.and_false])
     | (rw [tbb (.inr (.inr (.inr (.inl qb)))),h81,h86];rfl)
     | (rw [tbb (.inr (.inr (.inr (.inl qb)))),h81];simp only [aA,aB,aC,Bool.and_false])
     | (rw [tbb (.inr (.inr (.inr (.inl qb)))),h81];rfl)
     | (rw [tbb (.inr (.inr (.inr (.inr qb)))),h81,h86];simp only [aA,aB,aC,Bool.and_false])
     | (rw [tbb (.inr (.inr (.inr (.inr qb)))),h81,h86];rfl)
     | (rw [tbb (.inr (.inr (.inr (.inr qb)))),h81];simp only [aA,aB,aC,Bool.and_false])
     | (rw [tbb (.inr (.inr (.inr (.inr qb)))),h81];rfl)
     | (rw [tbn q1 q4 q585 q588 q6 q9 qb11 qb12 qb13 qb14 qb15])
   refine .gG<|.gG<|.yw (.pickF Z Z)<|.az Z<|.bR<|.tR<|?_
   refine y9 Z Z λW s=>⟨?_,s.ext⟩
   first
    | (rw [tb1 q1,h10,h15];simp only [aA,aB,aC,Bool.and_false])
    | (rw [tb1 q1,h10,h15];rfl)
    | (rw [tb1 q1,h10];simp only [aA,aB,aC,Bool.and_false])
    | (rw [tb1 q1,h10];rfl)
    | (rw [tb4 q4,h26,h31];simp only [aA,aB,aC,Bool.and_false])
    | (rw [tb4 q4,h26,h31];rfl)
    | (rw [tb4 q4,h26];simp only [aA,aB,aC,Bool.and_false])
    | (rw [tb4 q4,h26];rfl)
    | (rw [tb5 (.inl q58),h43];simp only [aA,aB,aC,Bool.and_false])
    | (rw [tb5 (.inl q58),h43];rfl)
    | (rw [tb5 (.inr q58),h43];simp only [aA,aB,aC,Bool.and_false])
    | (rw [tb5 (.inr q58),h43];rfl)
    | (rw [tb6 q6,h54];simp only [aA,aB,aC,Bool.and_false])
    | (rw [tb6 q6,h54];rfl)
    | (rw [tb9 q9,h63,h68];simp only [aA,aB,aC,Bool.and_false])
    | (rw [tb9 q9,h63,h68];rfl)
    | (rw [tb9 q9,h63];simp only [aA,aB,aC,Bool.and_false])
    | (rw [tb9 q9,h63];rfl)
    | (rw [tbb (.inl qb),h81,h86];simp only [aA,aB,aC,Bool.and_false])
    | (rw [tbb (.inl qb),h81,h86];rfl)
    | (rw [tbb (.inl qb),h81];simp only [aA,aB,aC,Bool.and_false])
    | (rw [tbb (.inl qb),h81];rfl)
    | (rw [tbb (.inr (.inl qb)),h81,h86];simp only [aA,aB,aC,Bool.and_false])
    | (rw [tbb (.inr (.inl qb)),h81,h86];rfl)
    | (rw [tbb (.inr (.inl qb)),h81];simp only [aA,aB,aC,Bool.and_false])
    | (rw [tbb (.inr (.inl qb)),h81];rfl)
    | (rw [tbb (.inr (.inr (.inl qb))),h81,h86];simp only [aA,aB,aC,Bool.and_false])
    | (rw [tbb (.inr (.inr (.inl qb))),h81,h86];rfl)
    | (rw [tbb (.inr (.inr (.inl qb))),h81];simp only [aA,aB,aC,Bool.and_false])
    | (rw [tbb (.inr (.inr (.inl qb))),h81];rfl)
    | (rw [tbb (.inr (.inr (.inr (.inl qb)))),h81,h86];simp only [aA,aB,aC,Bool.and_false])
    | (rw [tbb (.inr (.inr (.inr (.inl qb)))),h81,h86];rfl)
    | (rw [tbb (.inr (.inr (.inr (.inl qb)))),h81];simp only [aA,aB,aC,Bool.and_false])
    | (rw [tbb (.inr (.inr (.inr (.inl qb)))),h81];rfl)
    | (rw [tbb (.inr (.inr (.inr (.inr qb)))),h81,h86];simp only [aA,aB,aC,Bool.and_false])
    | (rw [tbb (.inr (.inr (.inr (.inr qb)))),h81,h86];rfl)
    | (rw [tbb (.inr (.inr (.inr (.inr qb)))),h81];simp only [aA,aB,aC,Bool.and_false])
    | (rw [tbb (.inr (.inr (.inr (.inr qb)))),h81];rfl)
    | (rw [tbn q1 q4 q585 q588 q6 q9 qb11 qb12 qb13 qb14 qb15])
  refine .gG<|.gG<|.gG<|.yw (.pickF Z Z)<|.mv Z<|.gG<|.gG<|.yw (.pickF Z Z)<|.az Z<|.bR<|.tR<|?_
  refine y9 Z Z λW s=>⟨?_,s.ext⟩
  first
   | (rw [tb1 q1,h10,h15];simp only [aA,aB,aC,Bool.and_false])
   | (rw [tb1 q1,h10,h15];rfl)
   | (rw [tb1 q1,h10];simp only [aA,aB,aC,Bool.and_false])
   | (rw [tb1 q1,h10];rfl)
   | (rw [tb4 q4,h26,h31];simp only [aA,aB,aC,Bool.and_false])
   | (rw [tb4 q4,h26,h31];rfl)
   | (rw [tb4 q4,h26];simp only [aA,aB,aC,Bool.and_false])
   | (rw [tb4 q4,h26];rfl)
   | (rw [tb5 (.inl q58),h43];simp only [aA,aB,aC,Bool.and_false])
   | (rw [tb5 (.inl q58),h43];rfl)
   | (rw [tb5 (.inr q58),h43];simp only [aA,aB,aC,Bool.and_false])
   | (rw [tb5 (.inr q58),h43];rfl)
   | (rw [tb6 q6,h54];simp only [aA,aB,aC,Bool.and_false])
   | (rw [tb6 q6,h54];rfl)
   | (rw [tb9 q9,h63,h68];simp only [aA,aB,aC,Bool.and_false])
   | (rw [tb9 q9,h63,h68];rfl)
   | (rw [tb9 q9,h63];simp only [aA,aB,aC,Bool.and_false])
   | (rw [tb9 q9,h63];rfl)
   | (rw [tbb (.inl qb),h81,h86];simp only [aA,aB,aC,Bool.and_false])
   | (rw [tbb (.inl qb),h81,h86];rfl)
   | (rw [tbb (.inl qb),h81];simp only [aA,aB,aC,Bool.and_false])
   | (rw [tbb (.inl qb),h81];rfl)
   | (rw [tbb (.inr (.inl qb)),h81,h86];simp only [aA,aB,aC,Bool.and_false])
   | (rw [tbb (.inr (.inl qb)),h81,h86];rfl)
   | (rw [tbb (.inr (.inl qb)),h81];simp only [aA,aB,aC,Bool.and_false])
   | (rw [tbb (.inr (.inl qb)),h81];rfl)
   | (rw [tbb (.inr (.inr (.inl qb))),h81,h86];simp only [aA,aB,aC,Bool.and_false])
   | (rw [tbb (.inr (.inr (.inl qb))),h81,h86];rfl)
   | (rw [tbb (.inr (.inr (.inl qb))),h81];simp only [aA,aB,aC,Bool.and_false])
   | (rw [tbb (.inr (.inr (.inl qb))),h81];rfl)
   | (rw [tbb (.inr (.inr (.inr (.inl qb)))),h81,h86];simp only [aA,aB,aC,Bool.and_false])
   | (rw [tbb (.inr (.inr (.inr (.inl qb)))),h81,h86];rfl)
   | (rw [tbb (.inr (.inr (.inr (.inl qb)))),h81];simp only [aA,aB,aC,Bool.and_false])
   | (rw [tbb (.inr (.inr (.inr (.inl qb)))),h81];rfl)
   | (rw [tbb (.inr (.inr (.inr (.inr qb)))),h81,h86];simp only [aA,aB,aC,Bool.and_false])
   | (rw [tbb (.inr (.inr (.inr (.inr qb)))),h81,h86];rfl)
   | (rw [tbb (.inr (.inr (.inr (.inr qb)))),h81];simp only [aA,aB,aC,Bool.and_false])
   | (rw [tbb (.inr (.inr (.inr (.inr qb)))),h81];rfl)
   | (rw [tbn q1 q4 q585 q588 q6 q9 qb11 qb12 qb13 qb14 qb15])
 have q9:¬ op=9:=λe=>aP h58 (by rw [e];rfl);refine .sq<|.sr<|.yw (.eql Z Z)<|.aq Z<|.cr Z (λh72=>?_) (λh72=>?_)
 ·have qb:op=11:=aS.1 (by have:=aJ h72;show op.toNat=11;omega);refine .sk<|.tN<|.cT Z<|.sr<|.fA Z gM<|.lD Z cP Hm Z<|.yw (.eqS Z Z)<|.mv Z<|.b2 (λh81=>?_) (λh81=>?_)
  ·refine .gy (.fieldAddr Z gZ)<|.gy (.load Z eS Hm Z)<|.gy (.cast (.eql Z Z) (congrArg Value.bool i0))<|.yw (.pickT Z Z)<|.mv Z<|.b2 (λh86=>?_) (λh86=>?_)
   ·refine .gy (.loadW Z eC Hm Z)<|.gy (.call qR Z (λW s=>mU H op nm nn args 2 _ W h (λa ha=>ih a ha) s.agr))<|.yw (.pickT Z Z)<|.az Z<|.bR<|.tR<|?_
    refine y9 Z Z λW s=>⟨?_,s.ext⟩
    first
     | (rw [tb1 q1,h10,h15];simp only [aA,aB,aC,Bool.and_false])
     | (rw [tb1 q1,h10,h15];rfl)
     | (rw [tb1 q1,h10];simp only [aA,aB,aC,Bool.and_false])
     | (rw [tb1 q1,h10];rfl)
     | (rw [tb4 q4,h26,h31];simp only [aA,aB,aC,Bool.and_false])
     | (rw [tb4 q4,h26,h31];rfl)
     | (rw [tb4 q4,h26];simp only [aA,aB,aC,Bool.and_false])
     | (rw [tb4 q4,h26];rfl)
     | (rw [tb5 (.inl q58),h43];simp only [aA,aB,aC,Bool.and_false])
     | (rw [tb5 (.inl q58),h43];rfl)
     | (rw [tb5 (.inr q58),h43];simp only [aA,aB,aC,Bool.and_false])
     | (rw [tb5 (.inr q58),h43];rfl)
     | (rw [tb6 q6,h54];simp only [aA,aB,aC,Bool.and_false])
     | (rw [tb6 q6,h54];rfl)
     | (rw [tb9 q9,h63,h68];simp only [aA,aB,aC,Bool.and_false])
     | (rw [tb9 q9,h63,h68];rfl)
     | (rw [tb9 q9,h63];simp only [aA,aB,aC,Bool.and_false])
     | (rw [tb9 q9,h63];rfl)
     | (rw [tbb (.inl qb),h81,h86];simp only [aA,aB,aC,Bool.and_false])
     | (rw [tbb (.inl qb),h81,h86];rfl)
     | (rw [tbb (.inl qb),h81];simp only [aA,aB,aC,Bool.and_false])
     | (rw [tbb (.inl qb),h81];rfl)
     | (rw [tbb (.inr (.inl qb)),h81,h86];simp only [aA,aB,aC,Bool.and_false])
     | (rw [tbb (.inr (.inl qb)),h81,h86];rfl)
     | (rw [tbb (.inr (.inl qb)),h81];simp only [aA,aB,aC,Bool.and_false])
     | (rw [tbb (.inr (.inl qb)),h81];rfl)
     | (rw [tbb (.inr (.inr (.inl qb))),h81,h86];simp only [aA,aB,aC,Bool.and_false])
     | (rw [tbb (.inr (.inr (.inl qb))),h81,h86];rfl)
     | (rw [tbb (.inr (.inr (.inl qb))),h81];simp only [aA,aB,aC,Bool.and_false])
     | (rw [tbb (.inr (.inr (.inl qb))),h81];rfl)
     | (rw [tbb (.inr (.inr (.inr (.inl qb)))),h81,h86];simp only [aA,aB,aC,Bool.and_false])
     | (rw [tbb (.inr (.inr (.inr (.inl qb)))),h81,h86];rfl)
     | (rw [tbb (.inr (.inr (.inr (.inl qb)))),h81];simp only [aA,aB,aC,Bool.and_false])
     | (rw [tbb (.inr (.inr (.inr (.inl qb)))),h81];rfl)
     | (rw [tbb (.inr (.inr (.inr (.inr qb)))),h81,h86];simp only [aA,aB,aC,Bool.and_false])
     | (rw [tbb (.inr (.inr (.inr (.inr qb)))),h81,h86];rfl)
     | (rw [tbb (.inr (.inr (.inr (.inr qb)))),h81];simp only [aA,aB,aC,Bool.and_false])
     | (rw [tbb (.inr (.inr (.inr (.inr qb)))),h81];rfl)
     | (rw [tbn q1 q4 q585 q588 q6 q9 qb11 qb12 qb13 qb14 qb15])
   refine .gG<|.gG<|.yw (.pickF Z Z)<|.az Z<|.bR<|.tR<|?_
   refine y9 Z Z λW s=>⟨?_,s.ext⟩
   first
    | (rw [tb1 q1,h10,h15];simp only [aA,aB,aC,Bool.and_false])
    | (rw [tb1 q1,h10,h15];rfl)
    | (rw [tb1 q1,h10];simp only [aA,aB,aC,Bool.and_false])
    | (rw [tb1 q1,h10];rfl)
    | (rw [tb4 q4,h26,h31];simp only [aA,aB,aC,Bool.and_false])
    | (rw [tb4 q4,h26,h31];rfl)
    | (rw [tb4 q4,h26];simp only [aA,aB,aC,Bool.and_false])
    | (rw [tb4 q4,h26];rfl)
    | (rw [tb5 (.inl q58),h43];simp only [aA,aB,aC,Bool.and_false])
    | (rw [tb5 (.inl q58),h43];rfl)
    | (rw [tb5 (.inr q58),h43];simp only [aA,aB,aC,Bool.and_false])
    | (rw [tb5 (.inr q58),h43];rfl)
    | (rw [tb6 q6,h54];simp only [aA,aB,aC,Bool.and_false])
    | (rw [tb6 q6,h54];rfl)
    | (rw [tb9 q9,h63,h68];simp only [aA,aB,aC,Bool.and_false])
    | (rw [tb9 q9,h63,h68];rfl)
    | (rw [tb9 q9,h63];simp only [aA,aB,aC,Bool.and_false])
    | (rw [tb9 q9,h63];rfl)
    | (rw [tbb (.inl qb),h81,h86];simp only [aA,aB,aC,Bool.and_false])
    | (rw [tbb (.inl qb),h81,h86];rfl)
    | (rw [tbb (.inl qb),h81];simp only [aA,aB,aC,Bool.and_false])
    | (rw [tbb (.inl qb),h81];rfl)
    | (rw [tbb (.inr (.inl qb)),h81,h86];simp only [aA,aB,aC,Bool.and_false])
    | (rw [tbb (.inr (.inl qb)),h81,h86];rfl)
    | (rw [tbb (.inr (.inl qb)),h81];simp only [aA,aB,aC,Bool.and_false])
    | (rw [tbb (.inr (.inl qb)),h81];rfl)
    | (rw [tbb (.inr (.inr (.inl qb))),h81,h86];simp only [aA,aB,aC,Bool.and_false])
    | (rw [tbb (.inr (.inr (.inl qb))),h81,h86];rfl)
    | (rw [tbb (.inr (.inr (.inl qb))),h81];simp only [aA,aB,aC,Bool.and_false])
    | (rw [tbb (.inr (.inr (.inl qb))),h81];rfl)
    | (rw [tbb (.inr (.inr (.inr (.inl qb)))),h81,h86];simp only [aA,aB,aC,Bool.and_false])
    | (rw [tbb (.inr (.inr (.inr (.inl qb)))),h81,h86];rfl)
    | (rw [tbb (.inr (.inr (.inr (.inl qb)))),h81];simp only [aA,aB,aC,Bool.and_false])
    | (rw [tbb (.inr (.inr (.inr (.inl qb)))),h81];rfl)
    | (rw [tbb (.inr (.inr (.inr (.inr qb)))),h81,h86];simp only [aA,aB,aC,Bool.and_false])
    | (rw [tbb (.inr (.inr (.inr (.inr qb)))),h81,h86];rfl)
    | (rw [tbb (.inr (.inr (.inr (.inr qb)))),h81];simp only [aA,aB,aC,Bool.and_false])
    | (rw [tbb (.inr (.inr (.inr (.inr qb)))),h81];rfl)
    | (rw [tbn q1 q4 q585 q588 q6 q9 qb11 qb12 qb13 qb14 qb15])
  refine .gG<|.gG<|.gG<|.yw (.pickF Z Z)<|.mv Z<|.gG<|.gG<|.yw (.pickF Z Z)<|.az Z<|.bR<|.tR<|?_
  refine y9 Z Z λW s=>⟨?_,s.ext⟩
  first
   | (rw [tb1 q1,h10,h15];simp only [aA,aB,aC,Bool.and_false])
   | (rw [tb1 q1,h10,h15];rfl)
   | (rw [tb1 q1,h10];simp only [aA,aB,aC,Bool.and_false])
   | (rw [tb1 q1,h10];rfl)
   | (rw [tb4 q4,h26,h31];simp only [aA,aB,aC,Bool.and_false])
   | (rw [tb4 q4,h26,h31];rfl)
   | (rw [tb4 q4,h26];simp only [aA,aB,aC,Bool.and_false])
   | (rw [tb4 q4,h26];rfl)
   | (rw [tb5 (.inl q58),h43];simp only [aA,aB,aC,Bool.and_false])
   | (rw [tb5 (.inl q58),h43];rfl)
   | (rw [tb5 (.inr q58),h43];simp only [aA,aB,aC,Bool.and_false])
   | (rw [tb5 (.inr q58),h43];rfl)
   | (rw [tb6 q6,h54];simp only [aA,aB,aC,Bool.and_false])
   | (rw [tb6 q6,h54];rfl)
   | (rw [tb9 q9,h63,h68];simp only [aA,aB,aC,Bool.and_false])
   | (rw [tb9 q9,h63,h68];rfl)
   | (rw [tb9 q9,h63];simp only [aA,aB,aC,Bool.and_false])
   | (rw [tb9 q9,h63];rfl)
   | (rw [tbb (.inl qb),h81,h86];simp only [aA,aB,aC,Bool.and_false])
   | (rw [tbb (.inl qb),h81,h86];rfl)
   | (rw [tbb (.inl qb),h81];simp only [aA,aB,aC,Bool.and_false])
   | (rw [tbb (.inl qb),h81];rfl)
   | (rw [tbb (.inr (.inl qb)),h81,h86];simp only [aA,aB,aC,Bool.and_false])
   | (rw [tbb (.inr (.inl qb)),h81,h86];rfl)
   | (rw [tbb (.inr (.inl qb)),h81];simp only [aA,aB,aC,Bool.and_false])
   | (rw [tbb (.inr (.inl qb)),h81];rfl)
   | (rw [tbb (.inr (.inr (.inl qb))),h81,h86];simp only [aA,aB,aC,Bool.and_false])
   | (rw [tbb (.inr (.inr (.inl qb))),h81,h86];rfl)
   | (rw [tbb (.inr (.inr (.inl qb))),h81];simp only [aA,aB,aC,Bool.and_false])
   | (rw [tbb (.inr (.inr (.inl qb))),h81];rfl)
   | (rw [tbb (.inr (.inr (.inr (.inl qb)))),h81,h86];simp only [aA,aB,aC,Bool.and_false])
   | (rw [tbb (.inr (.inr (.inr (.inl qb)))),h81,h86];rfl)
   | (rw [tbb (.inr (.inr (.inr (.inl qb)))),h81];simp only [aA,aB,aC,Bool.and_false])
   | (rw [tbb (.inr (.inr (.inr (.inl qb)))),h81];rfl)
   | (rw [tbb (.inr (.inr (.inr (.inr qb)))),h81,h86];simp only [aA,aB,aC,Bool.and_false])
   | (rw [tbb (.inr (.inr (.inr (.inr qb)))),h81,h86];rfl)
   | (rw [tbb (.inr (.inr (.inr (.inr qb)))),h81];simp only [aA,aB,aC,Bool.and_false])
   | (rw [tbb (.inr (.inr (.inr (.inr qb)))),h81];rfl)
   | (rw [tbn q1 q4 q585 q588 q6 q9 qb11 qb12 qb13 qb14 qb15])
 have qb11:¬ op=11:=λe=>aP h72 (by rw [e];rfl);refine .sr<|.yw (.eql Z Z)<|.aq Z<|.cr Z (λh72=>?_) (λh72=>?_)
 ·have qb:op=12:=aS.1 (by have:=aJ h72;show op.toNat=12;omega);refine .sk<|.tN<|.cT Z<|.sr<|.fA Z gM<|.lD Z cP Hm Z<|.yw (.eqS Z Z)<|.mv Z<|.b2 (λh81=>?_) (λh81=>?_)
  ·refine .gy (.fieldAddr Z gZ)<|.gy (.load Z eS Hm Z)<|.gy (.cast (.eql Z Z) (congrArg Value.bool i0))<|.yw (.pickT Z Z)<|.mv Z<|.b2 (λh86=>?_) (λh86=>?_)
   ·refine .gy (.loadW Z eC Hm Z)<|.gy (.call qR Z (λW s=>mU H op nm nn args 2 _ W h (λa ha=>ih a ha) s.agr))<|.yw (.pickT Z Z)<|.az Z<|.bR<|.tR<|?_
    refine y9 Z Z λW s=>⟨?_,s.ext⟩
    first
     | (rw [tb1 q1,h10,h15];simp only [aA,aB,aC,Bool.and_false])
     | (rw [tb1 q1,h10,h15];rfl)
     | (rw [tb1 q1,h10];simp only [aA,aB,aC,Bool.and_false])
     | (rw [tb1 q1,h10];rfl)
     | (rw [tb4 q4,h26,h31];simp only [aA,aB,aC,Bool.and_false])
     | (rw [tb4 q4,h26,h31];rfl)
     | (rw [tb4 q4,h26];simp only [aA,aB,aC,Bool.and_false])
     | (rw [tb4 q4,h26];rfl)
     | (rw [tb5 (.inl q58),h43];simp only [aA,aB,aC,Bool.and_false])
     | (rw [tb5 (.inl q58),h43];rfl)
     | (rw [tb5 (.inr q58),h43];simp only [aA,aB,aC,Bool.and_false])
     | (rw [tb5 (.inr q58),h43];rfl)
     | (rw [tb6 q6,h54];simp only [aA,aB,aC,Bool.and_false])
     | (rw [tb6 q6,h54];rfl)
     | (rw [tb9 q9,h63,h68];simp only [aA,aB,aC,Bool.and_false])
     | (rw [tb9 q9,h63,h68];rfl)
     | (rw [tb9 q9,h63];simp only [aA,aB,aC,Bool.and_false])
     | (rw [tb9 q9,h63];rfl)
     | (rw [tbb (.inl qb),h81,h86];simp only [aA,aB,aC,Bool.and_false])
     | (rw [tbb (.inl qb),h81,h86];rfl)
     | (rw [tbb (.inl qb),h81];simp only [aA,aB,aC,Bool.and_false])
     | (rw [tbb (.inl qb),h81];rfl)
     | (rw [tbb (.inr (.inl qb)),h81,h86];simp only [aA,aB,aC,Bool.and_false])
     | (rw [tbb (.inr (.inl qb)),h81,h86];rfl)
     | (rw [tbb (.inr (.inl qb)),h81];simp only [aA,aB,aC,Bool.and_false])
     | (rw [tbb (.inr (.inl qb)),h81];rfl)
     | (rw [tbb (.inr (.inr (.inl qb))),h81,h86];simp only [aA,aB,aC,Bool.and_false])
     | (rw [tbb (.inr (.inr (.inl qb))),h81,h86];rfl)
     | (rw [tbb (.inr (.inr (.inl qb))),h81];simp only [aA,aB,aC,Bool.and_false])
     | (rw [tbb (.inr (.inr (.inl qb))),h81];rfl)
     | (rw [tbb (.inr (.inr (.inr (.inl qb)))),h81,h86];simp only [aA,aB,aC,Bool.and_false])
     | (rw [tbb (.inr (.inr (.inr (.inl qb)))),h81,h86];rfl)
     | (rw [tbb (.inr (.inr (.inr (.inl qb)))),h81];simp only [aA,aB,aC,Bool.and_false])
     | (rw [tbb (.inr (.inr (.inr (.inl qb)))),h81];rfl)
     | (rw [tbb (.inr (.inr (.inr (.inr qb)))),h81,h86];simp only [aA,aB,aC,Bool.and_false])
     | (rw [tbb (.inr (.inr (.inr (.inr qb)))),h81,h86];rfl)
     | (rw [tbb (.inr (.inr (.inr (.inr qb)))),h81];simp only [aA,aB,aC,Bool.and_false])
     | (rw [tbb (.inr (.inr (.inr (.inr qb)))),h81];rfl)
     | (rw [tbn q1 q4 q585 q588 q6 q9 qb11 qb12 qb13 qb14 qb15])
   refine .gG<|.gG<|.yw (.pickF Z Z)<|.az Z<|.bR<|.tR<|?_
   refine y9 Z Z λW s=>⟨?_,s.ext⟩
   first
    | (rw [tb1 q1,h10,h15];simp only [aA,aB,aC,Bool.and_false])
    | (rw [tb1 q1,h10,h15];rfl)
    | (rw [tb1 q1,h10];simp only [aA,aB,aC,Bool.and_false])
    | (rw [tb1 q1,h10];rfl)
    | (rw [tb4 q4,h26,h31];simp only [aA,aB,aC,Bool.and_false])
    | (rw [tb4 q4,h26,h31];rfl)
    | (rw [tb4 q4,h26];simp only [aA,aB,aC,Bool.and_false])
    | (rw [tb4 q4,h26];rfl)
    | (rw [tb5 (.inl q58),h43];simp only [aA,aB,aC,Bool.and_false])
    | (rw [tb5 (.inl q58),h43];rfl)
    | (rw [tb5 (.inr q58),h43];simp only [aA,aB,aC,Bool.and_false])
    | (rw [tb5 (.inr q58),h43];rfl)
    | (rw [tb6 q6,h54];simp only [aA,aB,aC,Bool.and_false])
    | (rw [tb6 q6,h54];rfl)
    | (rw [tb9 q9,h63,h68];simp only [aA,aB,aC,Bool.and_false])
    | (rw [tb9 q9,h63,h68];rfl)
    | (rw [tb9 q9,h63];simp only [aA,aB,aC,Bool.and_false])
    | (rw [tb9 q9,h63];rfl)
    | (rw [tbb (.inl qb),h81,h86];simp only [aA,aB,aC,Bool.and_false])
    | (rw [tbb (.inl qb),h81,h86];rfl)
    | (rw [tbb (.inl qb),h81];simp only [aA,aB,aC,Bool.and_false])
    | (rw [tbb (.inl qb),h81];rfl)
    | (rw [tbb (.inr (.inl qb)),h81,h86];simp only [aA,aB,aC,Bool.and_false])
    | (rw [tbb (.inr (.inl qb)),h81,h86];rfl)
    | (rw [tbb (.inr (.inl qb)),h81];simp only [aA,aB,aC,Bool.and_false])
    | (rw [tbb (.inr (.inl qb)),h81];rfl)
    | (rw [tbb (.inr (.inr (.inl qb))),h81,h86];simp only [aA,aB,aC,Bool.and_false])
    | (rw [tbb (.inr (.inr (.inl qb))),h81,h86];rfl)
    | (rw [tbb (.inr (.inr (.inl qb))),h81];simp only [aA,aB,aC,Bool.and_false])
    | (rw [tbb (.inr (.inr (.inl qb))),h81];rfl)
    | (rw [tbb (.inr (.inr (.inr (.inl qb)))),h81,h86];simp only [aA,aB,aC,Bool.and_false])
    | (rw [tbb (.inr (.inr (.inr (.inl qb)))),h81,h86];rfl)
    | (rw [tbb (.inr (.inr (.inr (.inl qb)))),h81];simp only [aA,aB,aC,Bool.and_false])
    | (rw [tbb (.inr (.inr (.inr (.inl qb)))),h81];rfl)
    | (rw [tbb (.inr (.inr (.inr (.inr qb)))),h81,h86];simp only [aA,aB,aC,Bool.and_false])
    | (rw [tbb (.inr (.inr (.inr (.inr qb)))),h81,h86];rfl)
    | (rw [tbb (.inr (.inr (.inr (.inr qb)))),h81];simp only [aA,aB,aC,Bool.and_false])
    | (rw [tbb (.inr (.inr (.inr (.inr qb)))),h81];rfl)
    | (rw [tbn q1 q4 q585 q588 q6 q9 qb11 qb12 qb13 qb14 qb15])
  refine .gG<|.gG<|.gG<|.yw (.pickF Z Z)<|.mv Z<|.gG<|.gG<|.yw (.pickF Z Z)<|.az Z<|.bR<|.tR<|?_
  refine y9 Z Z λW s=>⟨?_,s.ext⟩
  first
   | (rw [tb1 q1,h10,h15];simp only [aA,aB,aC,Bool.and_false])
   | (rw [tb1 q1,h10,h15];rfl)
   | (rw [tb1 q1,h10];simp only [aA,aB,aC,Bool.and_false])
   | (rw [tb1 q1,h10];rfl)
   | (rw [tb4 q4,h26,h31];simp only [aA,aB,aC,Bool.and_false])
   | (rw [tb4 q4,h26,h31];rfl)
   | (rw [tb4 q4,h26];simp only [aA,aB,aC,Bool.and_false])
   | (rw [tb4 q4,h26];rfl)
   | (rw [tb5 (.inl q58),h43];simp only [aA,aB,aC,Bool.and_false])
   | (rw [tb5 (.inl q58),h43];rfl)
   | (rw [tb5 (.inr q58),h43];simp only [aA,aB,aC,Bool.and_false])
   | (rw [tb5 (.inr q58),h43];rfl)
   | (rw [tb6 q6,h54];simp only [aA,aB,aC,Bool.and_false])
   | (rw [tb6 q6,h54];rfl)
   | (rw [tb9 q9,h63,h68];simp only [aA,aB,aC,Bool.and_false])
   | (rw [tb9 q9,h63,h68];rfl)
   | (rw [tb9 q9,h63];simp only [aA,aB,aC,Bool.and_false])
   | (rw [tb9 q9,h63];rfl)
   | (rw [tbb (.inl qb),h81,h86];simp only [aA,aB,aC,Bool.and_false])
   | (rw [tbb (.inl qb),h81,h86];rfl)
   | (rw [tbb (.inl qb),h81];simp only [aA,aB,aC,Bool.and_false])
   | (rw [tbb (.inl qb),h81];rfl)
   | (rw [tbb (.inr (.inl qb)),h81,h86];simp only [aA,aB,aC,Bool.and_false])
   | (rw [tbb (.inr (.inl qb)),h81,h86];rfl)
   | (rw [tbb (.inr (.inl qb)),h81];simp only [aA,aB,aC,Bool.and_false])
   | (rw [tbb (.inr (.inl qb)),h81];rfl)
   | (rw [tbb (.inr (.inr (.inl qb))),h81,h86];simp only [aA,aB,aC,Bool.and_false])
   | (rw [tbb (.inr (.inr (.inl qb))),h81,h86];rfl)
   | (rw [tbb (.inr (.inr (.inl qb))),h81];simp only [aA,aB,aC,Bool.and_false])
   | (rw [tbb (.inr (.inr (.inl qb))),h81];rfl)
   | (rw [tbb (.inr (.inr (.inr (.inl qb)))),h81,h86];simp only [aA,aB,aC,Bool.and_false])
   | (rw [tbb (.inr (.inr (.inr (.inl qb)))),h81,h86];rfl)
   | (rw [tbb (.inr (.inr (.inr (.inl qb)))),h81];simp only [aA,aB,aC,Bool.and_false])
   | (rw [tbb (.inr (.inr (.inr (.inl qb)))),h81];rfl)
   | (rw [tbb (.inr (.inr (.inr (.inr qb)))),h81,h86];simp only [aA,aB,aC,Bool.and_false])
   | (rw [tbb (.inr (.inr (.inr (.inr qb)))),h81,h86];rfl)
   | (rw [tbb (.inr (.inr (.inr (.inr qb)))),h81];simp only [aA,aB,aC,Bool.and_false])
   | (rw [tbb (.inr (.inr (.inr (.inr qb)))),h81];rfl)
   | (rw [tbn q1 q4 q585 q588 q6 q9 qb11 qb12 qb13 qb14 qb15])
 have qb12:¬ op=12:=λe=>aP h72 (by rw [e];rfl);refine .sr<|.yw (.eql Z Z)<|.aq Z<|.cr Z (λh72=>?_) (λh72=>?_)
 ·have qb:op=13:=aS.1 (by have:=aJ h72;show op.toNat=13;omega);refine .sk<|.tN<|.cT Z<|.sr<|.fA Z gM<|.lD Z cP Hm Z<|.yw (.eqS Z Z)<|.mv Z<|.b2 (λh81=>?_) (λh81=>?_)
  ·refine .gy (.fieldAddr Z gZ)<|.gy (.load Z eS Hm Z)<|.gy (.cast (.eql Z Z) (congrArg Value.bool i0))<|.yw (.pickT Z Z)<|.mv Z<|.b2 (λh86=>?_) (λh86=>?_)
   ·refine .gy (.loadW Z eC Hm Z)<|.gy (.call qR Z (λW s=>mU H op nm nn args 2 _ W h (λa ha=>ih a ha) s.agr))<|.yw (.pickT Z Z)<|.az Z<|.bR<|.tR<|?_
    refine y9 Z Z λW s=>⟨?_,s.ext⟩
    first
     | (rw [tb1 q1,h10,h15];simp only [aA,aB,aC,Bool.and_false])
     | (rw [tb1 q1,h10,h15];rfl)
     | (rw [tb1 q1,h10];simp only [aA,aB,aC,Bool.and_false])
     | (rw [tb1 q1,h10];rfl)
     | (rw [tb4 q4,h26,h31];simp only [aA,aB,aC,Bool.and_false])
     | (rw [tb4 q4,h26,h31];rfl)
     | (rw [tb4 q4,h26];simp only [aA,aB,aC,Bool.and_false])
     | (rw [tb4 q4,h26];rfl)
     | (rw [tb5 (.inl q58),h43];simp only [aA,aB,aC,Bool.and_false])
     | (rw [tb5 (.inl q58),h43];rfl)
     | (rw [tb5 (.inr q58),h43];simp only [aA,aB,aC,Bool.and_false])
     | (rw [tb5 (.inr q58),h43];rfl)
     | (rw [tb6 q6,h54];simp only [aA,aB,aC,Bool.and_false])
     | (rw [tb6 q6,h54];rfl)
     | (rw [tb9 q9,h63,h68];simp only [aA,aB,aC,Bool.and_false])
     | (rw [tb9 q9,h63,h68];rfl)
     | (rw [tb9 q9,h63];simp only [aA,aB,aC,Bool.and_false])
     | (rw [tb9 q9,h63];rfl)
     | (rw [tbb (.inl qb),h81,h86];simp only [aA,aB,aC,Bool.and_false])
     | (rw [tbb (.inl qb),h81,h86];rfl)
     | (rw [tbb (.inl qb),h81];simp only [aA,aB,aC,Bool.and_false])
     | (rw [tbb (.inl qb),h81];rfl)
     | (rw [tbb (.inr (.inl qb)),h81,h86];simp only [aA,aB,aC,Bool.and_false])
     | (rw [tbb (.inr (.inl qb)),h81,h86];rfl)
     | (rw [tbb (.inr (.inl qb)),h81];simp only [aA,aB,aC,Bool.and_false])
     | (rw [tbb (.inr (.inl qb)),h81];rfl)
     | (rw [tbb (.inr (.inr (.inl qb))),h81,h86];simp only [aA,aB,aC,Bool.and_false])
     | (rw [tbb (.inr (.inr (.inl qb))),h81,h86];rfl)
     | (rw [tbb (.inr (.inr (.inl qb))),h81];simp only [aA,aB,aC,Bool.and_false])
     | (rw [tbb (.inr (.inr (.inl qb))),h81];rfl)
     | (rw [tbb (.inr (.inr (.inr (.inl qb)))),h81,h86];simp only [aA,aB,aC,Bool.and_false])
     | (rw [tbb (.inr (.inr (.inr (.inl qb)))),h81,h86];rfl)
     | (rw [tbb (.inr (.inr (.inr (.inl qb)))),h81];simp only [aA,aB,aC,Bool.and_false])
     | (rw [tbb (.inr (.inr (.inr (.inl qb)))),h81];rfl)
     | (rw [tbb (.inr (.inr (.inr (.inr qb)))),h81,h86];simp only [aA,aB,aC,Bool.and_false])
     | (rw [tbb (.inr (.inr (.inr (.inr qb)))),h81,h86];rfl)
     | (rw [tbb (.inr (.inr (.inr (.inr qb)))),h81];simp only [aA,aB,aC,Bool.and_false])
     | (rw [tbb (.inr (.inr (.inr (.inr qb)))),h81];rfl)
     | (rw [tbn q1 q4 q585 q588 q6 q9 qb11 qb12 qb13 qb14 qb15])
   refine .gG<|.gG<|.yw (.pickF Z Z)<|.az Z<|.bR<|.tR<|?_
   refine y9 Z Z λW s=>⟨?_,s.ext⟩
   first
    | (rw [tb1 q1,h10,h15];simp only [aA,aB,aC,Bool.and_false])
    | (rw [tb1 q1,h10,h15];rfl)
    | (rw [tb1 q1,h10];simp only [aA,aB,aC,Bool.and_false])
    | (rw [tb1 q1,h10];rfl)
    | (rw [tb4 q4,h26,h31];simp only [aA,aB,aC,Bool.and_false])
    | (rw [tb4 q4,h26,h31];rfl)
    | (rw [tb4 q4,h26];simp only [aA,aB,aC,Bool.and_false])
    | (rw [tb4 q4,h26];rfl)
    | (rw [tb5 (.inl q58),h43];simp only [aA,aB,aC,Bool.and_false])
    | (rw [tb5 (.inl q58),h43];rfl)
    | (rw [tb5 (.inr q58),h43];simp only [aA,aB,aC,Bool.and_false])
    | (rw [tb5 (.inr q58),h43];rfl)
    | (rw [tb6 q6,h54];simp only [aA,aB,aC,Bool.and_false])
    | (rw [tb6 q6,h54];rfl)
    | (rw [tb9 q9,h63,h68];simp only [aA,aB,aC,Bool.and_false])
    | (rw [tb9 q9,h63,h68];rfl)
    | (rw [tb9 q9,h63];simp only [aA,aB,aC,Bool.and_false])
    | (rw [tb9 q9,h63];rfl)
    | (rw [tbb (.inl qb),h81,h86];simp only [aA,aB,aC,Bool.and_false])
    | (rw [tbb (.inl qb),h81,h86];rfl)
    | (rw [tbb (.inl qb),h81];simp only [aA,aB,aC,Bool.and_false])
    | (rw [tbb (.inl qb),h81];rfl)
    | (rw [tbb (.inr (.inl qb)),h81,h86];simp only [aA,aB,aC,Bool.and_false])
    | (rw [tbb (.inr (.inl qb)),h81,h86];rfl)
    | (rw [tbb (.inr (.inl qb)),h81];simp only [aA,aB,aC,Bool.and_false])
    | (rw [tbb (.inr (.inl qb)),h81];rfl)
    | (rw [tbb (.inr (.inr (.inl qb))),h81,h86];simp only [aA,aB,aC,Bool.and_false])
    | (rw [tbb (.inr (.inr (.inl qb))),h81,h86];rfl)
    | (rw [tbb (.inr (.inr (.inl qb))),h81];simp only [aA,aB,aC,Bool.and_false])
    | (rw [tbb (.inr (.inr (.inl qb))),h81];rfl)
    | (rw [tbb (.inr (.inr (.inr (.inl qb)))),h81,h86];simp only [aA,aB,aC,Bool.and_false])
    | (rw [tbb (.inr (.inr (.inr (.inl qb)))),h81,h86];rfl)
    | (rw [tbb (.inr (.inr (.inr (.inl qb)))),h81];simp only [aA,aB,aC,Bool.and_false])
    | (rw [tbb (.inr (.inr (.inr (.inl qb)))),h81];rfl)
    | (rw [tbb (.inr (.inr (.inr (.inr qb)))),h81,h86];simp only [aA,aB,aC,Bool.and_false])
    | (rw [tbb (.inr (.inr (.inr (.inr qb)))),h81,h86];rfl)
    | (rw [tbb (.inr (.inr (.inr (.inr qb)))),h81];simp only [aA,aB,aC,Bool.and_false])
    | (rw [tbb (.inr (.inr (.inr (.inr qb)))),h81];rfl)
    | (rw [tbn q1 q4 q585 q588 q6 q9 qb11 qb12 qb13 qb14 qb15])
  refine .gG<|.gG<|.gG<|.yw (.pickF Z Z)<|.mv Z<|.gG<|.gG<|.yw (.pickF Z Z)<|.az Z<|.bR<|.tR<|?_
  refine y9 Z Z λW s=>⟨?_,s.ext⟩
  first
   | (rw [tb1 q1,h10,h15];simp only [aA,aB,aC,Bool.and_false])
   | (rw [tb1 q1,h10,h15];rfl)
   | (rw [tb1 q1,h10];simp only [aA,aB,aC,Bool.and_false])
   | (rw [tb1 q1,h10];rfl)
   | (rw [tb4 q4,h26,h31];simp only [aA,aB,aC,Bool.and_false])
   | (rw [tb4 q4,h26,h31];rfl)
   | (rw [tb4 q4,h26];simp only [aA,aB,aC,Bool.and_false])
   | (rw [tb4 q4,h26];rfl)
   | (rw [tb5 (.inl q58),h43];simp only [aA,aB,aC,Bool.and_false])
   | (rw [tb5 (.inl q58),h43];rfl)
   | (rw [tb5 (.inr q58),h43];simp only [aA,aB,aC,Bool.and_false])
   | (rw [tb5 (.inr q58),h43];rfl)
   | (rw [tb6 q6,h54];simp only [aA,aB,aC,Bool.and_false])
   | (rw [tb6 q6,h54];rfl)
   | (rw [tb9 q9,h63,h68];simp only [aA,aB,aC,Bool.and_false])
   | (rw [tb9 q9,h63,h68];rfl)
   | (rw [tb9 q9,h63];simp only [aA,aB,aC,Bool.and_false])
   | (rw [tb9 q9,h63];rfl)
   | (rw [tbb (.inl qb),h81,h86];simp only [aA,aB,aC,Bool.and_false])
   | (rw [tbb (.inl qb),h81,h86];rfl)
   | (rw [tbb (.inl qb),h81];simp only [aA,aB,aC,Bool.and_false])
   | (rw [tbb (.inl qb),h81];rfl)
   | (rw [tbb (.inr (.inl qb)),h81,h86];simp only [aA,aB,aC,Bool.and_false])
   | (rw [tbb (.inr (.inl qb)),h81,h86];rfl)
   | (rw [tbb (.inr (.inl qb)),h81];simp only [aA,aB,aC,Bool.and_false])
   | (rw [tbb (.inr (.inl qb)),h81];rfl)
   | (rw [tbb (.inr (.inr (.inl qb))),h81,h86];simp only [aA,aB,aC,Bool.and_false])
   | (rw [tbb (.inr (.inr (.inl qb))),h81,h86];rfl)
   | (rw [tbb (.inr (.inr (.inl qb))),h81];simp only [aA,aB,aC,Bool.and_false])
   | (rw [tbb (.inr (.inr (.inl qb))),h81];rfl)
   | (rw [tbb (.inr (.inr (.inr (.inl qb)))),h81,h86];simp only [aA,aB,aC,Bool.and_false])
   | (rw [tbb (.inr (.inr (.inr (.inl qb)))),h81,h86];rfl)
   | (rw [tbb (.inr (.inr (.inr (.inl qb)))),h81];simp only [aA,aB,aC,Bool.and_false])
   | (rw [tbb (.inr (.inr (.inr (.inl qb)))),h81];rfl)
   | (rw [tbb (.inr (.inr (.inr (.inr qb)))),h81,h86];simp only [aA,aB,aC,Bool.and_false])
   | (rw [tbb (.inr (.inr (.inr (.inr qb)))),h81,h86];rfl)
   | (rw [tbb (.inr (.inr (.inr (.inr qb)))),h81];simp only [aA,aB,aC,Bool.and_false])
   | (rw [tbb (.inr (.inr (.inr (.inr qb)))),h81];rfl)
   | (rw [tbn q1 q4 q585 q588 q6 q9 qb11 qb12 qb13 qb14 qb15])
 have qb13:¬ op=13:=λe=>aP h72 (by rw [e];rfl);refine .sr<|.yw (.eql Z Z)<|.aq Z<|.cr Z (λh72=>?_) (λh72=>?_)
 ·have qb:op=14:=aS.1 (by have:=aJ h72;show op.toNat=14;omega);refine .sk<|.tN<|.cT Z<|.sr<|.fA Z gM<|.lD Z cP Hm Z<|.yw (.eqS Z Z)<|.mv Z<|.b2 (λh81=>?_) (λh81=>?_)
  ·refine .gy (.fieldAddr Z gZ)<|.gy (.load Z eS Hm Z)<|.gy (.cast (.eql Z Z) (congrArg Value.bool i0))<|.yw (.pickT Z Z)<|.mv Z<|.b2 (λh86=>?_) (λh86=>?_)
   ·refine .gy (.loadW Z eC Hm Z)<|.gy (.call qR Z (λW s=>mU H op nm nn args 2 _ W h (λa ha=>ih a ha) s.agr))<|.yw (.pickT Z Z)<|.az Z<|.bR<|.tR<|?_
    refine y9 Z Z λW s=>⟨?_,s.ext⟩
    first
     | (rw [tb1 q1,h10,h15];simp only [aA,aB,aC,Bool.and_false])
     | (rw [tb1 q1,h10,h15];rfl)
     | (rw [tb1 q1,h10];simp only [aA,aB,aC,Bool.and_false])
     | (rw [tb1 q1,h10];rfl)
     | (rw [tb4 q4,h26,h31];simp only [aA,aB,aC,Bool.and_false])
     | (rw [tb4 q4,h26,h31];rfl)
     | (rw [tb4 q4,h26];simp only [aA,aB,aC,Bool.and_false])
     | (rw [tb4 q4,h26];rfl)
     | (rw [tb5 (.inl q58),h43];simp only [aA,aB,aC,Bool.and_false])
     | (rw [tb5 (.inl q58),h43];rfl)
     | (rw [tb5 (.inr q58),h43];simp only [aA,aB,aC,Bool.and_false])
     | (rw [tb5 (.inr q58),h43];rfl)
     | (rw [tb6 q6,h54];simp only [aA,aB,aC,Bool.and_false])
     | (rw [tb6 q6,h54];rfl)
     | (rw [tb9 q9,h63,h68];simp only [aA,aB,aC,Bool.and_false])
     | (rw [tb9 q9,h63,h68];rfl)
     | (rw [tb9 q9,h63];simp only [aA,aB,aC,Bool.and_false])
     | (rw [tb9 q9,h63];rfl)
     | (rw [tbb (.inl qb),h81,h86];simp only [aA,aB,aC,Bool.and_false])
     | (rw [tbb (.inl qb),h81,h86];rfl)
     | (rw [tbb (.inl qb),h81];simp only [aA,aB,aC,Bool.and_false])
     | (rw [tbb (.inl qb),h81];rfl)
     | (rw [tbb (.inr (.inl qb)),h81,h86];simp only [aA,aB,aC,Bool.and_false])
     | (rw [tbb (.inr (.inl qb)),h81,h86];rfl)
     | (rw [tbb (.inr (.inl qb)),h81];simp only [aA,aB,aC,Bool.and_false])
     | (rw [tbb (.inr (.inl qb)),h81];rfl)
     | (rw [tbb (.inr (.inr (.inl qb))),h81,h86];simp only [aA,aB,aC,Bool.and_false])
     | (rw [tbb (.inr (.inr (.inl qb))),h81,h86];rfl)
     | (rw [tbb (.inr (.inr (.inl qb))),h81];simp only [aA,aB,aC,Bool.and_false])
     | (rw [tbb (.inr (.inr (.inl qb))),h81];rfl)
     | (rw [tbb (.inr (.inr (.inr (.inl qb)))),h81,h86];simp only [aA,aB,aC,Bool.and_false])
     | (rw [tbb (.inr (.inr (.inr (.inl qb)))),h81,h86];rfl)
     | (rw [tbb (.inr (.inr (.inr (.inl qb)))),h81];simp only [aA,aB,aC,Bool.and_false])
     | (rw [tbb (.inr (.inr (.inr (.inl qb)))),h81];rfl)
     | (rw [tbb (.inr (.inr (.inr (.inr qb)))),h81,h86];simp only [aA,aB,aC,Bool.and_false])
     | (rw [tbb (.inr (.inr (.inr (.inr qb)))),h81,h86];rfl)
     | (rw [tbb (.inr (.inr (.inr (.inr qb)))),h81];simp only [aA,aB,aC,Bool.and_false])
     | (rw [tbb (.inr (.inr (.inr (.inr qb)))),h81];rfl)
     | (rw [tbn q1 q4 q585 q588 q6 q9 qb11 qb12 qb13 qb14 qb15])
   refine .gG<|.gG<|.yw (.pickF Z Z)<|.az Z<|.bR<|.tR<|?_
   refine y9 Z Z λW s=>⟨?_,s.ext⟩
   first
    | (rw [tb1 q1,h10,h15];simp only [aA,aB,aC,Bool.and_false])
    | (rw [tb1 q1,h10,h15];rfl)
    | (rw [tb1 q1,h10];simp only [aA,aB,aC,Bool.and_false])
    | (rw [tb1 q1,h10];rfl)
    | (rw [tb4 q4,h26,h31];simp only [aA,aB,aC,Bool.and_false])
    | (rw [tb4 q4,h26,h31];rfl)
    | (rw [tb4 q4,h26];simp only [aA,aB,aC,Bool.and_false])
    | (rw [tb4 q4,h26];rfl)
    | (rw [tb5 (.inl q58),h43];simp only [aA,aB,aC,Bool.and_false])
    | (rw [tb5 (.inl q58),h43];rfl)
    | (rw [tb5 (.inr q58),h43];simp only [aA,aB,aC,Bool.and_false])
    | (rw [tb5 (.inr q58),h43];rfl)
    | (rw [tb6 q6,h54];simp only [aA,aB,aC,Bool.and_false])
    | (rw [tb6 q6,h54];rfl)
    | (rw [tb9 q9,h63,h68];simp only [aA,aB,aC,Bool.and_false])
    | (rw [tb9 q9,h63,h68];rfl)
    | (rw [tb9 q9,h63];simp only [aA,aB,aC,Bool.and_false])
    | (rw [tb9 q9,h63];rfl)
    | (rw [tbb (.inl qb),h81,h86];simp only [aA,aB,aC,Bool.and_false])
    | (rw [tbb (.inl qb),h81,h86];rfl)
    | (rw [tbb (.inl qb),h81];simp only [aA,aB,aC,Bool.and_false])
    | (rw [tbb (.inl qb),h81];rfl)
    | (rw [tbb (.inr (.inl qb)),h81,h86];simp only [aA,aB,aC,Bool.and_false])
    | (rw [tbb (.inr (.inl qb)),h81,h86];rfl)
    | (rw [tbb (.inr (.inl qb)),h81];simp only [aA,aB,aC,Bool.and_false])
    | (rw [tbb (.inr (.inl qb)),h81];rfl)
    | (rw [tbb (.inr (.inr (.inl qb))),h81,h86];simp only [aA,aB,aC,Bool.and_false])
    | (rw [tbb (.inr (.inr (.inl qb))),h81,h86];rfl)
    | (rw [tbb (.inr (.inr (.inl qb))),h81];simp only [aA,aB,aC,Bool.and_false])
    | (rw [tbb (.inr (.inr (.inl qb))),h81];rfl)
    | (rw [tbb (.inr (.inr (.inr (.inl qb)))),h81,h86];simp only [aA,aB,aC,Bool.and_false])
    | (rw [tbb (.inr (.inr (.inr (.inl qb)))),h81,h86];rfl)
    | (rw [tbb (.inr (.inr (.inr (.inl qb)))),h81];simp only [aA,aB,aC,Bool.and_false])
    | (rw [tbb (.inr (.inr (.inr (.inl qb)))),h81];rfl)
    | (rw [tbb (.inr (.inr (.inr (.inr qb)))),h81,h86];simp only [aA,aB,aC,Bool.and_false])
    | (rw [tbb (.inr (.inr (.inr (.inr qb)))),h81,h86];rfl)
    | (rw [tbb (.inr (.inr (.inr (.inr qb)))),h81];simp only [aA,aB,aC,Bool.and_false])
    | (rw [tbb (.inr (.inr (.inr (.inr qb)))),h81];rfl)
    | (rw [tbn q1 q4 q585 q588 q6 q9 qb11 qb12 qb13 qb14 qb15])
  refine .gG<|.gG<|.gG<|.yw (.pickF Z Z)<|.mv Z<|.gG<|.gG<|.yw (.pickF Z Z)<|.az Z<|.bR<|.tR<|?_
  refine y9 Z Z λW s=>⟨?_,s.ext⟩
  first
   | (rw [tb1 q1,h10,h15];simp only [aA,aB,aC,Bool.and_false])
   | (rw [tb1 q1,h10,h15];rfl)
   | (rw [tb1 q1,h10];simp only [aA,aB,aC,Bool.and_false])
   | (rw [tb1 q1,h10];rfl)
   | (rw [tb4 q4,h26,h31];simp only [aA,aB,aC,Bool.and_false])
   | (rw [tb4 q4,h26,h31];rfl)
   | (rw [tb4 q4,h26];simp only [aA,aB,aC,Bool.and_false])
   | (rw [tb4 q4,h26];rfl)
   | (rw [tb5 (.inl q58),h43];simp only [aA,aB,aC,Bool.and_false])
   | (rw [tb5 (.inl q58),h43];rfl)
   | (rw [tb5 (.inr q58),h43];simp only [aA,aB,aC,Bool.and_false])
   | (rw [tb5 (.inr q58),h43];rfl)
   | (rw [tb6 q6,h54];simp only [aA,aB,aC,Bool.and_false])
   | (rw [tb6 q6,h54];rfl)
   | (rw [tb9 q9,h63,h68];simp only [aA,aB,aC,Bool.and_false])
   | (rw [tb9 q9,h63,h68];rfl)
   | (rw [tb9 q9,h63];simp only [aA,aB,aC,Bool.and_false])
   | (rw [tb9 q9,h63];rfl)
   | (rw [tbb (.inl qb),h81,h86];simp only [aA,aB,aC,Bool.and_false])
   | (rw [tbb (.inl qb),h81,h86];rfl)
   | (rw [tbb (.inl qb),h81];simp only [aA,aB,aC,Bool.and_false])
   | (rw [tbb (.inl qb),h81];rfl)
   | (rw [tbb (.inr (.inl qb)),h81,h86];simp only [aA,aB,aC,Bool.and_false])
   | (rw [tbb (.inr (.inl qb)),h81,h86];rfl)
   | (rw [tbb (.inr (.inl qb)),h81];simp only [aA,aB,aC,Bool.and_false])
   | (rw [tbb (.inr (.inl qb)),h81];rfl)
   | (rw [tbb (.inr (.inr (.inl qb))),h81,h86];simp only [aA,aB,aC,Bool.and_false])
   | (rw [tbb (.inr (.inr (.inl qb))),h81,h86];rfl)
   | (rw [tbb (.inr (.inr (.inl qb))),h81];simp only [aA,aB,aC,Bool.and_false])
   | (rw [tbb (.inr (.inr (.inl qb))),h81];rfl)
   | (rw [tbb (.inr (.inr (.inr (.inl qb)))),h81,h86];simp only [aA,aB,aC,Bool.and_false])
   | (rw [tbb (.inr (.inr (.inr (.inl qb)))),h81,h86];rfl)
   | (rw [tbb (.inr (.inr (.inr (.inl qb)))),h81];simp only [aA,aB,aC,Bool.and_false])
   | (rw [tbb (.inr (.inr (.inr (.inl qb)))),h81];rfl)
   | (rw [tbb (.inr (.inr (.inr (.inr qb)))),h81,h86];simp only [aA,aB,aC,Bool.and_false])
   | (rw [tbb (.inr (.inr (.inr (.inr qb)))),h81,h86];rfl)
   | (rw [tbb (.inr (.inr (.inr (.inr qb)))),h81];simp only [aA,aB,aC,Bool.and_false])
   | (rw [tbb (.inr (.inr (.inr (.inr qb)))),h81];rfl)
   | (rw [tbn q1 q4 q585 q588 q6 q9 qb11 qb12 qb13 qb14 qb15])
 have qb14:¬ op=14:=λe=>aP h72 (by rw [e];rfl);refine .rg<|.yw (.eql Z Z)<|.aq Z<|.cr Z (λh72=>?_) (λh72=>?_)
 ·have qb:op=15:=aS.1 (by have:=aJ h72;show op.toNat=15;omega);refine .sr<|.fA Z gM<|.lD Z cP Hm Z<|.yw (.eqS Z Z)<|.mv Z<|.b2 (λh81=>?_) (λh81=>?_)
  ·refine .gy (.fieldAddr Z gZ)<|.gy (.load Z eS Hm Z)<|.gy (.cast (.eql Z Z) (congrArg Value.bool i0))<|.yw (.pickT Z Z)<|.mv Z<|.b2 (λh86=>?_) (λh86=>?_)
   ·refine .gy (.loadW Z eC Hm Z)<|.gy (.call qR Z (λW s=>mU H op nm nn args 2 _ W h (λa ha=>ih a ha) s.agr))<|.yw (.pickT Z Z)<|.az Z<|.bR<|.tR<|?_
    refine y9 Z Z λW s=>⟨?_,s.ext⟩
    first
     | (rw [tb1 q1,h10,h15];simp only [aA,aB,aC,Bool.and_false])
     | (rw [tb1 q1,h10,h15];rfl)
     | (rw [tb1 q1,h10];simp only [aA,aB,aC,Bool.and_false])
     | (rw [tb1 q1,h10];rfl)
     | (rw [tb4 q4,h26,h31];simp only [aA,aB,aC,Bool.and_false])
     | (rw [tb4 q4,h26,h31];rfl)
     | (rw [tb4 q4,h26];simp only [aA,aB,aC,Bool.and_false])
     | (rw [tb4 q4,h26];rfl)
     | (rw [tb5 (.inl q58),h43];simp only [aA,aB,aC,Bool.and_false])
     | (rw [tb5 (.inl q58),h43];rfl)
     | (rw [tb5 (.inr q58),h43];simp only [aA,aB,aC,Bool.and_false])
     | (rw [tb5 (.inr q58),h43];rfl)
     | (rw [tb6 q6,h54];simp only [aA,aB,aC,Bool.and_false])
     | (rw [tb6 q6,h54];rfl)
     | (rw [tb9 q9,h63,h68];simp only [aA,aB,aC,Bool.and_false])
     | (rw [tb9 q9,h63,h68];rfl)
     | (rw [tb9 q9,h63];simp only [aA,aB,aC,Bool.and_false])
     | (rw [tb9 q9,h63];rfl)
     | (rw [tbb (.inl qb),h81,h86];simp only [aA,aB,aC,Bool.and_false])
     | (rw [tbb (.inl qb),h81,h86];rfl)
     | (rw [tbb (.inl qb),h81];simp only [aA,aB,aC,Bool.and_false])
     | (rw [tbb (.inl qb),h81];rfl)
     | (rw [tbb (.inr (.inl qb)),h81,h86];simp only [aA,aB,aC,Bool.and_false])
     | (rw [tbb (.inr (.inl qb)),h81,h86];rfl)
     | (rw [tbb (.inr (.inl qb)),h81];simp only [aA,aB,aC,Bool.and_false])
     | (rw [tbb (.inr (.inl qb)),h81];rfl)
     | (rw [tbb (.inr (.inr (.inl qb))),h81,h86];simp only [aA,aB,aC,Bool.and_false])
     | (rw [tbb (.inr (.inr (.inl qb))),h81,h86];rfl)
     | (rw [tbb (.inr (.inr (.inl qb))),h81];simp only [aA,aB,aC,Bool.and_false])
     | (rw [tbb (.inr (.inr (.inl qb))),h81];rfl)
     | (rw [tbb (.inr (.inr (.inr (.inl qb)))),h81,h86];simp only [aA,aB,aC,Bool.and_false])
     | (rw [tbb (.inr (.inr (.inr (.inl qb)))),h81,h86];rfl)
     | (rw [tbb (.inr (.inr (.inr (.inl qb)))),h81];simp only [aA,aB,aC,Bool.and_false])
     | (rw [tbb (.inr (.inr (.inr (.inl qb)))),h81];rfl)
     | (rw [tbb (.inr (.inr (.inr (.inr qb)))),h81,h86];simp only [aA,aB,aC,Bool.and_false])
     | (rw [tbb (.inr (.inr (.inr (.inr qb)))),h81,h86];rfl)
     | (rw [tbb (.inr (.inr (.inr (.inr qb)))),h81];simp only [aA,aB,aC,Bool.and_false])
     | (rw [tbb (.inr (.inr (.inr (.inr qb)))),h81];rfl)
     | (rw [tbn q1 q4 q585 q588 q6 q9 qb11 qb12 qb13 qb14 qb15])
   refine .gG<|.gG<|.yw (.pickF Z Z)<|.az Z<|.bR<|.tR<|?_
   refine y9 Z Z λW s=>⟨?_,s.ext⟩
   first
    | (rw [tb1 q1,h10,h15];simp only [aA,aB,aC,Bool.and_false])
    | (rw [tb1 q1,h10,h15];rfl)
    | (rw [tb1 q1,h10];simp only [aA,aB,aC,Bool.and_false])
    | (rw [tb1 q1,h10];rfl)
    | (rw [tb4 q4,h26,h31];simp only [aA,aB,aC,Bool.and_false])
    | (rw [tb4 q4,h26,h31];rfl)
    | (rw [tb4 q4,h26];simp only [aA,aB,aC,Bool.and_false])
    | (rw [tb4 q4,h26];rfl)
    | (rw [tb5 (.inl q58),h43];simp only [aA,aB,aC,Bool.and_false])
    | (rw [tb5 (.inl q58),h43];rfl)
    | (rw [tb5 (.inr q58),h43];simp only [aA,aB,aC,Bool.and_false])
    | (rw [tb5 (.inr q58),h43];rfl)
    | (rw [tb6 q6,h54];simp only [aA,aB,aC,Bool.and_false])
    | (rw [tb6 q6,h54];rfl)
    | (rw [tb9 q9,h63,h68];simp only [aA,aB,aC,Bool.and_false])
    | (rw [tb9 q9,h63,h68];rfl)
    | (rw [tb9 q9,h63];simp only [aA,aB,aC,Bool.and_false])
    | (rw [tb9 q9,h63];rfl)
    | (rw [tbb (.inl qb),h81,h86];simp only [aA,aB,aC,Bool.and_false])
    | (rw [tbb (.inl qb),h81,h86];rfl)
    | (rw [tbb (.inl qb),h81];simp only [aA,aB,aC,Bool.and_false])
    | (rw [tbb (.inl qb),h81];rfl)
    | (rw [tbb (.inr (.inl qb)),h81,h86];simp only [aA,aB,aC,Bool.and_false])
    | (rw [tbb (.inr (.inl qb)),h81,h86];rfl)
    | (rw [tbb (.inr (.inl qb)),h81];simp only [aA,aB,aC,Bool.and_false])
    | (rw [tbb (.inr (.inl qb)),h81];rfl)
    | (rw [tbb (.inr (.inr (.inl qb))),h81,h86];simp only [aA,aB,aC,Bool.and_false])
    | (rw [tbb (.inr (.inr (.inl qb))),h81,h86];rfl)
    | (rw [tbb (.inr (.inr (.inl qb))),h81];simp only [aA,aB,aC,Bool.and_false])
    | (rw [tbb (.inr (.inr (.inl qb))),h81];rfl)
    | (rw [tbb (.inr (.inr (.inr (.inl qb)))),h81,h86];simp only [aA,aB,aC,Bool.and_false])
    | (rw [tbb (.inr (.inr (.inr (.inl qb)))),h81,h86];rfl)
    | (rw [tbb (.inr (.inr (.inr (.inl qb)))),h81];simp only [aA,aB,aC,Bool.and_false])
    | (rw [tbb (.inr (.inr (.inr (.inl qb)))),h81];rfl)
    | (rw [tbb (.inr (.inr (.inr (.inr qb)))),h81,h86];simp only [aA,aB,aC,Bool.and_false])
    | (rw [tbb (.inr (.inr (.inr (.inr qb)))),h81,h86];rfl)
    | (rw [tbb (.inr (.inr (.inr (.inr qb)))),h81];simp only [aA,aB,aC,Bool.and_false])
    | (rw [tbb (.inr (.inr (.inr (.inr qb)))),h81];rfl)
    | (rw [tbn q1 q4 q585 q588 q6 q9 qb11 qb12 qb13 qb14 qb15])
  refine .gG<|.gG<|.gG<|.yw (.pickF Z Z)<|.mv Z<|.gG<|.gG<|.yw (.pickF Z Z)<|.az Z<|.bR<|.tR<|?_
  refine y9 Z Z λW s=>⟨?_,s.ext⟩
  first
   | (rw [tb1 q1,h10,h15];simp only [aA,aB,aC,Bool.and_false])
   | (rw [tb1 q1,h10,h15];rfl)
   | (rw [tb1 q1,h10];simp only [aA,aB,aC,Bool.and_false])
   | (rw [tb1 q1,h10];rfl)
   | (rw [tb4 q4,h26,h31];simp only [aA,aB,aC,Bool.and_false])
   | (rw [tb4 q4,h26,h31];rfl)
   | (rw [tb4 q4,h26];simp only [aA,aB,aC,Bool.and_false])
   | (rw [tb4 q4,h26];rfl)
   | (rw [tb5 (.inl q58),h43];simp only [aA,aB,aC,Bool.and_false])
   | (rw [tb5 (.inl q58),h43];rfl)
   | (rw [tb5 (.inr q58),h43];simp only [aA,aB,aC,Bool.and_false])
   | (rw [tb5 (.inr q58),h43];rfl)
   | (rw [tb6 q6,h54];simp only [aA,aB,aC,Bool.and_false])
   | (rw [tb6 q6,h54];rfl)
   | (rw [tb9 q9,h63,h68];simp only [aA,aB,aC,Bool.and_false])
   | (rw [tb9 q9,h63,h68];rfl)
   | (rw [tb9 q9,h63];simp only [aA,aB,aC,Bool.and_false])
   | (rw [tb9 q9,h63];rfl)
   | (rw [tbb (.inl qb),h81,h86];simp only [aA,aB,aC,Bool.and_false])
   | (rw [tbb (.inl qb),h81,h86];rfl)
   | (rw [tbb (.inl qb),h81];simp only [aA,aB,aC,Bool.and_false])
   | (rw [tbb (.inl qb),h81];rfl)
   | (rw [tbb (.inr (.inl qb)),h81,h86];simp only [aA,aB,aC,Bool.and_false])
   | (rw [tbb (.inr (.inl qb)),h81,h86];rfl)
   | (rw [tbb (.inr (.inl qb)),h81];simp only [aA,aB,aC,Bool.and_false])
   | (rw [tbb (.inr (.inl qb)),h81];rfl)
   | (rw [tbb (.inr (.inr (.inl qb))),h81,h86];simp only [aA,aB,aC,Bool.and_false])
   | (rw [tbb (.inr (.inr (.inl qb))),h81,h86];rfl)
   | (rw [tbb (.inr (.inr (.inl qb))),h81];simp only [aA,aB,aC,Bool.and_false])
   | (rw [tbb (.inr (.inr (.inl qb))),h81];rfl)
   | (rw [tbb (.inr (.inr (.inr (.inl qb)))),h81,h86];simp only [aA,aB,aC,Bool.and_false])
   | (rw [tbb (.inr (.inr (.inr (.inl qb)))),h81,h86];rfl)
   | (rw [tbb (.inr (.inr (.inr (.inl qb)))),h81];simp only [aA,aB,aC,Bool.and_false])
   | (rw [tbb (.inr (.inr (.inr (.inl qb)))),h81];rfl)
   | (rw [tbb (.inr (.inr (.inr (.inr qb)))),h81,h86];simp only [aA,aB,aC,Bool.and_false])
   | (rw [tbb (.inr (.inr (.inr (.inr qb)))),h81,h86];rfl)
   | (rw [tbb (.inr (.inr (.inr (.inr qb)))),h81];simp only [aA,aB,aC,Bool.and_false])
   | (rw [tbb (.inr (.inr (.inr (.inr qb)))),h81];rfl)
   | (rw [tbn q1 q4 q585 q588 q6 q9 qb11 qb12 qb13 qb14 qb15])
 have qb15:¬ op=15:=λe=>aP h72 (by rw [e];rfl);refine .sk<|.bN<|.tN<|.sr<|.az Z<|?_
 refine y9 Z Z λW s=>⟨?_,s.ext⟩
 first
  | (rw [tb1 q1,h10,h15];simp only [aA,aB,aC,Bool.and_false])
  | (rw [tb1 q1,h10,h15];rfl)
  | (rw [tb1 q1,h10];simp only [aA,aB,aC,Bool.and_false])
  | (rw [tb1 q1,h10];rfl)
  | (rw [tb4 q4,h26,h31];simp only [aA,aB,aC,Bool.and_false])
  | (rw [tb4 q4,h26,h31];rfl)
  | (rw [tb4 q4,h26];simp only [aA,aB,aC,Bool.and_false])
  | (rw [tb4 q4,h26];rfl)
  | (rw [tb5 (.inl q58),h43];simp only [aA,aB,aC,Bool.and_false])
  | (rw [tb5 (.inl q58),h43];rfl)
  | (rw [tb5 (.inr q58),h43];simp only [aA,aB,aC,Bool.and_false])
  | (rw [tb5 (.inr q58),h43];rfl)
  | (rw [tb6 q6,h54];simp only [aA,aB,aC,Bool.and_false])
  | (rw [tb6 q6,h54];rfl)
  | (rw [tb9 q9,h63,h68];simp only [aA,aB,aC,Bool.and_false])
  | (rw [tb9 q9,h63,h68];rfl)
  | (rw [tb9 q9,h63];simp only [aA,aB,aC,Bool.and_false])
  | (rw [tb9 q9,h63];rfl)
  | (rw [tbb (.inl qb),h81,h86];simp only [aA,aB,aC,Bool.and_false])
  | (rw [tbb (.inl qb),h81,h86];rfl)
  | (rw [tbb (.inl qb),h81];simp only [aA,aB,aC,Bool.and_false])
  | (rw [tbb (.inl qb),h81];rfl)
  | (rw [tbb (.inr (.inl qb)),h81,h86];simp only [aA,aB,aC,Bool.and_false])
  | (rw [tbb (.inr (.inl qb)),h81,h86];rfl)
  | (rw [tbb (.inr (.inl qb)),h81];simp only [aA,aB,aC,Bool.and_false])
  | (rw [tbb (.inr (.inl qb)),h81];rfl)
  | (rw [tbb (.inr (.inr (.inl qb))),h81,h86];simp only [aA,aB,aC,Bool.and_false])
  | (rw [tbb (.inr (.inr (.inl qb))),h81,h86];rfl)
  | (rw [tbb (.inr (.inr (.inl qb))),h81];simp only [aA,aB,aC,Bool.and_false])
  | (rw [tbb (.inr (.inr (.inl qb))),h81];rfl)
  | (rw [tbb (.inr (.inr (.inr (.inl qb)))),h81,h86];simp only [aA,aB,aC,Bool.and_false])
  | (rw [tbb (.inr (.inr (.inr (.inl qb)))),h81,h86];rfl)
  | (rw [tbb (.inr (.inr (.inr (.inl qb)))),h81];simp only [aA,aB,aC,Bool.and_false])
  | (rw [tbb (.inr (.inr (.inr (.inl qb)))),h81];rfl)
  | (rw [tbb (.inr (.inr (.inr (.inr qb)))),h81,h86];simp only [aA,aB,aC,Bool.and_false])
  | (rw [tbb (.inr (.inr (.inr (.inr qb)))),h81,h86];rfl)
  | (rw [tbb (.inr (.inr (.inr (.inr qb)))),h81];simp only [aA,aB,aC,Bool.and_false])
  | (rw [tbb (.inr (.inr (.inr (.inr qb)))),h81];rfl)
  | (rw [tbn q1 q4 q585 q588 q6 q9 qb11 qb12 qb13 qb14 qb15])
theorem cD0 {op:UInt8} :decide ((16:Int)<=((op.toNat:Nat):Int))=decide (16<=op.toNat):=by rw [aU,aD,aD];omega
theorem cC7 {op:UInt8} :decide (((op.toNat:Nat):Int)<=21)=decide (op.toNat<=21):=by rw [aU,aD,aD];omega
theorem gO {op:UInt8} {nm:Str} {n:Int64} {args:List Ex} :HV (.mk op nm n args)=(decide (16<=op.toNat) && decide (op.toNat<=21) && decide (nm=[]) && decide (n=0) && (args.all dS && decide (args.length=2))):=by rw [<-vH];rfl
theorem aJ6 (H:Hp) (e:Ex) (cs:List Value) (w:World) (h:Rep H (dEx .u8 e) cs) (hA:Agr H w):Calls prg 80 #[.agg cs.toArray] w λr w'=>r=.returned (.bool (HV e))/\Ext w w':=by
 obtain ⟨op,nm,nn,args⟩:=e;obtain ⟨pp,c,rfl,hs,hnm⟩:=fX h;refine Sx.enter (H:=H) func80 rfl ntmps80 rfl hA ?_;refine .sr<|.bx Z Z Z λb1=>.a Z Z<|.ns<|.fA Z iI<|.lD Z kW Hm Z<|.yw (.cast (.geq Z Z) (congrArg Value.bool (cD0)))<|.mv Z<|.b2 (λh6=>?_) (λh6=>?_)
 ·refine .gy (.fieldAddr Z iI)<|.gy (.load Z kW Hm Z)<|.gy (.cast (.leq Z Z) (congrArg Value.bool (cC7)))<|.yw (.pickT Z Z)<|.mv Z<|.b2 (λh11=>?_) (λh11=>?_)
  ·refine .gy (.fieldAddr Z gM)<|.gy (.load Z cP Hm Z)<|.gy (.eqS Z Z)<|.yw (.pickT Z Z)<|.mv Z<|.b2 (λh16=>?_) (λh16=>?_)
   ·refine .gy (.fieldAddr Z gZ)<|.gy (.load Z eS Hm Z)<|.gy (.cast (.eql Z Z) (congrArg Value.bool i0))<|.yw (.pickT Z Z)<|.mv Z<|.b2 (λh21=>?_) (λh21=>?_)
    ·refine .gy (.loadW Z eC Hm Z)<|.gy (.call qR Z (λW s=>mU H op nm nn args 2 _ W h (λa _=>zX H a) s.agr))<|.yw (.pickT Z Z)<|.az Z<|?_
     refine y9 Z Z λW s=>⟨?_,s.ext⟩
     first
      | (rw [gO,h6,h11,h16,h21];simp only [aA,aB,aC,Bool.and_false])
      | (rw [gO,h6,h11,h16,h21];rfl)
      | (rw [gO,h6,h11,h16];simp only [aA,aB,aC,Bool.and_false])
      | (rw [gO,h6,h11,h16];rfl)
      | (rw [gO,h6,h11];simp only [aA,aB,aC,Bool.and_false])
      | (rw [gO,h6,h11];rfl)
      | (rw [gO,h6];simp only [aA,aB,aC,Bool.and_false])
      | (rw [gO,h6];rfl)
    refine .gG<|.gG<|.yw (.pickF Z Z)<|.az Z<|?_
    refine y9 Z Z λW s=>⟨?_,s.ext⟩
    first
     | (rw [gO,h6,h11,h16,h21];simp only [aA,aB,aC,Bool.and_false])
     | (rw [gO,h6,h11,h16,h21];rfl)
     | (rw [gO,h6,h11,h16];simp only [aA,aB,aC,Bool.and_false])
     | (rw [gO,h6,h11,h16];rfl)
     | (rw [gO,h6,h11];simp only [aA,aB,aC,Bool.and_false])
     | (rw [gO,h6,h11];rfl)
     | (rw [gO,h6];simp only [aA,aB,aC,Bool.and_false])
     | (rw [gO,h6];rfl)
   refine .gG<|.gG<|.gG<|.yw (.pickF Z Z)<|.mv Z<|.gG<|.gG<|.yw (.pickF Z Z)<|.az Z<|?_
   refine y9 Z Z λW s=>⟨?_,s.ext⟩
   first
    | (rw [gO,h6,h11,h16,h21];simp only [aA,aB,aC,Bool.and_false])
    | (rw [gO,h6,h11,h16,h21];rfl)
    | (rw [gO,h6,h11,h16];simp only [aA,aB,aC,Bool.and_false])
    | (rw [gO,h6,h11,h16];rfl)
    | (rw [gO,h6,h11];simp only [aA,aB,aC,Bool.and_false])
    | (rw [gO,h6,h11];rfl)
    | (rw [gO,h6];simp only [aA,aB,aC,Bool.and_false])
    | (rw [gO,h6];rfl)
  refine .gG<|.gG<|.gG<|.yw (.pickF Z Z)<|.mv Z<|.gG<|.gG<|.gG<|.yw (.pickF Z Z)<|.mv Z<|.gG<|.gG<|.yw (.pickF Z Z)<|.az Z<|?_
  refine y9 Z Z λW s=>⟨?_,s.ext⟩
  first
   | (rw [gO,h6,h11,h16,h21];simp only [aA,aB,aC,Bool.and_false])
   | (rw [gO,h6,h11,h16,h21];rfl)
   | (rw [gO,h6,h11,h16];simp only [aA,aB,aC,Bool.and_false])
   | (rw [gO,h6,h11,h16];rfl)
   | (rw [gO,h6,h11];simp only [aA,aB,aC,Bool.and_false])
   | (rw [gO,h6,h11];rfl)
   | (rw [gO,h6];simp only [aA,aB,aC,Bool.and_false])
   | (rw [gO,h6];rfl)
 refine .gG<|.gG<|.gG<|.yw (.pickF Z Z)<|.mv Z<|.gG<|.gG<|.gG<|.yw (.pickF Z Z)<|.mv Z<|.gG<|.gG<|.gG<|.yw (.pickF Z Z)<|.mv Z<|.gG<|.gG<|.yw (.pickF Z Z)<|.az Z<|?_
 refine y9 Z Z λW s=>⟨?_,s.ext⟩
 first
  | (rw [gO,h6,h11,h16,h21];simp only [aA,aB,aC,Bool.and_false])
  | (rw [gO,h6,h11,h16,h21];rfl)
  | (rw [gO,h6,h11,h16];simp only [aA,aB,aC,Bool.and_false])
  | (rw [gO,h6,h11,h16];rfl)
  | (rw [gO,h6,h11];simp only [aA,aB,aC,Bool.and_false])
  | (rw [gO,h6,h11];rfl)
  | (rw [gO,h6];simp only [aA,aB,aC,Bool.and_false])
  | (rw [gO,h6];rfl)
def aE4 (e:Ex):Bool:=!BG e && !dS e
theorem aZ1 {e:Ex} :aE4 e=(!BG e && !dS e):=rfl
theorem VT (H:Hp) (e:Ex):EFn H 77 [] aE4 e:=by
 intro cs w h hA;obtain ⟨op,nm,nn,args⟩:=e;obtain ⟨pp,c,rfl,hs,hnm⟩:=fX h;refine Sx.enter (H:=H) func77 rfl ntmps77 rfl hA ?_;refine .sr<|.bx Z Z Z λb1=>.a Z Z<|.ns<|.yw (.loadW Z eC Hm Z)<|.yw (.call aN5 Z (λW s=>aJ7 H _ _ W h s.agr))<|.yw (.not Z)<|.mv Z<|.b2 (λh6=>?_) (λh6=>?_)
 ·refine .gy (.loadW Z eC Hm Z)<|.gy (.call CZ Z (λW s=>zX H _ _ W h s.agr))<|.gy (.not Z)<|.yw (.pickT Z Z)<|.az Z<|?_
  refine y9 Z Z λW s=>⟨?_,s.ext⟩
  first
   | (rw [aZ1,h6,aA])
   | (rw [aZ1,h6];rfl)
 refine .gG<|.gG<|.gG<|.yw (.pickF Z Z)<|.az Z<|?_
 refine y9 Z Z λW s=>⟨?_,s.ext⟩
 first
  | (rw [aZ1,h6,aA])
  | (rw [aZ1,h6];rfl)
variable {n:Nat}
theorem gtn:decide (((k:Nat):Int)<((n:Nat):Int))=decide (k<n):=by rw [aU,aD,aD];omega
theorem FP (H:Hp) (e:Ex) (n b:Nat) (hd:e.depth<=1000000) (hm:kU H b 0 [iN n]):EFn H 72 [.pointer (some ⟨b,0,none⟩)] (λe=>decide (n<e.depth)) e:=by
 intro cs w h hA;obtain ⟨op,nm,nn,args⟩:=e;obtain ⟨pp,c,rfl,hs,hnm⟩:=fX h;refine Sx.enter (H:=H) func72 rfl ntmps72 rfl hA ?_;refine .sr<|.bx Z Z Z λb2=>.aq Z<|.sq<|.fL 4 [(0,0),(1,0),(2,0),(3,0)]<|.yw (.loadW Z eC Hm Z)<|.yw (.call QH Z (λW s=>NV _ H _ W h hd s.agr))<|.yw (.loadM Z cC hm (k:=0) Z Z)<|.yw (.cast (.gtr Z Z) (congrArg Value.bool gtn))<|.fn (tl:=[_]) Z<|.az Z<|?_
 exact y9 Z Z λW s=>⟨Z,s.ext⟩
theorem HY {n:Str} (h:(fD n).isSome=true):xV n=(eN (spA n) && eN (spB n)):=by
 unfold xV spA spB;cases hs:fD n with
 | some x=>rfl
 | none=>rw [hs] at h;cases h
theorem YV {n:Str} (h:(fD n).isSome=false):xV n=false:=by
 unfold xV;cases hs:fD n with
 | none=>rfl
 | some x=>rw [hs] at h;cases h
theorem JU (n:Str):(spA n).length<=n.length:=by
 unfold spA;rcases wU n with ⟨i,_,hi,e⟩ | ⟨_,e⟩
 ·rw [e];show (n.take i).length<=_;rw [dT];omega
 ·rw [e];exact aR _
theorem JT (n:Str):(spB n).length<=n.length:=by
 unfold spB;rcases wU n with ⟨i,_,hi,e⟩ | ⟨_,e⟩
 ·rw [e];show (n.drop (i+1)).length<=_;rw [cM];omega
 ·rw [e];exact aR _
theorem wY:∀ l,JB l=l.any pI
 | []=>rfl
 | e::r=>by rw [JB,List.any_cons,wY r]
theorem rW {op:UInt8} {nm:Str} {n:Int64} {args:List Ex} (h:op=5):pI (.mk op nm n args)=((!xV nm && !eN nm) || args.any pI):=by subst h;rw [pI,wY];simp
theorem rV {op:UInt8} {nm:Str} {n:Int64} {args:List Ex} (h:op=6\/op=8):pI (.mk op nm n args)=(!xV nm || args.any pI):=by rcases h with rfl | rfl <;> (rw [pI,wY];simp)
theorem VB {op:UInt8} {nm:Str} {n:Int64} {args:List Ex} (h:¬ op=5) (h6:¬ op=6) (h8:¬ op=8):pI (.mk op nm n args)=args.any pI:=by rw [pI,wY,aM h,aM h6,aM h8];rfl
theorem SA (H:Hp) (G:Gl H) (e:Ex):EFn H 76 [] pI e:=by
 induction e using Ex.ind with | _ op nm nn args ih
 intro cs w h hA;obtain ⟨pp,c,rfl,hs,hnm⟩:=fX h;have hA':Agr H w:=hA;refine Sx.enter (H:=H) func76 rfl ntmps76 rfl hA ?_;refine .sr<|.bx Z Z Z λb1=>.a Z Z<|.ns<|.fA Z gM<|.lD Z cP Hm Z<|.yw (.call QU Z (λW s=>OO nm (by omega) W))<|.mv Z<|.yw (.extract Z Z)<|.yw (.extract Z Z)<|.yw (.extract Z Z)<|.a Z Z<|.a Z Z<|.aq Z<|.cu (X:=Bool) [(1,_)] ⟨Z,Jt⟩ (λz=>[(6,.bool z)]) (λz=>H) (λz=>[.box b1 [.int .u8 op.toNat,cH nm,.int .i64 nn.toInt,.slice pp args.length c] 76]) (λz=>z=xV nm) ?_ λz hC=>?_
 ·
  refine .rg<|.mv Z<|.mv Z<|.b2 (λh15=>?_) (λh15=>?_)
  ·refine .gy (.move Z)<|.gy (.call wO Z (λW s=>uM H G (spA nm) (by have:=JU nm;have:=JT nm;omega) W s.agr))<|.yw (.pickT Z Z)<|.mv Z<|.b2 (λh19=>?_) (λh19=>?_)
   ·exact .gy (.move Z)<|.gy (.call wO Z (λW s=>uM H G (spB nm) (by have:=JU nm;have:=JT nm;omega) W s.agr))<|.yw (.pickT Z Z)<|.aq Z<|.me _ ⟨Z,Jt⟩ ⟨Z,Jt⟩ (λ_ s=>s) (by first | (rw [HY h15,h19,aA]) | (rw [HY h15,h19];rfl) | (rw [YV h15]))
   exact .gG<|.gG<|.yw (.pickF Z Z)<|.aq Z<|.me _ ⟨Z,Jt⟩ ⟨Z,Jt⟩ (λ_ s=>s) (by first | (rw [HY h15,h19,aA]) | (rw [HY h15,h19];rfl) | (rw [YV h15]))
  exact .gG<|.gG<|.yw (.pickF Z Z)<|.mv Z<|.gG<|.gG<|.yw (.pickF Z Z)<|.aq Z<|.me _ ⟨Z,Jt⟩ ⟨Z,Jt⟩ (λ_ s=>s) (by first | (rw [HY h15,h19,aA]) | (rw [HY h15,h19];rfl) | (rw [YV h15]))
 have eb:=hC;refine .sq<|.sr<|.fA Z iI<|.lD Z kW Hm Z<|.nt<|.bk<|.sr<|.yw (.eql Z Z)<|.aq Z<|.cd Z (λh25=>?_) (λh25=>?_)
 ·have q5:op=5:=aS.1 (by have:=aJ h25;show op.toNat=5;omega);refine .sm Z<|.yw (.not Z)<|.mv Z<|.b2 (λh29=>?_) (λh29=>?_)
  ·refine .gy (.fieldAddr Z gM)<|.gy (.load Z cP Hm Z)<|.gy (.call wO Z (λW s=>uM H G nm (by have:=JU nm;have:=JT nm;omega) W s.agr))<|.gy (.not Z)<|.yw (.pickT Z Z)<|.nt<|.cd Z (λh34=>?_) (λh34=>?_)
   ·refine .sr<|.az Z<|.bR<|.tR<|?_
    refine y9 Z Z λW s=>⟨?_,s.ext⟩
    first
     | (rw [rW q5,<-eb,h29,h34];rfl)
     | (rw [rW q5,<-eb,h29,h34,aQ])
     | (rw [rW q5,<-eb,h29];rfl)
     | (rw [rW q5,<-eb,h29,aB,aQ])
     | (rw [rV (.inl q68),<-eb,h39];rfl)
     | (rw [rV (.inl q68),<-eb,h39,aQ])
     | (rw [rV (.inr q68),<-eb,h39];rfl)
     | (rw [rV (.inr q68),<-eb,h39,aQ])
     | (rw [VB q5 q686 q688])
   refine .sk<|.bN<|.tN<|.sr<|.fA Z eJ<|.lD Z dQ Hm Z<|.yw (.call rJ Z (λW s=>lR H 76 [] pI args hs wN (λa ha=>ih a ha) W s.agr))<|.az Z<|?_
   refine y9 Z Z λW s=>⟨?_,s.ext⟩
   first
    | (rw [rW q5,<-eb,h29,h34];rfl)
    | (rw [rW q5,<-eb,h29,h34,aQ])
    | (rw [rW q5,<-eb,h29];rfl)
    | (rw [rW q5,<-eb,h29,aB,aQ])
    | (rw [rV (.inl q68),<-eb,h39];rfl)
    | (rw [rV (.inl q68),<-eb,h39,aQ])
    | (rw [rV (.inr q68),<-eb,h39];rfl)
    | (rw [rV (.inr q68),<-eb,h39,aQ])
    | (rw [VB q5 q686 q688])
  refine .gG<|.gG<|.gG<|.gG<|.yw (.pickF Z Z)<|.nt<|.cF Z<|.sk<|.bN<|.tN<|.sr<|.fA Z eJ<|.lD Z dQ Hm Z<|.yw (.call rJ Z (λW s=>lR H 76 [] pI args hs wN (λa ha=>ih a ha) W s.agr))<|.az Z<|?_
  refine y9 Z Z λW s=>⟨?_,s.ext⟩
  first
   | (rw [rW q5,<-eb,h29,h34];rfl)
   | (rw [rW q5,<-eb,h29,h34,aQ])
   | (rw [rW q5,<-eb,h29];rfl)
   | (rw [rW q5,<-eb,h29,aB,aQ])
   | (rw [rV (.inl q68),<-eb,h39];rfl)
   | (rw [rV (.inl q68),<-eb,h39,aQ])
   | (rw [rV (.inr q68),<-eb,h39];rfl)
   | (rw [rV (.inr q68),<-eb,h39,aQ])
   | (rw [VB q5 q686 q688])
 have q5:¬ op=5:=λe=>aP h25 (by rw [e];rfl);refine .sq<|.sr<|.yw (.eql Z Z)<|.aq Z<|.cr Z (λh35=>?_) (λh35=>?_)
 ·have q68:op=6:=aS.1 (by have:=aJ h35;show op.toNat=6;omega);refine .sk<|.tN<|.cT Z<|.sm Z<|.yw (.not Z)<|.nt<|.cd Z (λh39=>?_) (λh39=>?_)
  ·refine .sr<|.az Z<|.bR<|.tR<|?_
   refine y9 Z Z λW s=>⟨?_,s.ext⟩
   first
    | (rw [rW q5,<-eb,h29,h34];rfl)
    | (rw [rW q5,<-eb,h29,h34,aQ])
    | (rw [rW q5,<-eb,h29];rfl)
    | (rw [rW q5,<-eb,h29,aB,aQ])
    | (rw [rV (.inl q68),<-eb,h39];rfl)
    | (rw [rV (.inl q68),<-eb,h39,aQ])
    | (rw [rV (.inr q68),<-eb,h39];rfl)
    | (rw [rV (.inr q68),<-eb,h39,aQ])
    | (rw [VB q5 q686 q688])
  refine .sk<|.bN<|.tN<|.sr<|.fA Z eJ<|.lD Z dQ Hm Z<|.yw (.call rJ Z (λW s=>lR H 76 [] pI args hs wN (λa ha=>ih a ha) W s.agr))<|.az Z<|?_
  refine y9 Z Z λW s=>⟨?_,s.ext⟩
  first
   | (rw [rW q5,<-eb,h29,h34];rfl)
   | (rw [rW q5,<-eb,h29,h34,aQ])
   | (rw [rW q5,<-eb,h29];rfl)
   | (rw [rW q5,<-eb,h29,aB,aQ])
   | (rw [rV (.inl q68),<-eb,h39];rfl)
   | (rw [rV (.inl q68),<-eb,h39,aQ])
   | (rw [rV (.inr q68),<-eb,h39];rfl)
   | (rw [rV (.inr q68),<-eb,h39,aQ])
   | (rw [VB q5 q686 q688])
 have q686:¬ op=6:=λe=>aP h35 (by rw [e];rfl);refine .rg<|.yw (.eql Z Z)<|.aq Z<|.cr Z (λh35=>?_) (λh35=>?_)
 ·have q68:op=8:=aS.1 (by have:=aJ h35;show op.toNat=8;omega);refine .sm Z<|.yw (.not Z)<|.nt<|.cd Z (λh39=>?_) (λh39=>?_)
  ·refine .sr<|.az Z<|.bR<|.tR<|?_
   refine y9 Z Z λW s=>⟨?_,s.ext⟩
   first
    | (rw [rW q5,<-eb,h29,h34];rfl)
    | (rw [rW q5,<-eb,h29,h34,aQ])
    | (rw [rW q5,<-eb,h29];rfl)
    | (rw [rW q5,<-eb,h29,aB,aQ])
    | (rw [rV (.inl q68),<-eb,h39];rfl)
    | (rw [rV (.inl q68),<-eb,h39,aQ])
    | (rw [rV (.inr q68),<-eb,h39];rfl)
    | (rw [rV (.inr q68),<-eb,h39,aQ])
    | (rw [VB q5 q686 q688])
  refine .sk<|.bN<|.tN<|.sr<|.fA Z eJ<|.lD Z dQ Hm Z<|.yw (.call rJ Z (λW s=>lR H 76 [] pI args hs wN (λa ha=>ih a ha) W s.agr))<|.az Z<|?_
  refine y9 Z Z λW s=>⟨?_,s.ext⟩
  first
   | (rw [rW q5,<-eb,h29,h34];rfl)
   | (rw [rW q5,<-eb,h29,h34,aQ])
   | (rw [rW q5,<-eb,h29];rfl)
   | (rw [rW q5,<-eb,h29,aB,aQ])
   | (rw [rV (.inl q68),<-eb,h39];rfl)
   | (rw [rV (.inl q68),<-eb,h39,aQ])
   | (rw [rV (.inr q68),<-eb,h39];rfl)
   | (rw [rV (.inr q68),<-eb,h39,aQ])
   | (rw [VB q5 q686 q688])
 have q688:¬ op=8:=λe=>aP h35 (by rw [e];rfl);refine .sk<|.bN<|.tN<|.sr<|.fA Z eJ<|.lD Z dQ Hm Z<|.yw (.call rJ Z (λW s=>lR H 76 [] pI args hs wN (λa ha=>ih a ha) W s.agr))<|.az Z<|?_
 refine y9 Z Z λW s=>⟨?_,s.ext⟩
 first
  | (rw [rW q5,<-eb,h29,h34];rfl)
  | (rw [rW q5,<-eb,h29,h34,aQ])
  | (rw [rW q5,<-eb,h29];rfl)
  | (rw [rW q5,<-eb,h29,aB,aQ])
  | (rw [rV (.inl q68),<-eb,h39];rfl)
  | (rw [rV (.inl q68),<-eb,h39,aQ])
  | (rw [rV (.inr q68),<-eb,h39];rfl)
  | (rw [rV (.inr q68),<-eb,h39,aQ])
  | (rw [VB q5 q686 q688])
def FFn (H:Hp) (gf:FuncId) (q:Fm->Bool) (f:Fm):Prop:=∀ (cs:List Value) (W:World),Rep H (dFm .u8 f) cs->Agr H W->Calls prg gf #[.agg cs.toArray] W λr W'=>r=.returned (.bool (q f))/\Ext W W'
theorem aE7 (q:Fm->Bool):∀ l,Fm.alls q l=l.all (Fm.all q)
 | []=>rfl
 | f::r=>by rw [Fm.alls,eY,aE7 q r]
theorem yH (q:Fm->Bool) (op:UInt8) (nm fd:Str) (a b:Int64) (ex:List Ex) (args:List Fm):Fm.all q (.mk op nm fd a b ex args)=(q (.mk op nm fd a b ex args) && args.all (Fm.all q)):=by rw [Fm.all,aE7]
theorem CS {l:List Fm} {p:Fm->Bool} (hk:k<l.length) (h:(l.take k).all p=true) (hp:p l[k]=true):(l.take (k+1)).all p=true:=by
 rw [List.take_succ,List.all_append,h,List.getElem?_eq_getElem hk];simp [hp]
theorem tX {l:List Fm} {p:Fm->Bool} (hk:k<l.length) (hp:p l[k]=false):l.all p=false:=List.all_eq_false.2 ⟨_,bI hk,by rw [hp];decide⟩
theorem HS (H:Hp) (gf:FuncId) (q p:Fm->Bool) (hf:cZ prg gf=true) (hg:∀ f,p f=true->FFn H gf q f) (f:Fm):f.all p=true->∀ (cs:List Value) (w:World),Rep H (dFm .u8 f) cs->Agr H w ->
 Calls prg 35 #[.agg cs.toArray,.func (.func gf) #[] #[]] w λr w'=>r=.returned (.bool (f.all q))/\Ext w w':=by
 induction f using Fm.ind with | _ op nm fd a b ex args ih
 intro hp cs w h hA;rw [yH,aF] at hp;obtain ⟨p1,c1,p2,c2,rfl,hs1,hs2,hnm,hfd⟩:=gR h;have hcap:=hs2.cap;refine Sx.enter (H:=H) func35 rfl ntmps35 rfl hA ?_;refine .sr<|.bx Z Z Z λb2=>.aq Z<|.sq<|.sm Z<|.yw (.loadW Z cQ Hm Z)<|.yw (.callV (fi:=[]) (ca:=[]) Z hf Z (λW s=>hg _ hp.1 _ W h s.agr))<|.yw (.not Z)<|.nt<|.cd Z (λh10=>?_) (λh10=>?_)
 ·refine .sr<|.az Z<|.tR<|?_
  refine y9 Z Z λW s=>⟨?_,s.ext⟩
  first
   | (rw [yH,show q (.mk op nm fd a b ex args)=false by simpa using h10];rfl)
   | (rw [yH,tX hk (by simpa using h21)];simp)
   | (rw [yH,hal,show q (.mk op nm fd a b ex args)=true by simpa using h10];rfl)
 refine .sk<|.tN<|.sq<|.sr<|.fA Z hI<|.lD Z qS Hm Z<|.yw (.lenSl qD Z)<|.mv Z<|.nt<|.bk<|.lp (X:=Nat) [(1,_),(12,_),(13,_)] ⟨Z,Z,Z,Jt⟩ [_] (λk=>[(14,iN k)]) (λk=>H) (λk=>[]) (λk=>k<=args.length/\(args.take k).all (Fm.all q)=true) (λk=>args.length - k) 0 (λ_ s=>s) ⟨Z,Jt⟩ ⟨aR _,Z⟩ λk hC=>?_
 obtain ⟨hk0,hal⟩:=hC;refine .sr<|.yw (.lss Z Z)<|.nt<|.sq<|.ce Z (λh15=>?_) (λh15=>?_)
 ·have hk:k<args.length:=by omega
  obtain ⟨bE,oE,cE,hpE,rE,lE,mE⟩:=hs2.elem (fW (f:=dFm .u8) hk);cases hpE;have hpk:=bC.1 hp.2 _ (bI hk);refine .sk<|.tN<|.sq<|.bk<|.sr<|.yw (.indexSl qD Z Z Z (by omega) (q:=oE+k * 7) Z)<|.yw (.loadMW Z cQ mE lE)<|.al fV Z λb6=>.sV .head Z Z dM lE rE.one Z<|.ns<|.yw (.loadW Z cQ Hm lE)<|.mv Z<|.yw (.call DC Z (λW s=>ih _ (bI hk) hpk cE W rE s.agr))<|.yw (.not Z)<|.nt<|.cd Z (λh21=>?_) (λh21=>?_)
  ·refine .sr<|.az Z<|.bR<|.tR<|.tR<|.bR<|.tR<|?_
   refine y9 Z Z λW s=>⟨?_,s.ext⟩
   first
    | (rw [yH,show q (.mk op nm fd a b ex args)=false by simpa using h10];rfl)
    | (rw [yH,tX hk (by simpa using h21)];simp)
    | (rw [yH,hal,show q (.mk op nm fd a b ex args)=true by simpa using h10];rfl)
  exact .sk<|.bN<|.tN<|.rg<|.yw (.add Z Z w7)<|.mv Z<|.nt<|.ag (k+1) ⟨Z,Jt⟩ ⟨Z,Z,Z,Jt⟩ (λ_ s=>s.pick [1] [_] Z Z) ⟨by omega,CS hk hal (by simpa using h21)⟩ (by omega)
 obtain rfl:k=args.length:=by omega
 rw [aZ] at hal;refine .ex<|.eb<|.sr<|.az Z<|?_
 refine y9 Z Z λW s=>⟨?_,s.ext⟩
 first
  | (rw [yH,show q (.mk op nm fd a b ex args)=false by simpa using h10];rfl)
  | (rw [yH,tX hk (by simpa using h21)];simp)
  | (rw [yH,hal,show q (.mk op nm fd a b ex args)=true by simpa using h10];rfl)
theorem UH (H:Hp) (f:Fm) (hd:(λf:Fm=>f.ex.all λe=>decide (e.depth<=1000000)) f=true):FFn H 36 oS f:=by
 intro cs w h hA;obtain ⟨op,nm,fd,a,b,ex,args⟩:=f;obtain ⟨p1,c1,p2,c2,rfl,hs1,hs2,hnm,hfd⟩:=gR h;refine Sx.enter (H:=H) func36 rfl ntmps36 rfl hA ?_;refine .sr<|.bx Z Z Z λb1=>.a Z Z<|.ns<|.al bE2 Z λb3=>.st .head Z Z iH Z (nb Z) Z<|.nt<|.sq<|.sr<|.fA Z gC<|.lD Z kX dC Z<|.yw (.eql Z Z)<|.nt<|.cd Z (λh6=>?_) (λh6=>?_)
 ·have q3:op=3:=aS.1 (by have:=aJ h6;show op.toNat=3;omega);refine .rg<|.lD Z cC Hm Z<|.yw (.add Z Z (c:=((9:Nat):Int)) (by decide))<|.st .head Z Z iH Z (nb Z) Z<|.nt<|.sq<|?_
  refine yW λH1 u1 m1=>?_;refine .rg<|.fA Z cY<|.lD Z dQ Hm Z<|.yw (.mkF Z Z)<|.yw (.call rJ Z (λW s=>lR H1 72 [.pointer (some ⟨b3,0,none⟩)] (λe=>decide (9<e.depth)) ex (hs1.up u1.up) QI (λa ha=>FP H1 a 9 b3 (by have:=bC.1 hd a ha;exact aJ this) m1) W s.agr))<|.yw (.not Z)<|.az Z<|?_
  refine y9 Z Z λW s=>⟨?_,s.ext⟩
  first
   | (unfold oS;rw [show (Fm.mk op nm fd a b ex args).op=3 from q3];rfl)
   | (unfold oS;simp only [show ¬ (Fm.mk op nm fd a b ex args).op=3 from q3,aW];rfl)
 have q3:¬ op=3:=λe=>aP h6 (by rw [e];rfl);refine .sk<|.tN<|.sq<|?_
 refine yW λH1 u1 m1=>?_;refine .rg<|.fA Z cY<|.lD Z dQ Hm Z<|.yw (.mkF Z Z)<|.yw (.call rJ Z (λW s=>lR H1 72 [.pointer (some ⟨b3,0,none⟩)] (λe=>decide (8<e.depth)) ex (hs1.up u1.up) QI (λa ha=>FP H1 a 8 b3 (by have:=bC.1 hd a ha;exact aJ this) m1) W s.agr))<|.yw (.not Z)<|.az Z<|?_
 refine y9 Z Z λW s=>⟨?_,s.ext⟩
 first
  | (unfold oS;rw [show (Fm.mk op nm fd a b ex args).op=3 from q3];rfl)
  | (unfold oS;simp only [show ¬ (Fm.mk op nm fd a b ex args).op=3 from q3,aW];rfl)
variable {a:Int64}
theorem LO {op:UInt8} {nm fd:Str} {b:Int64} {ex:List Ex} {args:List Fm} :rU (.mk op nm fd a b ex args)=(!((cS op).nm && !eN nm || (cS op).fd && !eN fd) && !ex.any pI):=by rw [<-wY];rfl
theorem aJ0 (H:Hp) (G:Gl H) (Gt:Gf H) (f:Fm):FFn H 37 rU f:=by
 intro cs w h hA;obtain ⟨op,nm,fd,a,b,ex,args⟩:=f;obtain ⟨p1,c1,p2,c2,rfl,hs1,hs2,hnm,hfd⟩:=gR h;refine Sx.enter (H:=H) func37 rfl ntmps37 rfl hA ?_;refine .sr<|.bx Z Z Z λb1=>.a Z Z<|.ns<|.fA Z gC<|.lD Z kX Hm Z<|.yw (.call (v:=.agg (fsC (cS op)).toArray) rI Z (λW s=>oY H Gt op W s.agr))<|.al ES Z λb3=>.sW .head Z Z AI (by simp [fsC,Value.oneCell',cH]) Z<|.nt<|.sq<|.cu (X:=Bool) [(1,_)] ⟨Z,Jt⟩ (λz=>[(24,.bool z)]) (λz=>H) (λz=>[.box b3 (fsC (cS op)) 157,.box b1 [.int .u8 op.toNat,cH nm,cH fd,.int .i64 a.toInt,.int .i64 b.toInt,.slice p1 ex.length c1,.slice p2 args.length c2] 35]) (λz=>z=((cS op).nm && !eN nm || (cS op).fd && !eN fd)) ?_ λz hC=>?_
 ·
  refine .rg<|.fA Z DW<|.lD Z jO Hm Z<|.mv Z<|.b2 (λh9=>?_) (λh9=>?_)
  ·refine .gy (.fieldAddr Z kJ)<|.gy (.load Z cP dC Z)<|.gy (.call wO Z (λW s=>uM H G nm (by omega) W s.agr))<|.gy (.not Z)<|.yw (.pickT Z Z)<|.mv Z<|.b2 (λh15=>?_) (λh15=>?_)
   ·exact .gG<|.gG<|.gG<|.gV<|.gV<|.gV<|.gV<|.gG<|.yw (.pickT Z Z)<|.nt<|.me _ ⟨Z,Jt⟩ ⟨Z,Jt⟩ (λ_ s=>s) (by first | simp only [h9,h15,h18,aA,aB,Bool.true_or,aQ] | simp only [h9,h15,aA,aB,Bool.true_or,aQ] | simp only [h9,h18,aA,aB,Bool.true_or,aQ])
   refine .gy (.fieldAddr Z vD)<|.gy (.load Z jO Hm Z)<|.gy (.move Z)<|.b2 (λh18=>?_) (λh18=>?_)
   ·exact .gy (.fieldAddr Z kI)<|.gy (.load Z cP dC Z)<|.gy (.call wO Z (λW s=>uM H G fd (by omega) W s.agr))<|.gy (.not Z)<|.gy (.pickT Z Z)<|.yw (.pickF Z Z)<|.nt<|.me _ ⟨Z,Jt⟩ ⟨Z,Jt⟩ (λ_ s=>s) (by first | simp only [h9,h15,h18,aA,aB,Bool.true_or,aQ] | simp only [h9,h15,aA,aB,Bool.true_or,aQ] | simp only [h9,h18,aA,aB,Bool.true_or,aQ])
   exact .gG<|.gG<|.gG<|.gG<|.gy (.pickF Z Z)<|.yw (.pickF Z Z)<|.nt<|.me _ ⟨Z,Jt⟩ ⟨Z,Jt⟩ (λ_ s=>s) (by first | simp only [h9,h15,h18,aA,aB,Bool.true_or,aQ] | simp only [h9,h15,aA,aB,Bool.true_or,aQ] | simp only [h9,h18,aA,aB,Bool.true_or,aQ])
  refine .gG<|.gG<|.gG<|.gG<|.yw (.pickF Z Z)<|.mv Z<|.gy (.fieldAddr Z vD)<|.gy (.load Z jO Hm Z)<|.gy (.move Z)<|.b2 (λh18=>?_) (λh18=>?_)
  ·exact .gy (.fieldAddr Z kI)<|.gy (.load Z cP dC Z)<|.gy (.call wO Z (λW s=>uM H G fd (by omega) W s.agr))<|.gy (.not Z)<|.gy (.pickT Z Z)<|.yw (.pickF Z Z)<|.nt<|.me _ ⟨Z,Jt⟩ ⟨Z,Jt⟩ (λ_ s=>s) (by first | simp only [h9,h15,h18,aA,aB,Bool.true_or,aQ] | simp only [h9,h15,aA,aB,Bool.true_or,aQ] | simp only [h9,h18,aA,aB,Bool.true_or,aQ])
  exact .gG<|.gG<|.gG<|.gG<|.gy (.pickF Z Z)<|.yw (.pickF Z Z)<|.nt<|.me _ ⟨Z,Jt⟩ ⟨Z,Jt⟩ (λ_ s=>s) (by first | simp only [h9,h15,h18,aA,aB,Bool.true_or,aQ] | simp only [h9,h15,aA,aB,Bool.true_or,aQ] | simp only [h9,h18,aA,aB,Bool.true_or,aQ])
 have en:=hC;refine .cd Z (λh24=>?_) (λh24=>?_)
 ·refine .sr<|.az Z<|.tR<|?_
  refine y9 Z Z λW s=>⟨?_,s.ext⟩
  first
   | (rw [LO,<-en,h24];rfl)
   | (rw [LO,<-en,h24,Bool.not_false,aA])
 refine .sk<|.tN<|.sr<|.fA Z cY<|.lD Z dQ dC Z<|.yw (.call rJ Z (λW s=>lR H 76 [] pI ex hs1 wN (λa _=>SA H G a) W s.agr))<|.yw (.not Z)<|.az Z<|?_
 refine y9 Z Z λW s=>⟨?_,s.ext⟩
 first
  | (rw [LO,<-en,h24];rfl)
  | (rw [LO,<-en,h24,Bool.not_false,aA])
theorem BW (op:UInt8):(cS op).ar<=2/\(cS op).ex<=1:=oD (q:=λop=>(cS op).ar<=2/\(cS op).ex<=1) (by decide +kernel) op
theorem nn0:decide (¬ ((n:Nat):Int)=((k:Nat):Int))=!decide (n=k):=by rw [<-n0,decide_not]
theorem le4:decide (((n:Nat):Int)<=4)=decide (n<=4):=by rw [aU,aD,aD];omega
theorem KE {op:UInt8} {nm fd:Str} {b:Int64} {ex:List Ex} {args:List Fm} :jQ (.mk op nm fd a b ex args)=(decide (¬ (cS op).lv=0) && ((cS op).nm || decide (nm=[])) && ((cS op).fd || decide (fd=[])) && decide (args.length=(cS op).ar) && CB (.mk op nm fd a b ex args) && uN (.mk op nm fd a b ex args)):=rfl
theorem oK {op:UInt8} {nm fd:Str} {b:Int64} {ex:List Ex} {args:List Fm} (h:(decide ((cS op).lv=0) || (!(cS op).nm && !decide (nm=[])) || (!(cS op).fd && !decide (fd=[])) || !decide (args.length=(cS op).ar))=true):jQ (.mk op nm fd a b ex args)=false:=by
 rw [KE,decide_not];generalize decide ((cS op).lv=0)=x1 at *;generalize (cS op).nm=x2 at *;generalize decide (nm=[])=x3 at *;generalize (cS op).fd=x4 at *;generalize decide (fd=[])=x5 at *;generalize decide (args.length=(cS op).ar)=x6 at *;generalize CB (.mk op nm fd a b ex args)=x7;generalize uN (.mk op nm fd a b ex args)=x8
 revert h
 cases x1 <;> cases x2 <;> cases x3 <;> cases x4 <;> cases x5 <;> cases x6 <;> simp
theorem eP {op:UInt8} {nm fd:Str} {b:Int64} {ex:List Ex} {args:List Fm} (h:CB (.mk op nm fd a b ex args)=false):jQ (.mk op nm fd a b ex args)=false:=by rw [KE,h,Bool.and_false,aB]
theorem cJ {op:UInt8} {nm fd:Str} {b:Int64} {ex:List Ex} {args:List Fm} (h:(decide ((cS op).lv=0) || (!(cS op).nm && !decide (nm=[])) || (!(cS op).fd && !decide (fd=[])) || !decide (args.length=(cS op).ar))=false) (hb:CB (.mk op nm fd a b ex args)=true):jQ (.mk op nm fd a b ex args)=uN (.mk op nm fd a b ex args):=by
 rw [KE,decide_not,hb];generalize decide ((cS op).lv=0)=x1 at *;generalize (cS op).nm=x2 at *;generalize decide (nm=[])=x3 at *;generalize (cS op).fd=x4 at *;generalize decide (fd=[])=x5 at *;generalize decide (args.length=(cS op).ar)=x6 at *
 revert h
 cases x1 <;> cases x2 <;> cases x3 <;> cases x4 <;> cases x5 <;> cases x6 <;> simp
theorem bV2 {n:Int64} :(n=0)=(n.toInt=0):=by have:=@i0 n;rw [aU,aD,aD] at this;exact propext this.symm
theorem nA {op:UInt8} {nm fd:Str} {b:Int64} {ex:List Ex} {args:List Fm} (h:(cS op).wn=true):CB (.mk op nm fd a b ex args)=decide ((a.toInt=0/\b.toInt=-1)\/(0<=a.toInt/\a.toInt<=b.toInt/\b.toInt<=200)):=by
 unfold CB;rw [aO (show (cS (Fm.mk op nm fd a b ex args).op).wn=true from h),aU];show ((decide (a=0) && decide (b.toInt=-1)) || (decide (0<=a.toInt) && decide (a.toInt<=b.toInt) && decide (b.toInt<=200)))=true↔_;rw [aT,aF,aF,aF,aD,aD,aD,aD,aD,aD,bV2];omega
theorem nD {op:UInt8} {nm fd:Str} {b:Int64} {ex:List Ex} {args:List Fm} (h:(cS op).wn=false) (h2:(cS op).am=true):CB (.mk op nm fd a b ex args)=decide (-1000000<=a.toInt/\a.toInt<=b.toInt/\b.toInt<=1000000/\b.toInt - a.toInt<32):=by
 unfold CB;rw [aG (show ¬ (cS (Fm.mk op nm fd a b ex args).op).wn=true by show ¬ (cS op).wn=true;rw [h];decide),aO (show (cS (Fm.mk op nm fd a b ex args).op).am=true from h2),aU];show (decide (-1000000<=a.toInt) && decide (a.toInt<=b.toInt) && decide (b.toInt<=1000000) && decide (b.toInt - a.toInt<32))=true↔_;rw [aF,aF,aF,aD,aD,aD,aD,aD];omega
theorem nB {op:UInt8} {nm fd:Str} {b:Int64} {ex:List Ex} {args:List Fm} (h:(cS op).wn=false) (h2:(cS op).am=false):CB (.mk op nm fd a b ex args)=decide (a.toInt=0/\b.toInt=0):=by
 unfold CB;rw [aG (show ¬ (cS (Fm.mk op nm fd a b ex args).op).wn=true by show ¬ (cS op).wn=true;rw [h];decide),aG (show ¬ (cS (Fm.mk op nm fd a b ex args).op).am=true by show ¬ (cS op).am=true;rw [h2];decide),aU];show (decide (a=0) && decide (b=0))=true↔_;rw [aF,aD,aD,aD,bV2,bV2]
theorem rD {l:List Ex} :(!l.any aE4)=l.all λe=>BG e || dS e:=by
 induction l with
 | nil=>rfl
 | cons e r ih=>rw [List.any_cons,eY,<-ih,aZ1];cases BG e <;> cases dS e <;> simp
theorem uE {op:UInt8} {nm fd:Str} {b:Int64} {ex:List Ex} {args:List Fm} (h:op=7):uN (.mk op nm fd a b ex args)=(decide (ex.length<=4) && ex.all λe=>BG e || dS e):=by unfold uN;rw [aO (show (Fm.mk op nm fd a b ex args).op=7 from h)];rfl
theorem aK9 {op:UInt8} {nm fd:Str} {b:Int64} {ex:List Ex} {args:List Fm} (h:¬ op=7):uN (.mk op nm fd a b ex args)=(decide (ex.length=(cS op).ex) && (if op=3 then HV (ex.headD (.mk 0 [] 0 [])) else if op=5 then dS (ex.headD (.mk 0 [] 0 [])) else if op=18 then decide ((ex.headD (.mk 0 [] 0 [])).op=1) && dS (ex.headD (.mk 0 [] 0 [])) && decide ((ex.headD (.mk 0 [] 0 [])).n.toInt<=32) else true)):=by unfold uN;rw [aG (show ¬ (Fm.mk op nm fd a b ex args).op=7 from h)];rfl
theorem DF {op:UInt8} {nm fd:Str} {b:Int64} {ex:List Ex} {args:List Fm} (h:¬ op=7) (h2:¬ ex.length=(cS op).ex):uN (.mk op nm fd a b ex args)=false:=by rw [aK9 h,aM h2];rfl
theorem HQ {op:UInt8} {nm fd:Str} {b:Int64} {ex:List Ex} {args:List Fm} (h:¬ op=7) (h2:ex.length=(cS op).ex) (h3:¬ op=3) (h5:¬ op=5) (h18:¬ op=18):uN (.mk op nm fd a b ex args)=true:=by rw [aK9 h,aK h2,aG h3,aG h5,aG h18];rfl
theorem yX {op:UInt8} {nm fd:Str} {b:Int64} {args:List Fm} {e0:Ex} (h:op=3):uN (.mk op nm fd a b [e0] args)=HV e0:=by subst h;rw [aK9 (by decide),aO rfl];rfl
theorem GM {op:UInt8} {nm fd:Str} {b:Int64} {args:List Fm} {e0:Ex} (h:op=5):uN (.mk op nm fd a b [e0] args)=dS e0:=by subst h;rw [aK9 (by decide),aG (by decide),aO rfl];rfl
theorem jR {op:UInt8} {nm fd:Str} {b:Int64} {args:List Fm} {op0:UInt8} {nm0:Str} {m0:Int64} {args0:List Ex} (h:op=18):uN (.mk op nm fd a b [.mk op0 nm0 m0 args0] args)=(decide (((op0.toNat:Nat):Int)=1) && dS (.mk op0 nm0 m0 args0) && decide (m0.toInt<=32)):=by subst h;rw [aK9 (by decide),aG (by decide),aG (by decide),aO rfl,k81];rfl
set_option maxHeartbeats 2000000 in
theorem YI (H:Hp) (Gt:Gf H) (f:Fm):FFn H 38 jQ f:=by
 intro cs w h hA;obtain ⟨op,nm,fd,a,b,ex,args⟩:=f;obtain ⟨p1,c1,p2,c2,rfl,hs1,hs2,hnm,hfd⟩:=gR h;have hcap:=hs1.cap;have hcap2:=hs2.cap;refine Sx.enter (H:=H) func38 rfl ntmps38 rfl hA ?_;refine .sr<|.bx Z Z Z λb1=>.a Z Z<|.ns<|.fA Z gC<|.lD Z kX Hm Z<|.yw (.call (v:=.agg (fsC (cS op)).toArray) rI Z (λW s=>oY H Gt op W s.agr))<|.al ES Z λb3=>.sW .head Z Z AI (by simp [fsC,Value.oneCell',cH]) Z<|.nt<|.sq<|.cu (X:=Bool) [(1,_),(3,_)] ⟨Z,Z,Jt⟩ (λz=>[(38,.bool z)]) (λz=>H) (λz=>[.box b3 (fsC (cS op)) 157,.box b1 [.int .u8 op.toNat,cH nm,cH fd,.int .i64 a.toInt,.int .i64 b.toInt,.slice p1 ex.length c1,.slice p2 args.length c2] 35]) (λz=>z=(decide ((cS op).lv=0) || (!(cS op).nm && !decide (nm=[])) || (!(cS op).fd && !decide (fd=[])) || !decide (args.length=(cS op).ar))) ?_ λz hC=>?_
 ·
  refine .rg<|.fA Z OE<|.lD Z iP Hm Z<|.yw (.cast (.eql Z Z) (congrArg Value.bool er0))<|.mv Z<|.b2 (λh10=>?_) (λh10=>?_)
  ·exact .gG<|.gG<|.gG<|.gG<|.gV<|.gV<|.gV<|.gG<|.yw (.pickT Z Z)<|.mv Z<|.gG<|.gG<|.gG<|.gG<|.gV<|.gV<|.gV<|.gG<|.yw (.pickT Z Z)<|.mv Z<|.gG<|.gG<|.gG<|.gG<|.gG<|.gG<|.gG<|.yw (.pickT Z Z)<|.nt<|.me _ ⟨Z,Jt⟩ ⟨Z,Z,Jt⟩ (λ_ s=>s) (by first | (simp only [h10,h14,h20,h24,h30,aA,aB,Bool.true_or,aQ,Bool.or_false,Bool.or_true];done) | (simp only [h10,h14,h20,h24,aA,aB,Bool.true_or,aQ,Bool.or_false,Bool.or_true];done) | (simp only [h10,h14,h24,h30,aA,aB,Bool.true_or,aQ,Bool.or_false,Bool.or_true];done) | (simp only [h10,h14,h24,aA,aB,Bool.true_or,aQ,Bool.or_false,Bool.or_true];done) | (simp only [h10,h14,h20,aA,aB,Bool.true_or,aQ,Bool.or_false,Bool.or_true];done) | (simp only [h10,aA,aB,Bool.true_or,aQ,Bool.or_false,Bool.or_true];done) )
  refine .gy (.fieldAddr Z DW)<|.gy (.load Z jO Hm Z)<|.gy (.not Z)<|.gy (.move Z)<|.b2 (λh14=>?_) (λh14=>?_)
  ·refine .gy (.fieldAddr Z kJ)<|.gy (.load Z cP dC Z)<|.gy (.cast (.neS Z Z) (congrArg Value.bool decide_not))<|.gy (.pickT Z Z)<|.yw (.pickF Z Z)<|.mv Z<|.b2 (λh20=>?_) (λh20=>?_)
   ·exact .gG<|.gG<|.gG<|.gG<|.gV<|.gV<|.gV<|.gG<|.yw (.pickT Z Z)<|.mv Z<|.gG<|.gG<|.gG<|.gG<|.gG<|.gG<|.gG<|.yw (.pickT Z Z)<|.nt<|.me _ ⟨Z,Jt⟩ ⟨Z,Z,Jt⟩ (λ_ s=>s) (by first | (simp only [h10,h14,h20,h24,h30,aA,aB,Bool.true_or,aQ,Bool.or_false,Bool.or_true];done) | (simp only [h10,h14,h20,h24,aA,aB,Bool.true_or,aQ,Bool.or_false,Bool.or_true];done) | (simp only [h10,h14,h24,h30,aA,aB,Bool.true_or,aQ,Bool.or_false,Bool.or_true];done) | (simp only [h10,h14,h24,aA,aB,Bool.true_or,aQ,Bool.or_false,Bool.or_true];done) | (simp only [h10,h14,h20,aA,aB,Bool.true_or,aQ,Bool.or_false,Bool.or_true];done) | (simp only [h10,aA,aB,Bool.true_or,aQ,Bool.or_false,Bool.or_true];done) )
   refine .gy (.fieldAddr Z vD)<|.gy (.load Z jO Hm Z)<|.gy (.not Z)<|.gy (.move Z)<|.b2 (λh24=>?_) (λh24=>?_)
   ·refine .gy (.fieldAddr Z kI)<|.gy (.load Z cP dC Z)<|.gy (.cast (.neS Z Z) (congrArg Value.bool decide_not))<|.gy (.pickT Z Z)<|.yw (.pickF Z Z)<|.mv Z<|.b2 (λh30=>?_) (λh30=>?_)
    ·exact .gG<|.gG<|.gG<|.gG<|.gG<|.gG<|.gG<|.yw (.pickT Z Z)<|.nt<|.me _ ⟨Z,Jt⟩ ⟨Z,Z,Jt⟩ (λ_ s=>s) (by first | (simp only [h10,h14,h20,h24,h30,aA,aB,Bool.true_or,aQ,Bool.or_false,Bool.or_true];done) | (simp only [h10,h14,h20,h24,aA,aB,Bool.true_or,aQ,Bool.or_false,Bool.or_true];done) | (simp only [h10,h14,h24,h30,aA,aB,Bool.true_or,aQ,Bool.or_false,Bool.or_true];done) | (simp only [h10,h14,h24,aA,aB,Bool.true_or,aQ,Bool.or_false,Bool.or_true];done) | (simp only [h10,h14,h20,aA,aB,Bool.true_or,aQ,Bool.or_false,Bool.or_true];done) | (simp only [h10,aA,aB,Bool.true_or,aQ,Bool.or_false,Bool.or_true];done) )
    exact .gy (.fieldAddr Z hI)<|.gy (.load Z qS dC Z)<|.gy (.lenSl qD Z)<|.gy (.fieldAddr Z vB)<|.gy (.load Z iP Hm Z)<|.gy (.conv Z lJ lT (c:=(((cS op).ar:Nat):Int)) (w64 (by omega) (by have:=BW op;omega)))<|.gy (.cast (.neq Z Z) (congrArg Value.bool nn0))<|.yw (.pickF Z Z)<|.nt<|.me _ ⟨Z,Jt⟩ ⟨Z,Z,Jt⟩ (λ_ s=>s) (by first | (simp only [h10,h14,h20,h24,h30,aA,aB,Bool.true_or,aQ,Bool.or_false,Bool.or_true];done) | (simp only [h10,h14,h20,h24,aA,aB,Bool.true_or,aQ,Bool.or_false,Bool.or_true];done) | (simp only [h10,h14,h24,h30,aA,aB,Bool.true_or,aQ,Bool.or_false,Bool.or_true];done) | (simp only [h10,h14,h24,aA,aB,Bool.true_or,aQ,Bool.or_false,Bool.or_true];done) | (simp only [h10,h14,h20,aA,aB,Bool.true_or,aQ,Bool.or_false,Bool.or_true];done) | (simp only [h10,aA,aB,Bool.true_or,aQ,Bool.or_false,Bool.or_true];done) )
   exact .gG<|.gG<|.gG<|.gy (.pickF Z Z)<|.yw (.pickF Z Z)<|.mv Z<|.gy (.fieldAddr Z hI)<|.gy (.load Z qS dC Z)<|.gy (.lenSl qD Z)<|.gy (.fieldAddr Z vB)<|.gy (.load Z iP Hm Z)<|.gy (.conv Z lJ lT (c:=(((cS op).ar:Nat):Int)) (w64 (by omega) (by have:=BW op;omega)))<|.gy (.cast (.neq Z Z) (congrArg Value.bool nn0))<|.yw (.pickF Z Z)<|.nt<|.me _ ⟨Z,Jt⟩ ⟨Z,Z,Jt⟩ (λ_ s=>s) (by first | (simp only [h10,h14,h20,h24,h30,aA,aB,Bool.true_or,aQ,Bool.or_false,Bool.or_true];done) | (simp only [h10,h14,h20,h24,aA,aB,Bool.true_or,aQ,Bool.or_false,Bool.or_true];done) | (simp only [h10,h14,h24,h30,aA,aB,Bool.true_or,aQ,Bool.or_false,Bool.or_true];done) | (simp only [h10,h14,h24,aA,aB,Bool.true_or,aQ,Bool.or_false,Bool.or_true];done) | (simp only [h10,h14,h20,aA,aB,Bool.true_or,aQ,Bool.or_false,Bool.or_true];done) | (simp only [h10,aA,aB,Bool.true_or,aQ,Bool.or_false,Bool.or_true];done) )
  refine .gG<|.gG<|.gG<|.gy (.pickF Z Z)<|.yw (.pickF Z Z)<|.mv Z<|.gy (.fieldAddr Z vD)<|.gy (.load Z jO Hm Z)<|.gy (.not Z)<|.gy (.move Z)<|.b2 (λh24=>?_) (λh24=>?_)
  ·refine .gy (.fieldAddr Z kI)<|.gy (.load Z cP dC Z)<|.gy (.cast (.neS Z Z) (congrArg Value.bool decide_not))<|.gy (.pickT Z Z)<|.yw (.pickF Z Z)<|.mv Z<|.b2 (λh30=>?_) (λh30=>?_)
   ·exact .gG<|.gG<|.gG<|.gG<|.gG<|.gG<|.gG<|.yw (.pickT Z Z)<|.nt<|.me _ ⟨Z,Jt⟩ ⟨Z,Z,Jt⟩ (λ_ s=>s) (by first | (simp only [h10,h14,h20,h24,h30,aA,aB,Bool.true_or,aQ,Bool.or_false,Bool.or_true];done) | (simp only [h10,h14,h20,h24,aA,aB,Bool.true_or,aQ,Bool.or_false,Bool.or_true];done) | (simp only [h10,h14,h24,h30,aA,aB,Bool.true_or,aQ,Bool.or_false,Bool.or_true];done) | (simp only [h10,h14,h24,aA,aB,Bool.true_or,aQ,Bool.or_false,Bool.or_true];done) | (simp only [h10,h14,h20,aA,aB,Bool.true_or,aQ,Bool.or_false,Bool.or_true];done) | (simp only [h10,aA,aB,Bool.true_or,aQ,Bool.or_false,Bool.or_true];done) )
   exact .gy (.fieldAddr Z hI)<|.gy (.load Z qS dC Z)<|.gy (.lenSl qD Z)<|.gy (.fieldAddr Z vB)<|.gy (.load Z iP Hm Z)<|.gy (.conv Z lJ lT (c:=(((cS op).ar:Nat):Int)) (w64 (by omega) (by have:=BW op;omega)))<|.gy (.cast (.neq Z Z) (congrArg Value.bool nn0))<|.yw (.pickF Z Z)<|.nt<|.me _ ⟨Z,Jt⟩ ⟨Z,Z,Jt⟩ (λ_ s=>s) (by first | (simp only [h10,h14,h20,h24,h30,aA,aB,Bool.true_or,aQ,Bool.or_false,Bool.or_true];done) | (simp only [h10,h14,h20,h24,aA,aB,Bool.true_or,aQ,Bool.or_false,Bool.or_true];done) | (simp only [h10,h14,h24,h30,aA,aB,Bool.true_or,aQ,Bool.or_false,Bool.or_true];done) | (simp only [h10,h14,h24,aA,aB,Bool.true_or,aQ,Bool.or_false,Bool.or_true];done) | (simp only [h10,h14,h20,aA,aB,Bool.true_or,aQ,Bool.or_false,Bool.or_true];done) | (simp only [h10,aA,aB,Bool.true_or,aQ,Bool.or_false,Bool.or_true];done) )
  exact .gG<|.gG<|.gG<|.gy (.pickF Z Z)<|.yw (.pickF Z Z)<|.mv Z<|.gy (.fieldAddr Z hI)<|.gy (.load Z qS dC Z)<|.gy (.lenSl qD Z)<|.gy (.fieldAddr Z vB)<|.gy (.load Z iP Hm Z)<|.gy (.conv Z lJ lT (c:=(((cS op).ar:Nat):Int)) (w64 (by omega) (by have:=BW op;omega)))<|.gy (.cast (.neq Z Z) (congrArg Value.bool nn0))<|.yw (.pickF Z Z)<|.nt<|.me _ ⟨Z,Jt⟩ ⟨Z,Z,Jt⟩ (λ_ s=>s) (by first | (simp only [h10,h14,h20,h24,h30,aA,aB,Bool.true_or,aQ,Bool.or_false,Bool.or_true];done) | (simp only [h10,h14,h20,h24,aA,aB,Bool.true_or,aQ,Bool.or_false,Bool.or_true];done) | (simp only [h10,h14,h24,h30,aA,aB,Bool.true_or,aQ,Bool.or_false,Bool.or_true];done) | (simp only [h10,h14,h24,aA,aB,Bool.true_or,aQ,Bool.or_false,Bool.or_true];done) | (simp only [h10,h14,h20,aA,aB,Bool.true_or,aQ,Bool.or_false,Bool.or_true];done) | (simp only [h10,aA,aB,Bool.true_or,aQ,Bool.or_false,Bool.or_true];done) )
 have ez:=hC;refine .cd Z (λh38=>?_) (λh38=>?_)
 ·refine .sr<|.az Z<|.tR<|?_
  refine y9 Z Z λW s=>⟨?_,s.ext⟩
  first
   | (rw [oK (ez.symm.trans h38)])
   | (rw [eP (by rw [nA h39,aM (aJ (by rw [h66] at ew;exact ew.symm))])])
   | (rw [eP (by rw [nD h39 h67,aM (aJ (by rw [h92] at ea;exact ea.symm))])])
   | (rw [eP (by rw [nB h39 h67,aM (aJ (by rw [h93] at en;exact en.symm))])])
   | (rw [cJ (ez.symm.trans h38) hb,uE q7,h109,aA,rD])
   | (rw [cJ (ez.symm.trans h38) hb,uE q7,h109];rfl)
   | (rw [cJ (ez.symm.trans h38) hb,DF q7 hlx])
   | (rw [cJ (ez.symm.trans h38) hb,yX q3])
   | (rw [cJ (ez.symm.trans h38) hb,GM q5])
   | (rw [cJ (ez.symm.trans h38) hb,jR q18,h146,h153,aA,aA])
   | (rw [cJ (ez.symm.trans h38) hb,jR q18,h146,h153];rfl)
   | (rw [cJ (ez.symm.trans h38) hb,jR q18,h146];rfl)
   | (rw [cJ (ez.symm.trans h38) hb,HQ q7 hlx q3 q5 q18])
 refine .sk<|.tN<|.cu (X:=Unit) [(1,_),(3,_)] ⟨Z,Z,Jt⟩ (λz=>[]) (λz=>H) (λz=>[.box b3 (fsC (cS op)) 157,.box b1 [.int .u8 op.toNat,cH nm,cH fd,.int .i64 a.toInt,.int .i64 b.toInt,.slice p1 ex.length c1,.slice p2 args.length c2] 35]) (λz=>CB (.mk op nm fd a b ex args)=true) ?_ λz hC=>?_
 ·
  refine .bk<|.sr<|.fA Z OD<|.lD Z jO Hm Z<|.aq Z<|.cd Z (λh39=>?_) (λh39=>?_)
  ·refine .cu (X:=Bool) [(1,_),(3,_)] ⟨Z,Z,Jt⟩ (λz=>[(66,.bool z)]) (λz=>H) (λz=>[.box b3 (fsC (cS op)) 157,.box b1 [.int .u8 op.toNat,cH nm,cH fd,.int .i64 a.toInt,.int .i64 b.toInt,.slice p1 ex.length c1,.slice p2 args.length c2] 35]) (λz=>z=decide (¬ ((a.toInt=0/\b.toInt=-1)\/(0<=a.toInt/\a.toInt<=b.toInt/\b.toInt<=200)))) ?_ λz hC=>?_
   ·
    refine .rg<|.fA Z jB<|.lD Z cC dC Z<|.yw (.neq Z Z)<|.mv Z<|.e2 (λh45=>?_) (λh45=>?_)
    ·refine .gG<|.gG<|.gG<|.yw (.pickT Z Z)<|.mv Z<|.gy (.fieldAddr Z jB)<|.gy (.load Z cC dC Z)<|.gy (.lss Z Z)<|.gy (.move Z)<|.b2 (λh54=>?_) (λh54=>?_)
     ·try simp only [dt] at h54
      exact .gG<|.gG<|.gG<|.gG<|.gG<|.gy (.pickT Z Z)<|.gy (.move Z)<|.gG<|.gG<|.gG<|.gy (.pickT Z Z)<|.yw (.pickT Z Z)<|.nt<|.me _ ⟨Z,Jt⟩ ⟨Z,Z,Jt⟩ (λ_ s=>s) (by rw [aU,aD];first | (rw [aD];omega) | exact ⟨λ_=>by omega,λ_=>rfl⟩ | exact ⟨λh=>(by cases h),λh=>by omega⟩)
     try simp only [df] at h54
     refine .gy (.fieldAddr Z jB)<|.gy (.load Z cC dC Z)<|.gy (.fieldAddr Z hP)<|.gy (.load Z cC dC Z)<|.gy (.gtr Z Z)<|.gy (.pickF Z Z)<|.gy (.move Z)<|.b2 (λh61=>?_) (λh61=>?_)
     ·try simp only [dt] at h61
      exact .gG<|.gG<|.gG<|.gy (.pickT Z Z)<|.yw (.pickT Z Z)<|.nt<|.me _ ⟨Z,Jt⟩ ⟨Z,Z,Jt⟩ (λ_ s=>s) (by rw [aU,aD];first | (rw [aD];omega) | exact ⟨λ_=>by omega,λ_=>rfl⟩ | exact ⟨λh=>(by cases h),λh=>by omega⟩)
     try simp only [df] at h61
     exact .gy (.fieldAddr Z hP)<|.gy (.load Z cC dC Z)<|.gy (.gtr Z Z)<|.gy (.pickF Z Z)<|.yw (.pickT Z Z)<|.nt<|.me _ ⟨Z,Jt⟩ ⟨Z,Z,Jt⟩ (λ_ s=>s) (by rw [aU,aD];first | (rw [aD];omega) | exact ⟨λ_=>by omega,λ_=>rfl⟩ | exact ⟨λh=>(by cases h),λh=>by omega⟩)
    refine .gy (.fieldAddr Z hP)<|.gy (.load Z cC dC Z)<|.gy (.neq Z Z)<|.yw (.pickF Z Z)<|.mv Z<|.e2 (λh50=>?_) (λh50=>?_)
    ·refine .gy (.fieldAddr Z jB)<|.gy (.load Z cC dC Z)<|.gy (.lss Z Z)<|.gy (.move Z)<|.b2 (λh54=>?_) (λh54=>?_)
     ·try simp only [dt] at h54
      exact .gG<|.gG<|.gG<|.gG<|.gG<|.gy (.pickT Z Z)<|.gy (.move Z)<|.gG<|.gG<|.gG<|.gy (.pickT Z Z)<|.yw (.pickT Z Z)<|.nt<|.me _ ⟨Z,Jt⟩ ⟨Z,Z,Jt⟩ (λ_ s=>s) (by rw [aU,aD];first | (rw [aD];omega) | exact ⟨λ_=>by omega,λ_=>rfl⟩ | exact ⟨λh=>(by cases h),λh=>by omega⟩)
     try simp only [df] at h54
     refine .gy (.fieldAddr Z jB)<|.gy (.load Z cC dC Z)<|.gy (.fieldAddr Z hP)<|.gy (.load Z cC dC Z)<|.gy (.gtr Z Z)<|.gy (.pickF Z Z)<|.gy (.move Z)<|.b2 (λh61=>?_) (λh61=>?_)
     ·try simp only [dt] at h61
      exact .gG<|.gG<|.gG<|.gy (.pickT Z Z)<|.yw (.pickT Z Z)<|.nt<|.me _ ⟨Z,Jt⟩ ⟨Z,Z,Jt⟩ (λ_ s=>s) (by rw [aU,aD];first | (rw [aD];omega) | exact ⟨λ_=>by omega,λ_=>rfl⟩ | exact ⟨λh=>(by cases h),λh=>by omega⟩)
     try simp only [df] at h61
     exact .gy (.fieldAddr Z hP)<|.gy (.load Z cC dC Z)<|.gy (.gtr Z Z)<|.gy (.pickF Z Z)<|.yw (.pickT Z Z)<|.nt<|.me _ ⟨Z,Jt⟩ ⟨Z,Z,Jt⟩ (λ_ s=>s) (by rw [aU,aD];first | (rw [aD];omega) | exact ⟨λ_=>by omega,λ_=>rfl⟩ | exact ⟨λh=>(by cases h),λh=>by omega⟩)
    exact .gG<|.gG<|.gG<|.gG<|.gV<|.gV<|.gV<|.gV<|.gV<|.gG<|.gG<|.gV<|.gV<|.gV<|.gG<|.yw (.pickF Z Z)<|.nt<|.me _ ⟨Z,Jt⟩ ⟨Z,Z,Jt⟩ (λ_ s=>s) (by rw [aU,aD];first | (rw [aD];omega) | exact ⟨λ_=>by omega,λ_=>rfl⟩ | exact ⟨λh=>(by cases h),λh=>by omega⟩)
   have ew:=hC;refine .cd Z (λh66=>?_) (λh66=>?_)
   ·refine .sr<|.az Z<|.bR<|.tR<|?_
    refine y9 Z Z λW s=>⟨?_,s.ext⟩
    first
     | (rw [oK (ez.symm.trans h38)])
     | (rw [eP (by rw [nA h39,aM (aJ (by rw [h66] at ew;exact ew.symm))])])
     | (rw [eP (by rw [nD h39 h67,aM (aJ (by rw [h92] at ea;exact ea.symm))])])
     | (rw [eP (by rw [nB h39 h67,aM (aJ (by rw [h93] at en;exact en.symm))])])
     | (rw [cJ (ez.symm.trans h38) hb,uE q7,h109,aA,rD])
     | (rw [cJ (ez.symm.trans h38) hb,uE q7,h109];rfl)
     | (rw [cJ (ez.symm.trans h38) hb,DF q7 hlx])
     | (rw [cJ (ez.symm.trans h38) hb,yX q3])
     | (rw [cJ (ez.symm.trans h38) hb,GM q5])
     | (rw [cJ (ez.symm.trans h38) hb,jR q18,h146,h153,aA,aA])
     | (rw [cJ (ez.symm.trans h38) hb,jR q18,h146,h153];rfl)
     | (rw [cJ (ez.symm.trans h38) hb,jR q18,h146];rfl)
     | (rw [cJ (ez.symm.trans h38) hb,HQ q7 hlx q3 q5 q18])
   exact .sk<|.bN<|.tN<|.me () trivial ⟨Z,Z,Jt⟩ (λ_ s=>s) (by first | (rw [nA h39,aK (Classical.byContradiction λe=>by rw [h66] at ew;rw [aK e] at ew;cases ew)]) | (rw [nD h39 h67,aK (Classical.byContradiction λe=>by rw [h92] at ea;rw [aK e] at ea;cases ea)]) | (rw [nB h39 h67,aK (Classical.byContradiction λe=>by rw [h93] at en;rw [aK e] at en;cases en)]))
  refine .sr<|.fA Z OC<|.lD Z jO Hm Z<|.aq Z<|.cd Z (λh67=>?_) (λh67=>?_)
  ·refine .cu (X:=Bool) [(1,_),(3,_)] ⟨Z,Z,Jt⟩ (λz=>[(92,.bool z)]) (λz=>H) (λz=>[.box b3 (fsC (cS op)) 157,.box b1 [.int .u8 op.toNat,cH nm,cH fd,.int .i64 a.toInt,.int .i64 b.toInt,.slice p1 ex.length c1,.slice p2 args.length c2] 35]) (λz=>z=decide (¬ (-1000000<=a.toInt/\a.toInt<=b.toInt/\b.toInt<=1000000/\b.toInt - a.toInt<32))) ?_ λz hC=>?_
   ·
    refine .rg<|.fA Z jB<|.lD Z cC dC Z<|.yw (.lss Z Z)<|.mv Z<|.e2 (λh73=>?_) (λh73=>?_)
    ·exact .gG<|.gG<|.gG<|.gG<|.gG<|.yw (.pickT Z Z)<|.mv Z<|.gG<|.gG<|.gG<|.yw (.pickT Z Z)<|.mv Z<|.gG<|.gG<|.gG<|.gG<|.gG<|.gG<|.yw (.pickT Z Z)<|.nt<|.me _ ⟨Z,Jt⟩ ⟨Z,Z,Jt⟩ (λ_ s=>s) (by rw [aU,aD];first | (rw [aD];omega) | exact ⟨λ_=>by omega,λ_=>rfl⟩ | exact ⟨λh=>(by cases h),λh=>by omega⟩)
    refine .gy (.fieldAddr Z jB)<|.gy (.load Z cC dC Z)<|.gy (.fieldAddr Z hP)<|.gy (.load Z cC dC Z)<|.gy (.gtr Z Z)<|.yw (.pickF Z Z)<|.mv Z<|.e2 (λh80=>?_) (λh80=>?_)
    ·exact .gG<|.gG<|.gG<|.yw (.pickT Z Z)<|.mv Z<|.gG<|.gG<|.gG<|.gG<|.gG<|.gG<|.yw (.pickT Z Z)<|.nt<|.me _ ⟨Z,Jt⟩ ⟨Z,Z,Jt⟩ (λ_ s=>s) (by rw [aU,aD];first | (rw [aD];omega) | exact ⟨λ_=>by omega,λ_=>rfl⟩ | exact ⟨λh=>(by cases h),λh=>by omega⟩)
    refine .gy (.fieldAddr Z hP)<|.gy (.load Z cC dC Z)<|.gy (.gtr Z Z)<|.yw (.pickF Z Z)<|.mv Z<|.e2 (λh85=>?_) (λh85=>?_)
    ·exact .gG<|.gG<|.gG<|.gG<|.gG<|.gG<|.yw (.pickT Z Z)<|.nt<|.me _ ⟨Z,Jt⟩ ⟨Z,Z,Jt⟩ (λ_ s=>s) (by rw [aU,aD];first | (rw [aD];omega) | exact ⟨λ_=>by omega,λ_=>rfl⟩ | exact ⟨λh=>(by cases h),λh=>by omega⟩)
    exact .gy (.fieldAddr Z hP)<|.gy (.load Z cC dC Z)<|.gy (.fieldAddr Z jB)<|.gy (.load Z cC dC Z)<|.gy (.sub Z Z (w6 (by omega)))<|.gy (.geq Z Z)<|.yw (.pickF Z Z)<|.nt<|.me _ ⟨Z,Jt⟩ ⟨Z,Z,Jt⟩ (λ_ s=>s) (by rw [aU,aD];first | (rw [aD];omega) | exact ⟨λ_=>by omega,λ_=>rfl⟩ | exact ⟨λh=>(by cases h),λh=>by omega⟩)
   have ea:=hC;refine .cd Z (λh92=>?_) (λh92=>?_)
   ·refine .sr<|.az Z<|.bR<|.tR<|?_
    refine y9 Z Z λW s=>⟨?_,s.ext⟩
    first
     | (rw [oK (ez.symm.trans h38)])
     | (rw [eP (by rw [nA h39,aM (aJ (by rw [h66] at ew;exact ew.symm))])])
     | (rw [eP (by rw [nD h39 h67,aM (aJ (by rw [h92] at ea;exact ea.symm))])])
     | (rw [eP (by rw [nB h39 h67,aM (aJ (by rw [h93] at en;exact en.symm))])])
     | (rw [cJ (ez.symm.trans h38) hb,uE q7,h109,aA,rD])
     | (rw [cJ (ez.symm.trans h38) hb,uE q7,h109];rfl)
     | (rw [cJ (ez.symm.trans h38) hb,DF q7 hlx])
     | (rw [cJ (ez.symm.trans h38) hb,yX q3])
     | (rw [cJ (ez.symm.trans h38) hb,GM q5])
     | (rw [cJ (ez.symm.trans h38) hb,jR q18,h146,h153,aA,aA])
     | (rw [cJ (ez.symm.trans h38) hb,jR q18,h146,h153];rfl)
     | (rw [cJ (ez.symm.trans h38) hb,jR q18,h146];rfl)
     | (rw [cJ (ez.symm.trans h38) hb,HQ q7 hlx q3 q5 q18])
   exact .sk<|.bN<|.tN<|.me () trivial ⟨Z,Z,Jt⟩ (λ_ s=>s) (by first | (rw [nA h39,aK (Classical.byContradiction λe=>by rw [h66] at ew;rw [aK e] at ew;cases ew)]) | (rw [nD h39 h67,aK (Classical.byContradiction λe=>by rw [h92] at ea;rw [aK e] at ea;cases ea)]) | (rw [nB h39 h67,aK (Classical.byContradiction λe=>by rw [h93] at en;rw [aK e] at en;cases en)]))
  refine .cu (X:=Bool) [(1,_),(3,_)] ⟨Z,Z,Jt⟩ (λz=>[(93,.bool z)]) (λz=>H) (λz=>[.box b3 (fsC (cS op)) 157,.box b1 [.int .u8 op.toNat,cH nm,cH fd,.int .i64 a.toInt,.int .i64 b.toInt,.slice p1 ex.length c1,.slice p2 args.length c2] 35]) (λz=>z=decide (¬ (a.toInt=0/\b.toInt=0))) ?_ λz hC=>?_
  ·
   refine .rg<|.fA Z jB<|.lD Z cC dC Z<|.yw (.neq Z Z)<|.mv Z<|.e2 (λh97=>?_) (λh97=>?_)
   ·exact .gG<|.gG<|.gG<|.yw (.pickT Z Z)<|.aq Z<|.me _ ⟨Z,Jt⟩ ⟨Z,Z,Jt⟩ (λ_ s=>s) (by rw [aU,aD];first | (rw [aD];omega) | exact ⟨λ_=>by omega,λ_=>rfl⟩ | exact ⟨λh=>(by cases h),λh=>by omega⟩)
   exact .gy (.fieldAddr Z hP)<|.gy (.load Z cC dC Z)<|.gy (.neq Z Z)<|.yw (.pickF Z Z)<|.aq Z<|.me _ ⟨Z,Jt⟩ ⟨Z,Z,Jt⟩ (λ_ s=>s) (by rw [aU,aD];first | (rw [aD];omega) | exact ⟨λ_=>by omega,λ_=>rfl⟩ | exact ⟨λh=>(by cases h),λh=>by omega⟩)
  have en:=hC;refine .cd Z (λh93=>?_) (λh93=>?_)
  ·refine .sr<|.az Z<|.bR<|.tR<|?_
   refine y9 Z Z λW s=>⟨?_,s.ext⟩
   first
    | (rw [oK (ez.symm.trans h38)])
    | (rw [eP (by rw [nA h39,aM (aJ (by rw [h66] at ew;exact ew.symm))])])
    | (rw [eP (by rw [nD h39 h67,aM (aJ (by rw [h92] at ea;exact ea.symm))])])
    | (rw [eP (by rw [nB h39 h67,aM (aJ (by rw [h93] at en;exact en.symm))])])
    | (rw [cJ (ez.symm.trans h38) hb,uE q7,h109,aA,rD])
    | (rw [cJ (ez.symm.trans h38) hb,uE q7,h109];rfl)
    | (rw [cJ (ez.symm.trans h38) hb,DF q7 hlx])
    | (rw [cJ (ez.symm.trans h38) hb,yX q3])
    | (rw [cJ (ez.symm.trans h38) hb,GM q5])
    | (rw [cJ (ez.symm.trans h38) hb,jR q18,h146,h153,aA,aA])
    | (rw [cJ (ez.symm.trans h38) hb,jR q18,h146,h153];rfl)
    | (rw [cJ (ez.symm.trans h38) hb,jR q18,h146];rfl)
    | (rw [cJ (ez.symm.trans h38) hb,HQ q7 hlx q3 q5 q18])
  exact .sk<|.bN<|.tN<|.me () trivial ⟨Z,Z,Jt⟩ (λ_ s=>s) (by first | (rw [nA h39,aK (Classical.byContradiction λe=>by rw [h66] at ew;rw [aK e] at ew;cases ew)]) | (rw [nD h39 h67,aK (Classical.byContradiction λe=>by rw [h92] at ea;rw [aK e] at ea;cases ea)]) | (rw [nB h39 h67,aK (Classical.byContradiction λe=>by rw [h93] at en;rw [aK e] at en;cases en)]))
 have hb:=hC;refine .sq<|.sr<|.fA Z gC<|.lD Z kX dC Z<|.yw (.eql Z Z)<|.nt<|.cd Z (λh104=>?_) (λh104=>?_)
 ·have q7:op=7:=aS.1 (by have:=aJ h104;show op.toNat=7;omega);refine .sr<|.fA Z cY<|.lD Z dQ dC Z<|.yw (.lenSl dW Z)<|.yw (.cast (.leq Z Z) (congrArg Value.bool le4))<|.mv Z<|.b2 (λh109=>?_) (λh109=>?_)
  ·refine .gy (.fieldAddr Z cY)<|.gy (.load Z dQ dC Z)<|.gy (.call rJ Z (λW s=>lR H 77 [] aE4 ex hs1 aN6 (λa _=>VT H a) W s.agr))<|.gy (.not Z)<|.yw (.pickT Z Z)<|.az Z<|.tR<|?_
   refine y9 Z Z λW s=>⟨?_,s.ext⟩
   first
    | (rw [oK (ez.symm.trans h38)])
    | (rw [eP (by rw [nA h39,aM (aJ (by rw [h66] at ew;exact ew.symm))])])
    | (rw [eP (by rw [nD h39 h67,aM (aJ (by rw [h92] at ea;exact ea.symm))])])
    | (rw [eP (by rw [nB h39 h67,aM (aJ (by rw [h93] at en;exact en.symm))])])
    | (rw [cJ (ez.symm.trans h38) hb,uE q7,h109,aA,rD])
    | (rw [cJ (ez.symm.trans h38) hb,uE q7,h109];rfl)
    | (rw [cJ (ez.symm.trans h38) hb,DF q7 hlx])
    | (rw [cJ (ez.symm.trans h38) hb,yX q3])
    | (rw [cJ (ez.symm.trans h38) hb,GM q5])
    | (rw [cJ (ez.symm.trans h38) hb,jR q18,h146,h153,aA,aA])
    | (rw [cJ (ez.symm.trans h38) hb,jR q18,h146,h153];rfl)
    | (rw [cJ (ez.symm.trans h38) hb,jR q18,h146];rfl)
    | (rw [cJ (ez.symm.trans h38) hb,HQ q7 hlx q3 q5 q18])
  refine .gG<|.gG<|.gG<|.gG<|.yw (.pickF Z Z)<|.az Z<|.tR<|?_
  refine y9 Z Z λW s=>⟨?_,s.ext⟩
  first
   | (rw [oK (ez.symm.trans h38)])
   | (rw [eP (by rw [nA h39,aM (aJ (by rw [h66] at ew;exact ew.symm))])])
   | (rw [eP (by rw [nD h39 h67,aM (aJ (by rw [h92] at ea;exact ea.symm))])])
   | (rw [eP (by rw [nB h39 h67,aM (aJ (by rw [h93] at en;exact en.symm))])])
   | (rw [cJ (ez.symm.trans h38) hb,uE q7,h109,aA,rD])
   | (rw [cJ (ez.symm.trans h38) hb,uE q7,h109];rfl)
   | (rw [cJ (ez.symm.trans h38) hb,DF q7 hlx])
   | (rw [cJ (ez.symm.trans h38) hb,yX q3])
   | (rw [cJ (ez.symm.trans h38) hb,GM q5])
   | (rw [cJ (ez.symm.trans h38) hb,jR q18,h146,h153,aA,aA])
   | (rw [cJ (ez.symm.trans h38) hb,jR q18,h146,h153];rfl)
   | (rw [cJ (ez.symm.trans h38) hb,jR q18,h146];rfl)
   | (rw [cJ (ez.symm.trans h38) hb,HQ q7 hlx q3 q5 q18])
 have q7:¬ op=7:=λe=>aP h104 (by rw [e];rfl);refine .sk<|.tN<|.sq<|.sr<|.fA Z cY<|.lD Z dQ dC Z<|.yw (.lenSl dW Z)<|.fA Z OB<|.lD Z iP Hm Z<|.yw (.conv Z lJ lT (c:=(((cS op).ex:Nat):Int)) (w64 (by omega) (by have:=BW op;omega)))<|.yw (.cast (.neq Z Z) (congrArg Value.bool nn0))<|.nt<|.cd Z (λh121=>?_) (λh121=>?_)
 ·have hlx:¬ ex.length=(cS op).ex:=λe=>by rw [aK e] at h121;cases h121
  refine .sr<|.az Z<|.tR<|?_
  refine y9 Z Z λW s=>⟨?_,s.ext⟩
  first
   | (rw [oK (ez.symm.trans h38)])
   | (rw [eP (by rw [nA h39,aM (aJ (by rw [h66] at ew;exact ew.symm))])])
   | (rw [eP (by rw [nD h39 h67,aM (aJ (by rw [h92] at ea;exact ea.symm))])])
   | (rw [eP (by rw [nB h39 h67,aM (aJ (by rw [h93] at en;exact en.symm))])])
   | (rw [cJ (ez.symm.trans h38) hb,uE q7,h109,aA,rD])
   | (rw [cJ (ez.symm.trans h38) hb,uE q7,h109];rfl)
   | (rw [cJ (ez.symm.trans h38) hb,DF q7 hlx])
   | (rw [cJ (ez.symm.trans h38) hb,yX q3])
   | (rw [cJ (ez.symm.trans h38) hb,GM q5])
   | (rw [cJ (ez.symm.trans h38) hb,jR q18,h146,h153,aA,aA])
   | (rw [cJ (ez.symm.trans h38) hb,jR q18,h146,h153];rfl)
   | (rw [cJ (ez.symm.trans h38) hb,jR q18,h146];rfl)
   | (rw [cJ (ez.symm.trans h38) hb,HQ q7 hlx q3 q5 q18])
 have hlx:ex.length=(cS op).ex:=Classical.byContradiction λe=>by rw [aM e] at h121;cases h121
 refine .sk<|.tN<|.sq<|.sr<|.fA Z gC<|.lD Z kX dC Z<|.nt<|.bk<|.sr<|.yw (.eql Z Z)<|.aq Z<|.cd Z (λh124=>?_) (λh124=>?_)
 ·have q3:op=3:=aS.1 (by have:=aJ h124;show op.toNat=3;omega);obtain ⟨e0,rfl⟩:∃ e0,ex=[e0]:=List.length_eq_one_iff.1 (by rw [hlx,q3];rfl);obtain ⟨bE,oE,cE,hpE,rE,lE,mE⟩:=hs1.elem (i:=0) (d:=dEx .u8 e0) rfl;cases hpE;refine .sr<|.fA Z cY<|.lD Z dQ dC Z<|.yw (.indexSl dW Z Z (i:=0) Z (Nat.succ_pos _) (q:=oE+0 * 4) Z)<|.yw (.loadMW Z eC mE lE)<|.yw (.call aN4 Z (λW s=>aJ6 H e0 cE W rE s.agr))<|.az Z<|.bR<|.tR<|?_
  refine y9 Z Z λW s=>⟨?_,s.ext⟩
  first
   | (rw [oK (ez.symm.trans h38)])
   | (rw [eP (by rw [nA h39,aM (aJ (by rw [h66] at ew;exact ew.symm))])])
   | (rw [eP (by rw [nD h39 h67,aM (aJ (by rw [h92] at ea;exact ea.symm))])])
   | (rw [eP (by rw [nB h39 h67,aM (aJ (by rw [h93] at en;exact en.symm))])])
   | (rw [cJ (ez.symm.trans h38) hb,uE q7,h109,aA,rD])
   | (rw [cJ (ez.symm.trans h38) hb,uE q7,h109];rfl)
   | (rw [cJ (ez.symm.trans h38) hb,DF q7 hlx])
   | (rw [cJ (ez.symm.trans h38) hb,yX q3])
   | (rw [cJ (ez.symm.trans h38) hb,GM q5])
   | (rw [cJ (ez.symm.trans h38) hb,jR q18,h146,h153,aA,aA])
   | (rw [cJ (ez.symm.trans h38) hb,jR q18,h146,h153];rfl)
   | (rw [cJ (ez.symm.trans h38) hb,jR q18,h146];rfl)
   | (rw [cJ (ez.symm.trans h38) hb,HQ q7 hlx q3 q5 q18])
 have q3:¬ op=3:=λe=>aP h124 (by rw [e];rfl);refine .sr<|.yw (.eql Z Z)<|.aq Z<|.cd Z (λh131=>?_) (λh131=>?_)
 ·have q5:op=5:=aS.1 (by have:=aJ h131;show op.toNat=5;omega);obtain ⟨e0,rfl⟩:∃ e0,ex=[e0]:=List.length_eq_one_iff.1 (by rw [hlx,q5];rfl);obtain ⟨bE,oE,cE,hpE,rE,lE,mE⟩:=hs1.elem (i:=0) (d:=dEx .u8 e0) rfl;cases hpE;refine .sr<|.fA Z cY<|.lD Z dQ dC Z<|.yw (.indexSl dW Z Z (i:=0) Z (Nat.succ_pos _) (q:=oE+0 * 4) Z)<|.yw (.loadMW Z eC mE lE)<|.yw (.call CZ Z (λW s=>zX H e0 cE W rE s.agr))<|.az Z<|.bR<|.tR<|?_
  refine y9 Z Z λW s=>⟨?_,s.ext⟩
  first
   | (rw [oK (ez.symm.trans h38)])
   | (rw [eP (by rw [nA h39,aM (aJ (by rw [h66] at ew;exact ew.symm))])])
   | (rw [eP (by rw [nD h39 h67,aM (aJ (by rw [h92] at ea;exact ea.symm))])])
   | (rw [eP (by rw [nB h39 h67,aM (aJ (by rw [h93] at en;exact en.symm))])])
   | (rw [cJ (ez.symm.trans h38) hb,uE q7,h109,aA,rD])
   | (rw [cJ (ez.symm.trans h38) hb,uE q7,h109];rfl)
   | (rw [cJ (ez.symm.trans h38) hb,DF q7 hlx])
   | (rw [cJ (ez.symm.trans h38) hb,yX q3])
   | (rw [cJ (ez.symm.trans h38) hb,GM q5])
   | (rw [cJ (ez.symm.trans h38) hb,jR q18,h146,h153,aA,aA])
   | (rw [cJ (ez.symm.trans h38) hb,jR q18,h146,h153];rfl)
   | (rw [cJ (ez.symm.trans h38) hb,jR q18,h146];rfl)
   | (rw [cJ (ez.symm.trans h38) hb,HQ q7 hlx q3 q5 q18])
 have q5:¬ op=5:=λe=>aP h131 (by rw [e];rfl);refine .sr<|.yw (.eql Z Z)<|.aq Z<|.cd Z (λh138=>?_) (λh138=>?_)
 ·have q18:op=18:=aS.1 (by have:=aJ h138;show op.toNat=18;omega);obtain ⟨e0,rfl⟩:∃ e0,ex=[e0]:=List.length_eq_one_iff.1 (by rw [hlx,q18];rfl);obtain ⟨bE,oE,cE,hpE,rE,lE,mE⟩:=hs1.elem (i:=0) (d:=dEx .u8 e0) rfl;cases hpE;obtain ⟨op0,nm0,m0,args0⟩:=e0;obtain ⟨p9,c9,rfl,hs9,hn9⟩:=fX rE;refine .sr<|.fA Z cY<|.lD Z dQ dC Z<|.yw (.indexSl dW Z Z (i:=0) Z (Nat.succ_pos _) (q:=oE+0 * 4) Z)<|.fA Z iI<|.yw (.loadM Z kW mE (k:=0) Z Z)<|.yw (.eql Z Z)<|.mv Z<|.b2 (λh146=>?_) (λh146=>?_)
  ·refine .gy (.fieldAddr Z cY)<|.gy (.load Z dQ dC Z)<|.gy (.indexSl dW Z Z (i:=0) Z (Nat.succ_pos _) (q:=oE+0 * 4) Z)<|.gy (.loadMW Z eC mE lE)<|.gy (.call CZ Z (λW s=>zX H _ _ W rE s.agr))<|.yw (.pickT Z Z)<|.mv Z<|.b2 (λh153=>?_) (λh153=>?_)
   ·refine .gy (.fieldAddr Z cY)<|.gy (.load Z dQ dC Z)<|.gy (.indexSl dW Z Z (i:=0) Z (Nat.succ_pos _) (q:=oE+0 * 4) Z)<|.gy (.fieldAddr Z gZ)<|.gy (.loadM Z eS mE (k:=2) Z Z)<|.gy (.leq Z Z)<|.yw (.pickT Z Z)<|.az Z<|.bR<|.tR<|?_
    refine y9 Z Z λW s=>⟨?_,s.ext⟩
    first
     | (rw [oK (ez.symm.trans h38)])
     | (rw [eP (by rw [nA h39,aM (aJ (by rw [h66] at ew;exact ew.symm))])])
     | (rw [eP (by rw [nD h39 h67,aM (aJ (by rw [h92] at ea;exact ea.symm))])])
     | (rw [eP (by rw [nB h39 h67,aM (aJ (by rw [h93] at en;exact en.symm))])])
     | (rw [cJ (ez.symm.trans h38) hb,uE q7,h109,aA,rD])
     | (rw [cJ (ez.symm.trans h38) hb,uE q7,h109];rfl)
     | (rw [cJ (ez.symm.trans h38) hb,DF q7 hlx])
     | (rw [cJ (ez.symm.trans h38) hb,yX q3])
     | (rw [cJ (ez.symm.trans h38) hb,GM q5])
     | (rw [cJ (ez.symm.trans h38) hb,jR q18,h146,h153,aA,aA])
     | (rw [cJ (ez.symm.trans h38) hb,jR q18,h146,h153];rfl)
     | (rw [cJ (ez.symm.trans h38) hb,jR q18,h146];rfl)
     | (rw [cJ (ez.symm.trans h38) hb,HQ q7 hlx q3 q5 q18])
   refine .gG<|.gG<|.gG<|.gG<|.gG<|.gG<|.yw (.pickF Z Z)<|.az Z<|.bR<|.tR<|?_
   refine y9 Z Z λW s=>⟨?_,s.ext⟩
   first
    | (rw [oK (ez.symm.trans h38)])
    | (rw [eP (by rw [nA h39,aM (aJ (by rw [h66] at ew;exact ew.symm))])])
    | (rw [eP (by rw [nD h39 h67,aM (aJ (by rw [h92] at ea;exact ea.symm))])])
    | (rw [eP (by rw [nB h39 h67,aM (aJ (by rw [h93] at en;exact en.symm))])])
    | (rw [cJ (ez.symm.trans h38) hb,uE q7,h109,aA,rD])
    | (rw [cJ (ez.symm.trans h38) hb,uE q7,h109];rfl)
    | (rw [cJ (ez.symm.trans h38) hb,DF q7 hlx])
    | (rw [cJ (ez.symm.trans h38) hb,yX q3])
    | (rw [cJ (ez.symm.trans h38) hb,GM q5])
    | (rw [cJ (ez.symm.trans h38) hb,jR q18,h146,h153,aA,aA])
    | (rw [cJ (ez.symm.trans h38) hb,jR q18,h146,h153];rfl)
    | (rw [cJ (ez.symm.trans h38) hb,jR q18,h146];rfl)
    | (rw [cJ (ez.symm.trans h38) hb,HQ q7 hlx q3 q5 q18])
  refine .gG<|.gG<|.gG<|.gG<|.gG<|.yw (.pickF Z Z)<|.mv Z<|.gG<|.gG<|.gG<|.gG<|.gG<|.gG<|.yw (.pickF Z Z)<|.az Z<|.bR<|.tR<|?_
  refine y9 Z Z λW s=>⟨?_,s.ext⟩
  first
   | (rw [oK (ez.symm.trans h38)])
   | (rw [eP (by rw [nA h39,aM (aJ (by rw [h66] at ew;exact ew.symm))])])
   | (rw [eP (by rw [nD h39 h67,aM (aJ (by rw [h92] at ea;exact ea.symm))])])
   | (rw [eP (by rw [nB h39 h67,aM (aJ (by rw [h93] at en;exact en.symm))])])
   | (rw [cJ (ez.symm.trans h38) hb,uE q7,h109,aA,rD])
   | (rw [cJ (ez.symm.trans h38) hb,uE q7,h109];rfl)
   | (rw [cJ (ez.symm.trans h38) hb,DF q7 hlx])
   | (rw [cJ (ez.symm.trans h38) hb,yX q3])
   | (rw [cJ (ez.symm.trans h38) hb,GM q5])
   | (rw [cJ (ez.symm.trans h38) hb,jR q18,h146,h153,aA,aA])
   | (rw [cJ (ez.symm.trans h38) hb,jR q18,h146,h153];rfl)
   | (rw [cJ (ez.symm.trans h38) hb,jR q18,h146];rfl)
   | (rw [cJ (ez.symm.trans h38) hb,HQ q7 hlx q3 q5 q18])
 have q18:¬ op=18:=λe=>aP h138 (by rw [e];rfl);refine .sk<|.bN<|.tN<|.sr<|.az Z<|?_
 refine y9 Z Z λW s=>⟨?_,s.ext⟩
 first
  | (rw [oK (ez.symm.trans h38)])
  | (rw [eP (by rw [nA h39,aM (aJ (by rw [h66] at ew;exact ew.symm))])])
  | (rw [eP (by rw [nD h39 h67,aM (aJ (by rw [h92] at ea;exact ea.symm))])])
  | (rw [eP (by rw [nB h39 h67,aM (aJ (by rw [h93] at en;exact en.symm))])])
  | (rw [cJ (ez.symm.trans h38) hb,uE q7,h109,aA,rD])
  | (rw [cJ (ez.symm.trans h38) hb,uE q7,h109];rfl)
  | (rw [cJ (ez.symm.trans h38) hb,DF q7 hlx])
  | (rw [cJ (ez.symm.trans h38) hb,yX q3])
  | (rw [cJ (ez.symm.trans h38) hb,GM q5])
  | (rw [cJ (ez.symm.trans h38) hb,jR q18,h146,h153,aA,aA])
  | (rw [cJ (ez.symm.trans h38) hb,jR q18,h146,h153];rfl)
  | (rw [cJ (ez.symm.trans h38) hb,jR q18,h146];rfl)
  | (rw [cJ (ez.symm.trans h38) hb,HQ q7 hlx q3 q5 q18])
set_option maxHeartbeats 2000000 in
theorem aL3 (H:Hp) (f:Fm) (most N:Nat) (hm:most<=9223372036854775807) (hb:blF N f=true) (hc:f.count<=9000000000000000000\/most<=1000000000000) (hN:N * (most+1)<=100000000000\/N * f.count<=100000000000) (hN1:N<=100000000000) (cs:List Value) (w:World) (h:Rep H (dFm .u8 f) cs) (hA:Agr H w):Calls prg 34 #[.agg cs.toArray,iN most] w λr w'=>r=.returned (iN (min f.count (most+1)))/\Ext w w':=by
 obtain ⟨op,nm,fd,a,b,ex,args⟩:=f;obtain ⟨p1,c1,p2,c2,rfl,hs1,hs2,hnm,hfd⟩:=gR h;refine Sx.enter (H:=H) func34 rfl ntmps34 rfl hA ?_;refine .sr<|.bx Z Z Z λb2=>.a Z Z<|.ns<|.a Z Z<|.ns<|.yw (.loadW Z cQ Hm Z)<|.blR (z:=7) Z (AO _ _ _ _ _ _ _) Z Z (by simp [maxLen]) λb13=>.aq Z<|.sq<|?_
 refine Sx.row0 76 4 ?_;refine .rg<|.aq Z<|.sq<|.bk<|.pm [1,0,2] [_,_,_] Z Z<|.lp (X:=Nat × List Fm × List Ex × Value × Value × List Value × List Value) [(1,_)] ⟨Z,Jt⟩ [] (λz=>[(5,iN z.1),(6,z.2.2.2.1),(7,z.2.2.2.2.1)]) (λz=>H) (λz=>[.row 35 7 z.2.2.2.1 z.2.1.length z.2.2.2.2.2.1,.row 76 4 z.2.2.2.2.1 z.2.2.1.length z.2.2.2.2.2.2,.box b2 [.int .u8 op.toNat,cH nm,cH fd,.int .i64 a.toInt,.int .i64 b.toInt,.slice p1 ex.length c1,.slice p2 args.length c2] 35]) (λz=>eR H 7 (z.2.1.map (dFm .u8)) z.2.2.2.2.2.1/\eR H 4 (z.2.2.1.map (dEx .u8)) z.2.2.2.2.2.2/\z.1+(Fm.counts z.2.1+Ex.counts z.2.2.1)=Fm.count (.mk op nm fd a b ex args)/\z.1<=most+1/\(∀ g∈z.2.1,blF N g=true)/\(∀ e∈z.2.2.1,blE N e=true)/\(z.2.1.length+z.2.2.1.length<=1+2 * (N * z.1))) (λz=>Fm.count (.mk op nm fd a b ex args) - z.1) (0,[Fm.mk op nm fd a b ex args],[],.slice (some ⟨b13,0,none⟩) 1 1,.slice none 0 0,[.int .u8 op.toNat,cH nm,cH fd,.int .i64 a.toInt,.int .i64 b.toInt,.slice p1 ex.length c1,.slice p2 args.length c2],[]) (λ_ s=>s) ⟨Z,Z,Z,Jt⟩ ⟨.single h Z,.nil,by rw [Fm.counts,Fm.counts,Ex.counts];omega,aR _,λg hg=>by rw [cI.1 hg];exact hb,λe he=>(by cases he),by simp⟩ λz hC=>?_
 obtain ⟨n,fs,ts,rf,rt,xf,xt⟩:=z;obtain ⟨zf,zt,hcnt,hn,hbf,hbt,hlen⟩:=hC;dsimp only at zf zt hcnt hn hbf hbt hlen|-;have hNn:N * n<=N * (most+1):=uB N hn;have hNc:N * n<=N * Fm.count (.mk op nm fd a b ex args):=uB N (by omega)
 have hNm:N * n<=100000000000:=by
  rcases hN with h | h <;> omega
 refine At.ra (size:=7) (r:=rf) (e:=35) Hm λpf cf e=>?_;subst e;refine At.ra (size:=4) (r:=rt) (e:=76) dC λpt ct e=>?_;subst e;refine .sq<|.sm Z<|.mv Z<|.yw (.leq Z Z)<|.mv Z<|.b2 (λh17=>?_) (λh17=>?_)
 ·have hle:n<=most:=by have:=aJ h17;omega
  refine .gy (.move Z)<|.gy (.lenSl qD Z)<|.gy (.move Z)<|.gy (.lenSl dW Z)<|.gy (.add Z Z (c:=((fs.length+ts.length:Nat):Int)) ((w6 (by omega)).trans (by omega)))<|.gy (.gtr Z Z)<|.yw (.pickT Z Z)<|.nt<|.cd Z (λh24=>?_) (λh24=>?_)
  ·have hpos:0<fs.length+ts.length:=by have:=aJ h24;omega
   replace h24:=hpos;refine .sk<|.tN<|.bk<|.sm Z<|.yw (.add Z Z (c:=((n+1:Nat):Int)) ((w6 (by omega)).trans (by omega)))<|.aq Z<|.sq<|.sm Z<|.yw (.lenSl dW Z)<|.yw (.sub Z Z (c:=(ts.length:Int) - 1) (w6 (by omega)))<|.a Z Z<|.ns<|.mv Z<|.yw (.geq Z Z)<|.nt<|.ce Z (λh31=>?_) (λh31=>?_)
   ·obtain ⟨ts0,e0,rfl⟩:∃ ts0 e0,ts=ts0++[e0]:=by
     rcases List.eq_nil_or_concat ts with h | ⟨t,x,h⟩
     ·subst h;exact (by simp at h31)
     ·exact ⟨t,x,by rw [h,List.concat_eq_append]⟩
    have hl0:(ts0++[e0]).length=ts0.length+1:=by rw [aH];rfl
    refine Sx.rowCase (size:=4) (r:=.slice pt (ts0++[e0]).length ct) (e:=76) dC (by rw [hl0];exact Nat.succ_pos _) λg c e hgc=>?_;injection e with e3 _ e4
    subst e3 e4;obtain ⟨cs0,r0,hc0,hx0⟩:=eR.at zt (i:=ts0.length) (d:=dEx .u8 e0) (by rw [cL,List.getElem?_append_right (by rw [bJ];exact bK _),bJ,mR];rfl);obtain ⟨op0,nm0,m0,args0⟩:=e0;obtain ⟨p0,c0,rfl,hs0,_⟩:=fX r0;have hb0:=(SZ.1 (hbt _ (cV.2 (.inr (cI.2 rfl)))))
    have hz0:eR H 4 (ts0.map (dEx .u8)) (xt.take (ts0.length * 4)):=by
     have h:=eR.take ts0.length zt;rw [cL,List.take_left' (by rw [bJ])] at h;exact h
    rw [lU,Ex.counts,Ex.counts,kC] at hcnt;rw [hl0] at hlen;have hNs:N * (n+1)=N * n+N:=Nat.mul_succ N n;refine .sm Z<|.mv Z<|.yw (.indexSl dW Z Z (i:=ts0.length) (by rw [hl0];omega) (by rw [hl0];omega) (q:=ts0.length * 4) (by omega))<|.yw (.loadR (vs:=[.int .u8 op0.toNat,cH nm0,.int .i64 m0.toInt,.slice p0 args0.length c0]) Z eC dC Z hx0)<|.al lI Z λb9=>.sX .head Z Z gQ Z<|?_
    refine Sx.At.rcut (size:=4) (m:=ts0.length) (ys:=xt.take (ts0.length * 4)) oV (by rw [hl0];exact Nat.le_succ _) rfl ?_;exact .nt<|.sq<|.fL 6 [(0,0),(1,0),(2,0),(3,0),(4,0),(5,3)]<|.mv Z<|.mv Z<|.yw (.cutHi dW Z Z (h:=ts0.length) (by rw [hl0];omega) (by rw [hl0] at hgc;omega) (λq e=>by cases e;rfl))<|.fA Z eJ<|.lD Z dQ Hm Z<|.apD vN Z (λ_ _=>oV) Z hs0 (by simp only [maxLen];omega) (by omega) Z (λ_ _=>(.d3<|.d2<|.nl)) λnews pN cN hzn=>.fn (tl:=[_]) Z<|.aq Z<|.ex<|.tE<|.bE<|.tN<|.ag (x:=(n,fs,ts0++[Ex.mk op0 nm0 m0 args0],Value.slice pf fs.length cf,Value.slice (some ⟨g,0,none⟩) (ts0++[Ex.mk op0 nm0 m0 args0]).length ct,xf,xt)) (n+1,fs,ts0++args0,Value.slice pf fs.length cf,Value.slice pN (ts0.length+args0.length) cN,xf,xt.take (ts0.length * 4)++news) ⟨Z,Z,Z,Jt⟩ ⟨Z,Jt⟩ (λ_ s=>by dsimp only;rw [aH];exact (s.pick [1,2,3] _ Z Z)) ⟨zf,by rw [cL];exact hz0.app hzn,by dsimp only;rw [lU];omega,by dsimp only;omega,hbf,λe he=>by rcases cV.1 he with h | h;exact hbt e (cV.2 (.inl h));exact hb0.2 e h,by dsimp only;rw [aH,hNs];omega⟩ (by dsimp only;omega)
   have hts:ts=[]:=by
    cases ts with
    | nil=>rfl
    | cons t r=>simp at h31 <;> omega
   subst hts;obtain rfl:xt=[]:=zt
   obtain ⟨fs0,f0,rfl⟩:∃ fs0 f0,fs=fs0++[f0]:=by
    rcases List.eq_nil_or_concat fs with h | ⟨t,x,h⟩
    ·subst h;simp at h24
    ·exact ⟨t,x,by rw [h,List.concat_eq_append]⟩
   have hl0:(fs0++[f0]).length=fs0.length+1:=by rw [aH];rfl
   refine Sx.rowCase (size:=7) (r:=.slice pf (fs0++[f0]).length cf) (e:=35) Hm (by rw [hl0];exact Nat.succ_pos _) λg c e hgc=>?_;injection e with e3 _ e4
   subst e3 e4;obtain ⟨cs0,r0,hc0,hx0⟩:=eR.at zf (i:=fs0.length) (d:=dFm .u8 f0) (by rw [cL,List.getElem?_append_right (by rw [bJ];exact bK _),bJ,mR];rfl);obtain ⟨op0,nm0,fd0,a0,b0,ex0,args0⟩:=f0;obtain ⟨q1,d1,q2,d2,rfl,hs0,hs3,_,_⟩:=gR r0;have hb0:=(AG.1 (hbf _ (cV.2 (.inr (cI.2 rfl)))))
   have hz0:eR H 7 (fs0.map (dFm .u8)) (xf.take (fs0.length * 7)):=by
    have h:=eR.take fs0.length zf;rw [cL,List.take_left' (by rw [bJ])] at h;exact h
   rw [pR,Fm.counts,Fm.counts,pJ] at hcnt;rw [hl0] at hlen;have hNs:N * (n+1)=N * n+N:=Nat.mul_succ N n;refine .sk<|.tN<|.sm Z<|.yw (.lenSl qD Z)<|.yw (.sub Z Z (c:=((fs0.length:Nat):Int)) (by rw [hl0];exact (w6 (by omega)).trans (by omega)))<|.a Z Z<|.ns<|.mv Z<|.mv Z<|.yw (.indexSl qD Z Z (i:=fs0.length) Z (by rw [hl0];omega) (q:=fs0.length * 7) (by omega))<|.yw (.loadR (vs:=cFm .u8 op0 nm0 fd0 a0 b0 (.slice q1 ex0.length d1) (.slice q2 args0.length d2)) Z cQ Hm Z hx0)<|.al fV Z λb11=>.sX .head Z Z dM Z<|?_
   refine Sx.At.rcut (size:=7) (m:=fs0.length) (ys:=xf.take (fs0.length * 7)) mD (by rw [hl0];exact Nat.le_succ _) rfl ?_;refine .nt<|.sq<|.fL 6 [(0,0),(1,0),(2,0),(3,0),(4,0),(5,3)]<|.mv Z<|.mv Z<|.yw (.cutHi qD Z Z (h:=fs0.length) Z (by rw [hl0] at hgc;omega) (λq e=>by cases e;rfl))<|.fA Z hI<|.lD Z qS Hm Z<|.apD WO Z (λ_ _=>mD) Z hs3 (by simp only [maxLen];omega) (by omega) Z (λ_ _=>(.d3<|.d2<|.nl)) λnews pN cN hzn=>.fn (tl:=[_]) Z<|.aq Z<|.rg<|.mv Z<|.fA Z cY<|.lD Z dQ Hm Z<|.apD vN Z (λ_ _=>oV) Z hs0 (by simp only [maxLen];omega) (by simp only [aL];omega) Z λnews2 r2 hzn2=>?_
   rw [show ([]:List Ex).length+ex0.length=ex0.length from dV _];exact .a Z Z<|.nl<|.bN<|.tN<|.ag (x:=(n,fs0++[Fm.mk op0 nm0 fd0 a0 b0 ex0 args0],([]:List Ex),Value.slice (some ⟨g,0,none⟩) (fs0++[Fm.mk op0 nm0 fd0 a0 b0 ex0 args0]).length cf,Value.slice pt 0 ct,xf,([]:List Value))) (n+1,fs0++args0,ex0,Value.slice pN (fs0.length+args0.length) cN,r2,xf.take (fs0.length * 7)++news,news2) ⟨Z,Z,Z,Jt⟩ ⟨Z,Jt⟩ (λ_ s=>by dsimp only;rw [aH];exact (s.pick [1,2,3] _ Z Z)) ⟨by rw [cL];exact hz0.app hzn,hzn2,by dsimp only;rw [pR];rw [Ex.counts] at hcnt;omega,by dsimp only;omega,λe he=>by rcases cV.1 he with h | h;exact hbf e (cV.2 (.inl h));exact hb0.2 e h,λe he=>hb0.1.2.2 e he,by dsimp only;rw [aH,hNs];simp only [aL] at hlen;omega⟩ (by dsimp only;omega)
  have hz24:¬ 0<fs.length+ts.length:=λe=>aP h24 (by omega);refine .ex<|.eb<|.sm Z<|.az Z<|?_
  refine y9 Z Z λW s=>⟨?_,s.ext⟩
  first
   | (rw [show n=min (Fm.count (.mk op nm fd a b ex args)) (most+1) by omega])
   | (rw [show n=min (Fm.count (.mk op nm fd a b ex args)) (most+1) from by (have h1:fs=[]:=bQ (by omega));(have h2:ts=[]:=bQ (by omega));subst h1;subst h2;rw [Fm.counts,Ex.counts] at hcnt;omega])
 have hgt:¬ n<=most:=λe=>aP h17 (by omega);refine .gG<|.gG<|.gG<|.gG<|.gG<|.gG<|.yw (.pickF Z Z)<|.nt<|.cF Z<|.ex<|.eb<|.sm Z<|.az Z<|?_
 refine y9 Z Z λW s=>⟨?_,s.ext⟩
 first
  | (rw [show n=min (Fm.count (.mk op nm fd a b ex args)) (most+1) by omega])
  | (rw [show n=min (Fm.count (.mk op nm fd a b ex args)) (most+1) from by (have h1:fs=[]:=bQ (by omega));(have h2:ts=[]:=bQ (by omega));subst h1;subst h2;rw [Fm.counts,Ex.counts] at hcnt;omega])
variable {f:Fm}
theorem bA4 (h:60<f.count):fO f=3:=by unfold fO;rw [aO (.inl h)]
theorem bA3 (h:Fm.all oS f=false):fO f=3:=by unfold fO;rw [aO (.inr h)]
theorem bU8 (h:¬ 60<f.count) (h2:Fm.all oS f=true):¬ (60<f.count\/Fm.all oS f=false):=λe=>by
 rcases e with e | e
 ·exact h e
 ·rw [h2] at e;cases e
theorem bA2 (h:¬ 60<f.count) (h2:Fm.all oS f=true) (h3:Fm.all rU f=false):fO f=9:=by unfold fO;rw [aG (bU8 h h2),aO h3]
theorem bA1 (h:¬ 60<f.count) (h2:Fm.all oS f=true) (h3:Fm.all rU f=true) (h4:Fm.all jQ f=false):fO f=6:=by unfold fO;rw [aG (bU8 h h2),aG (by rw [h3];decide),aO h4]
theorem bA0 (h:¬ 60<f.count) (h2:Fm.all oS f=true) (h3:Fm.all rU f=true) (h4:Fm.all jQ f=true):fO f=0:=by unfold fO;rw [aG (bU8 h h2),aG (by rw [h3];decide),aG (by rw [h4];decide)]
theorem EN (H:Hp) (G:Gl H) (Gt:Gf H) (f:Fm) (hb:blF 600000 f=true) (cs:List Value) (w:World) (h:Rep H (dFm .u8 f) cs) (hA:Agr H w):Calls prg 15 #[.agg cs.toArray] w λr w'=>r=.returned (iN (fO f))/\Ext w w':=by
 obtain ⟨op,nm,fd,a,b,ex,args⟩:=f;obtain ⟨p1,c1,p2,c2,rfl,hs1,hs2,hnm,hfd⟩:=gR h;refine Sx.enter (H:=H) func15 rfl ntmps15 rfl hA ?_;refine .sr<|.bx Z Z Z λb1=>.aq Z<|.sq<|.bk<|.sq<|.sr<|.yw (.loadW Z cQ Hm Z)<|.yw (.call aO7 Z (λW s=>aL3 H (.mk op nm fd a b ex args) 60 600000 (by decide) hb (.inr (by decide)) (.inl (by decide)) (by decide) _ W h s.agr))<|.yw (.gtr Z Z)<|.aq Z<|.cr Z (λh3=>?_) (λh3=>?_)
 ·have hc:60<Fm.count (.mk op nm fd a b ex args):=by have:=aJ h3;omega
  refine .sk<|.tN<|.cT Z<|.sr<|.az Z<|.bR<|.tR<|?_
  refine y9 Z Z λW s=>⟨?_,s.ext⟩
  first
   | (rw [bA4 hc];rfl)
   | (rw [bA3 hs];rfl)
   | (rw [bA2 hc hs hn];rfl)
   | (rw [bA1 hc hs hn hf];rfl)
   | (rw [bA0 hc hs hn hf];rfl)
 have hc:¬ 60<Fm.count (.mk op nm fd a b ex args):=λe=>aP h3 (by omega);refine .rg<|.yw (.loadW Z cQ Hm Z)<|.yw (.call DC Z (λW s=>HS H 36 oS bZ8 aO6 (λf hp=>UH H f hp) _ (YK _ (by omega)) _ W h s.agr))<|.yw (.not Z)<|.aq Z<|.cr Z (λh3=>?_) (λh3=>?_)
 ·have hs:Fm.all oS (.mk op nm fd a b ex args)=false:=by simpa using h3
  refine .sr<|.az Z<|.bR<|.tR<|?_
  refine y9 Z Z λW s=>⟨?_,s.ext⟩
  first
   | (rw [bA4 hc];rfl)
   | (rw [bA3 hs];rfl)
   | (rw [bA2 hc hs hn];rfl)
   | (rw [bA1 hc hs hn hf];rfl)
   | (rw [bA0 hc hs hn hf];rfl)
 have hs:Fm.all oS (.mk op nm fd a b ex args)=true:=by simpa using h3
 refine .sr<|.yw (.loadW Z cQ Hm Z)<|.yw (.call DC Z (λW s=>HS H 37 rU (λ_=>true) aO5 (λf _=>aJ0 H G Gt f) _ (JF _) _ W h s.agr))<|.yw (.not Z)<|.aq Z<|.cd Z (λh10=>?_) (λh10=>?_)
 ·have hn:Fm.all rU (.mk op nm fd a b ex args)=false:=by simpa using h10
  refine .sr<|.az Z<|.bR<|.tR<|?_
  refine y9 Z Z λW s=>⟨?_,s.ext⟩
  first
   | (rw [bA4 hc];rfl)
   | (rw [bA3 hs];rfl)
   | (rw [bA2 hc hs hn];rfl)
   | (rw [bA1 hc hs hn hf];rfl)
   | (rw [bA0 hc hs hn hf];rfl)
 have hn:Fm.all rU (.mk op nm fd a b ex args)=true:=by simpa using h10
 refine .sr<|.yw (.loadW Z cQ Hm Z)<|.yw (.call DC Z (λW s=>HS H 38 jQ (λ_=>true) aO4 (λf _=>YI H Gt f) _ (JF _) _ W h s.agr))<|.yw (.not Z)<|.aq Z<|.cd Z (λh14=>?_) (λh14=>?_)
 ·have hf:Fm.all jQ (.mk op nm fd a b ex args)=false:=by simpa using h14
  refine .sr<|.az Z<|.bR<|.tR<|?_
  refine y9 Z Z λW s=>⟨?_,s.ext⟩
  first
   | (rw [bA4 hc];rfl)
   | (rw [bA3 hs];rfl)
   | (rw [bA2 hc hs hn];rfl)
   | (rw [bA1 hc hs hn hf];rfl)
   | (rw [bA0 hc hs hn hf];rfl)
 have hf:Fm.all jQ (.mk op nm fd a b ex args)=true:=by simpa using h14
 refine .sk<|.bN<|.tN<|.sr<|.az Z<|?_
 refine y9 Z Z λW s=>⟨?_,s.ext⟩
 first
  | (rw [bA4 hc];rfl)
  | (rw [bA3 hs];rfl)
  | (rw [bA2 hc hs hn];rfl)
  | (rw [bA1 hc hs hn hf];rfl)
  | (rw [bA0 hc hs hn hf];rfl)
theorem TW:∀ l,aS1 l=l.map λe=>(e.op,tmT e)
 | []=>by rw [aS1];rfl
 | e::r=>by rw [aS1,TW r];rfl
theorem VY:∀ l,aZ4 l=l.map λf=>(f.op,fmT f)
 | []=>by rw [aZ4];rfl
 | e::r=>by rw [aZ4,VY r];rfl
theorem vZ {op:UInt8} {nm:Str} {n:Int64} {args:List Ex} :tmT (.mk op nm n args)=aG8 op nm n (args.map λe=>(e.op,tmT e)):=by rw [tmT,TW]
theorem tU {op:UInt8} {nm fd:Str} {b:Int64} {ex:List Ex} {args:List Fm} :fmT (.mk op nm fd a b ex args)=MG (.mk op nm fd a b ex args) (args.map λf=>(f.op,fmT f)):=by rw [fmT,VY]
theorem hd0 {α β:Type} {f:α->β} {l:List α} {d:β} (h:0<l.length):(l.map f).headD d=f l[0]:=by
 cases l with
 | nil=>exact absurd h (Nat.lt_irrefl _)
 | cons a r=>rfl
theorem hd1 {α β:Type} {f:α->β} {l:List α} {d:β} (h:1<l.length):((l.map f).drop 1).headD d=f l[1]:=by
 match l,h with
 | _::b::r,_=>rfl
theorem FI {op:UInt8} (h:op=14\/op=15):tlv op=4:=by unfold tlv;rw [aO h]
theorem yD {op:UInt8} (h:op=11\/op=12\/op=13):tlv op=5:=by unfold tlv;rw [aG (by rcases h with rfl | rfl | rfl <;> decide),aO h]
theorem XI {op:UInt8} (h:op=9):tlv op=6:=by subst h;rfl
theorem XH {op:UInt8} (h1:¬ op=14) (h2:¬ op=15) (h3:¬ op=11) (h4:¬ op=12) (h5:¬ op=13) (h6:¬ op=9):tlv op=7:=by
 unfold tlv;rw [aG (by rintro (h | h);exact h1 h;exact h2 h),aG (by rintro (h | h | h);exact h3 h;exact h4 h;exact h5 h),aG h6]
theorem bP8 (op:UInt8):tlv op<=7:=by
 unfold tlv
 repeat' split
 all_goals omega
section
variable {op:UInt8} {nm:Str} {n:Int64} {args:List Ex}
theorem tm1 (h:op=1):tmT (.mk op nm n args)=Lib.itoa n.toInt:=by rw [vZ];subst h;rfl
theorem tm4 (h:op=4):tmT (.mk op nm n args)=[110,111,119]:=by rw [vZ];subst h;rfl
theorem tm5 (h:op=5):tmT (.mk op nm n args)=nm:=by rw [vZ];subst h;rfl
theorem tm6 (h:op=6) (h0:0<args.length):tmT (.mk op nm n args)=(nm++([91]:Str)++tmT args[0]++([93]:Str):Str):=by
 rw [vZ];subst h;show (nm++([91]:Str)++_++([93]:Str):Str)=_;rw [hd0 h0]
theorem tm8 (h:op=8):tmT (.mk op nm n args)=(([115,105,122,101,32]:Str)++nm):=by rw [vZ];subst h;rfl
theorem tm9 (h:op=9) (h0:0<args.length):tmT (.mk op nm n args)=(([45]:Str)++yF (decide (tlv args[0].op<6)) (tmT args[0]):Str):=by
 rw [vZ];subst h;show (([45]:Str)++yF _ _:Str)=_;rw [hd0 h0]
theorem tmb (h:op=11\/op=12\/op=13\/op=14\/op=15) (h0:0<args.length) (h1:1<args.length):tmT (.mk op nm n args)=(yF (decide (tlv args[0].op<tlv op)) (tmT args[0])++([32]:Str)++JI op++([32]:Str)++yF (decide (tlv args[1].op<tlv op+1)) (tmT args[1]):Str):=by
 rw [vZ];unfold aG8;rw [hd0 h0,hd1 h1];rcases h with rfl | rfl | rfl | rfl | rfl <;> rfl
theorem tmn (h1:¬ op=1) (h4:¬ op=4) (h5:¬ op=5) (h6:¬ op=6) (h8:¬ op=8) (h9:¬ op=9) (hb:¬ (op=11\/op=12\/op=13\/op=14\/op=15)):tmT (.mk op nm n args)=[95]:=by
 rw [vZ];unfold aG8;rw [aG h1,aG h4,aG h5,aG h6,aG h8,aG h9,aG hb]
end
theorem lP (b:Bool) (s:Str):s.length<=(yF b s).length/\(yF b s).length<=s.length+2:=by
 unfold yF;cases b
 ·rw [aG (by decide)];omega
 ·rw [aO rfl];simp only [aH,aI,aL];omega
theorem JS {l:List Str} {m:Nat} (h:∀ x∈l,x.length<=m) (i:Nat):(l.getD i []).length<=m:=by
 rw [List.getD_eq_getElem?_getD];cases e:l[i]? with
 | none=>exact aR _
 | some x=>exact h x (Al_List_mem_of_getElem? e)
theorem wS (op:UInt8):(JI op).length<=2:=JS (l:=xB) (by decide) _
theorem GY (op:UInt8):(uF op).length<=8:=JS (l:=SK) (by decide) _
theorem KV {op:UInt8} {nm:Str} {n:Int64} {args:List Ex} (h:op=6\/op=9) (hT:dS (.mk op nm n args)=true):args.length=1/\∀ a∈args,dS a=true:=by
 rw [qI,aF,bC] at hT;refine ⟨?_,hT.2⟩;have h1:=hT.1;unfold TR at h1;simp only [aF,aD] at h1;have h2:=h1.1.1.1.2;rcases h with rfl | rfl
 ·exact Int.ofNat_inj.1 (h2.symm.trans (by decide))
 ·exact Int.ofNat_inj.1 (h2.symm.trans (by decide))
theorem XK {op:UInt8} {nm:Str} {n:Int64} {args:List Ex} (h:op=11\/op=12\/op=13\/op=14\/op=15) (hT:dS (.mk op nm n args)=true):args.length=2/\∀ a∈args,dS a=true:=by
 rw [qI,aF,bC] at hT;refine ⟨?_,hT.2⟩;have h1:=hT.1;unfold TR at h1;simp only [aF,aD] at h1;have h2:=h1.1.1.1.2;rcases h with rfl | rfl | rfl | rfl | rfl <;> exact Int.ofNat_inj.1 (h2.symm.trans (by decide))
def nlE (e:Ex):Bool:=Ex.all (λe=>decide (e.nm.length<=1000000)) e
theorem FH (e:Ex) (hn:nlE e=true):(tmT e).length<=1000100 * e.count:=by
 induction e using Ex.ind with | _ op nm n args ih
 unfold nlE at hn;rw [lS,lC,aF,aD,bC] at hn;obtain ⟨hn,ha⟩:=hn;have hn':nm.length<=1000000:=hn
 have hx:∀ (l:List (UInt8 × Str)),l=args.map (λe=>(e.op,tmT e))->(l.headD (0,[])).2.length+((l.drop 1).headD (0,[])).2.length<=1000100 * Ex.counts args:=by
  rintro l rfl
  match args,ih,ha with
  | [],_,_=>exact aR _
  | [a],ih,ha =>
   have:=ih a (bD ..) (ha a (bD ..));rw [Ex.counts,Ex.counts];show (tmT a).length+0<=_;omega
  | a::b::r,ih,ha =>
   have h1:=ih a (bD ..) (ha a (bD ..));have h2:=ih b (bZ _ (bD ..)) (ha b (bZ _ (bD ..)));rw [Ex.counts,Ex.counts];show (tmT a).length+(tmT b).length<=_;omega
 have hx:=hx _ rfl;rw [kC,vZ];unfold aG8;generalize args.map (λe=>(e.op,tmT e))=l at hx|-;have hi:=kR n;have p1:=(lP (decide (tlv (l.headD (0,[])).1<6)) (l.headD (0,[])).2).2;have p2:=(lP (decide (tlv (l.headD (0,[])).1<tlv op)) (l.headD (0,[])).2).2;have p3:=(lP (decide (tlv ((l.drop 1).headD (0,[])).1<tlv op+1)) ((l.drop 1).headD (0,[])).2).2;have p4:=wS op;generalize Ex.counts args=C at hx|-
 repeat' split
 all_goals (try simp only [aH,aI,aL]);omega
end Go.Proofs.YtidclioghdbphaaGreatDoor
