/- Texts of the proof, one behind the other. -/
import Derived.Test.YtidclioghdbphaaGreatDoorMh
import Derived.Test.YtidclioghdbphaaGreatDoorTie
import Derived.ProofKit
import Derived.OpenShut
import Derived.ShutString
import Derived.Lay
import Derived.Stop.LaidErr
import Derived.Stop.Joined
import Derived.Shelf.Vars
import Derived.Lib.LaidTab
import Derived.Lib.SmallJoins
import Derived.SevenTiedAt
import Derived.Test.YtidclioghdbphaaGreatDoorCards
set_option linter.all false
set_option maxRecDepth 100000
namespace Go.Proofs.YtidclioghdbphaaGreatDoor
open Go.RowKit Go.Par Go.Sx _root_.Go.Proofs.Tryz
theorem PJ (H:Hp) (n:Nat):n<=9223372036854775807->∀ (w:World),Agr H w->Calls prg 47 #[.int .i64 (n:Nat)] w λr w'=>r=.returned (cH (Lib.decDigits n))/\Ext w w':=by
 induction n using Nat.strongRecOn with | _ n ih
 intro hn w hA;refine Sx.enter (H:=H) func47 rfl ntmps47 rfl hA ?_;refine .sr<|.aq Z<|.sq<|.sm Z<|.yw (.lss Z Z)<|.nt<|.ce Z (λh4=>?_) (λh4=>?_)
 ·exact absurd (by omega:False) id
 refine .sk<|.tN<|.sq<|.sm Z<|.yw (.lss Z Z)<|.nt<|.ce Z (λh10=>?_) (λh10=>?_)
 ·refine .sm Z<|.mv Z<|.yw (.add Z Z (c:=((n+1:Nat):Int)) ((w6 (by omega)).trans (by omega)))<|.yw (.cast (.midS (l:=aF4) dI Z Z Z (lo:=n) (hi:=n+1) Z Z (by omega) (by show n+1<=10;omega)) (by rw [yZ (by omega)]))<|.az Z<|.tR<|?_
  refine y9 Z Z λW s=>⟨?_,s.ext⟩
  first
   | (rfl)
   | (rw [KI (n:=n) (by omega)];rfl)
   | (rw [yZ (by omega)])
 refine .sk<|.tN<|.sm Z<|.yw (.quo Z Z (by decide) (c:=((n / 10:Nat):Int)) (by rw [jH (by omega)];exact (w6 (by omega)).trans (by omega)))<|.yw (.call tB Z (λW s=>ih (n / 10) (by omega) (by omega) W s.agr))<|.mv Z<|.yw (.rem Z Z (by decide) (c:=((n % 10:Nat):Int)) (by rw [cW (by omega)];omega))<|.yw (.call tB Z (λW s=>ih (n % 10) (by omega) (by omega) W s.agr))<|.yw (.app Z Z (by have:=zA (n:=n / 10) (by omega);have:=zA (n:=n % 10) (by omega);omega))<|.az Z<|?_
 refine y9 Z Z λW s=>⟨?_,s.ext⟩
 first
  | (rfl)
  | (rw [KI (n:=n) (by omega)];rfl)
  | (rw [yZ (by omega)])
theorem BU (H:Hp) (n:Int) (h1:-9223372036854775808<n) (h2:n<=9223372036854775807) (w:World) (hA:Agr H w):Calls prg 47 #[.int .i64 n] w λr w'=>r=.returned (cH (Lib.itoa n))/\Ext w w':=by
 by_cases h0:0<=n
 ·have h:=PJ H n.toNat (by omega) w hA;rw [show ((n.toNat:Nat):Int)=n by omega] at h;rw [Lib.itoa,aG (by omega)];exact h
 refine Sx.enter (H:=H) func47 rfl ntmps47 rfl hA ?_;refine .sr<|.aq Z<|.sq<|.sm Z<|.yw (.lss Z Z)<|.nt<|.ce Z (λh4=>?_) (λh4=>?_)
 ·refine .sm Z<|.yw (.neg64 Z (c:=((n.natAbs:Nat):Int)) (by omega) (by omega) (by omega))<|.yw (.call tB Z (λW s=>PJ H n.natAbs (by omega) W s.agr))<|.yw (.app Z Z (by have:=zA (n:=n.natAbs) (by omega);simp only [aI,aL];omega))<|.az Z<|.tR<|?_
  refine y9 Z Z λW s=>⟨?_,s.ext⟩
  first
   | (rw [Lib.itoa,aO (by omega)];rfl)
 exact absurd (by omega:False) id
theorem LY (H:Hp) (op:UInt8) (k1:1<=op.toNat) (k2:op.toNat<=18) (w:World) (hA:Agr H w):Calls prg 44 #[.int .i64 op.toNat] w λr w'=>r=.returned (iN ((cS op).lv))/\Ext w w':=by
 have hm:=bX5 k1 k2;refine Sx.enter (H:=H) func44 rfl ntmps44 rfl hA ?_;refine .sr<|.aq Z<|.sq<|.bk<|.sm Z<|.yw (.leq Z Z)<|.aq Z<|.cd Z (λh3=>?_) (λh3=>?_)
 ·have h3p:=aJ h3;refine .sr<|.az Z<|.bR<|.tR<|?_
  refine y9 Z Z λW s=>⟨?_,s.ext⟩
  first
   | (rw [(oJ op hm).1 (by omega)];rfl)
   | (rw [(oJ op hm).2.1 (by omega)];rfl)
   | (rw [(oJ op hm).2.2.1 (by omega) (by omega)])
   | (rw [(oJ op hm).2.2.2 (by omega) (by omega) (by omega)];rfl)
 have h3p:=aP h3;refine .sm Z<|.yw (.eql Z Z)<|.aq Z<|.cd Z (λh6=>?_) (λh6=>?_)
 ·have h6p:=aJ h6;refine .sr<|.az Z<|.bR<|.tR<|?_
  refine y9 Z Z λW s=>⟨?_,s.ext⟩
  first
   | (rw [(oJ op hm).1 (by omega)];rfl)
   | (rw [(oJ op hm).2.1 (by omega)];rfl)
   | (rw [(oJ op hm).2.2.1 (by omega) (by omega)])
   | (rw [(oJ op hm).2.2.2 (by omega) (by omega) (by omega)];rfl)
 have h6p:=aP h6;refine .sm Z<|.yw (.geq Z Z)<|.mv Z<|.b2 (λh12=>?_) (λh12=>?_)
 ·have h12p:=aJ h12;refine .gy (.move Z)<|.gy (.leq Z Z)<|.yw (.pickT Z Z)<|.aq Z<|.cd Z (λh9=>?_) (λh9=>?_)
  ·have h9p:=aJ h9;refine .sm Z<|.yw (.sub Z Z (c:=((12 - op.toNat:Nat):Int)) ((w6 (by omega)).trans (by omega)))<|.az Z<|.bR<|.tR<|?_
   refine y9 Z Z λW s=>⟨?_,s.ext⟩
   first
    | (rw [(oJ op hm).1 (by omega)];rfl)
    | (rw [(oJ op hm).2.1 (by omega)];rfl)
    | (rw [(oJ op hm).2.2.1 (by omega) (by omega)])
    | (rw [(oJ op hm).2.2.2 (by omega) (by omega) (by omega)];rfl)
  have h9p:=aP h9;refine .sk<|.bN<|.tN<|.sr<|.az Z<|?_
  refine y9 Z Z λW s=>⟨?_,s.ext⟩
  first
   | (rw [(oJ op hm).1 (by omega)];rfl)
   | (rw [(oJ op hm).2.1 (by omega)];rfl)
   | (rw [(oJ op hm).2.2.1 (by omega) (by omega)])
   | (rw [(oJ op hm).2.2.2 (by omega) (by omega) (by omega)];rfl)
 have h12p:=aP h12;refine .gG<|.gG<|.yw (.pickF Z Z)<|.aq Z<|.cF Z<|.sk<|.bN<|.tN<|.sr<|.az Z<|?_
 refine y9 Z Z λW s=>⟨?_,s.ext⟩
 first
  | (rw [(oJ op hm).1 (by omega)];rfl)
  | (rw [(oJ op hm).2.1 (by omega)];rfl)
  | (rw [(oJ op hm).2.2.1 (by omega) (by omega)])
  | (rw [(oJ op hm).2.2.2 (by omega) (by omega) (by omega)];rfl)
theorem LW (H:Hp) (f:Fm) (ha:-1000000<=f.a.toInt) (cs:List Value) (w:World) (h:Rep H (dFm .i64 f) cs) (hA:Agr H w):Calls prg 45 #[.agg cs.toArray] w λr w'=>r=.returned (cH (wnT f))/\Ext w w':=by
 obtain ⟨op,nm,fd,a,b,ex,args⟩:=f;replace ha:-1000000<=a.toInt:=ha;obtain ⟨p1,c1,p2,c2,rfl,hs1,hs2,hnm,hfd⟩:=gR h;have hi1:=kR a;have hi2:=kR b;refine Sx.enter (H:=H) func45 rfl ntmps45 rfl hA ?_;refine .sr<|.bx Z Z Z λb1=>.aq Z<|.sq<|.sr<|.fA Z hU<|.lD Z cC Hm Z<|.yw (.lss Z Z)<|.nt<|.cd Z (λh5=>?_) (λh5=>?_)
 ·have h5p:=aJ h5;refine .sr<|.az Z<|.tR<|?_
  refine y9 Z Z λW s=>⟨?_,s.ext⟩
  first
   | (unfold wnT;rw [aO (show (Fm.b (.mk op nm fd a b ex args)).toInt<0 from h5p)];rfl)
   | (unfold wnT;rw [aG (show ¬ (Fm.b (.mk op nm fd a b ex args)).toInt<0 from h5p)];rfl)
 have h5p:=aP h5;refine .sk<|.tN<|.sq<|.fL 10 [(0,0),(1,0),(2,0),(3,0),(4,0),(5,0),(6,0),(7,0),(8,0),(9,0)]<|.fA Z iK<|.lD Z cC Hm Z<|.yw (.call tB Z (λW s=>BU H a.toInt (by have:=a.le_toInt;omega) (by have:=a.toInt_lt;omega) W s.agr))<|.yw (.app Z Z (by simp only [aH,aI,aL];omega))<|.yw (.app Z Z (by simp only [aH,aI,aL];omega))<|.fA Z hU<|.lD Z cC Hm Z<|.yw (.call tB Z (λW s=>BU H b.toInt (by have:=b.le_toInt;omega) (by have:=b.toInt_lt;omega) W s.agr))<|.yw (.app Z Z (by simp only [aH,aI,aL];omega))<|.yw (.app Z Z (by simp only [aH,aI,aL];omega))<|.fn (tl:=[_]) Z<|.az Z<|?_
 refine y9 Z Z λW s=>⟨?_,s.ext⟩
 first
  | (unfold wnT;rw [aO (show (Fm.b (.mk op nm fd a b ex args)).toInt<0 from h5p)];rfl)
  | (unfold wnT;rw [aG (show ¬ (Fm.b (.mk op nm fd a b ex args)).toInt<0 from h5p)];rfl)
def bO8 (H:Hp) (f:Fm):Prop:=∀ (cs:List Value) (w:World),Rep H (dFm .i64 f) cs->Fm.all jQ f=true->Fm.all rU f=true->f.count<=60->Agr H w ->
 Calls prg 18 #[.agg cs.toArray] w λr w'=>r=.returned (cH (fmT f))/\Ext w w'
theorem CO (H:Hp) (f:Fm) (ht:bO8 H f) (cs:List Value) (h:Rep H (dFm .i64 f) cs) (hf:Fm.all jQ f=true) (hn:Fm.all rU f=true) (hc:f.count<=60) (k m:Nat) (hk:k+1=m) (w:World) (hA:Agr H w) :
 Calls prg 46 #[.agg cs.toArray,iN k] w λr w'=>r=.returned (cH (pfW m f))/\Ext w w':=by
 subst hk;have hl:=KC hf hn hc;obtain ⟨op,nm,fd,a,b,ex,args⟩:=f;have hop:=YJ (GI hf).1;obtain ⟨p1,c1,p2,c2,rfl,hs1,hs2,hnm,hfd⟩:=gR h;refine Sx.enter (H:=H) func46 rfl ntmps46 rfl hA ?_;refine .sr<|.bx Z Z Z λb2=>.aq Z<|.sq<|.sr<|.fA Z eZ<|.lD Z cC Hm Z<|.yw (.call QM Z (λW s=>LY H op hop.1 hop.2 W s.agr))<|.mv Z<|.yw (.leq Z Z)<|.nt<|.cd Z (λh9=>?_) (λh9=>?_)
 ·have h9p:=aJ h9;refine .sr<|.yw (.loadW Z dY Hm Z)<|.yw (.call DD Z (λW s=>ht _ W h hf hn hc s.agr))<|.yw (.app Z Z (by (try simp only [aH]);(try simp only [aI,aL]);omega))<|.yw (.app Z Z (by (try simp only [aH]);(try simp only [aI,aL]);omega))<|.az Z<|.tR<|?_
  refine y9 Z Z λW s=>⟨?_,s.ext⟩
  first
   | (unfold pfW;rw [show decide ((cS (Fm.op (.mk op nm fd a b ex args))).lv<k+1)=true from aK (show (cS op).lv<k+1 by omega)];rfl)
   | (unfold pfW;rw [show decide ((cS (Fm.op (.mk op nm fd a b ex args))).lv<k+1)=false from aM (show ¬ (cS op).lv<k+1 by omega)];rfl)
 have h9p:=aP h9;refine .sk<|.tN<|.sr<|.yw (.loadW Z dY Hm Z)<|.yw (.call DD Z (λW s=>ht _ W h hf hn hc s.agr))<|.az Z<|?_
 refine y9 Z Z λW s=>⟨?_,s.ext⟩
 first
  | (unfold pfW;rw [show decide ((cS (Fm.op (.mk op nm fd a b ex args))).lv<k+1)=true from aK (show (cS op).lv<k+1 by omega)];rfl)
  | (unfold pfW;rw [show decide ((cS (Fm.op (.mk op nm fd a b ex args))).lv<k+1)=false from aM (show ¬ (cS op).lv<k+1 by omega)];rfl)
variable {k:Nat}
theorem SF {ex:List Ex} (h:k<ex.length):tF (([44,32]:Str)) ((ex.map tmT).take (k+1))=if 0<k then tF (([44,32]:Str)) ((ex.map tmT).take k)++([44,32]:Str)++tmT ex[k] else tF (([44,32]:Str)) ((ex.map tmT).take k)++tmT ex[k]:=by
 rw [List.take_succ,List.getElem?_eq_getElem (by rw [bJ];exact h),rS];show tF _ (_++[tmT ex[k]])=_;rw [VI]
 by_cases h0:0<k
 ·rw [aO h0,aG];intro e;have:=congrArg List.length e;rw [dT,bJ,aL] at this;omega
 ·obtain rfl:k=0:=by omega
  rw [xY,aO rfl,aG (Nat.lt_irrefl 0)];rfl
theorem VH (sep:Str):∀ (l:List Str) (k:Nat),(tF sep (l.take k)).length<=(tF sep l).length
 | [],k=>by rw [List.take_nil];exact bK _
 | [x],0=>aR _
 | [x],k+1=>by rw [dR (by simp)];exact bK _
 | x::y::r,0=>aR _
 | x::y::r,1=>by
  show x.length<=(x++sep++tF sep (y::r)).length;simp only [aH];omega
 | x::y::r,k+2=>by
  have:=VH sep (y::r) (k+1);show (x++sep++tF sep ((y::r).take (k+1))).length<=(x++sep++tF sep (y::r)).length;simp only [aH];omega
theorem aY0 {ex:List Ex} (h4:ex.length<=4) (hx:∀ x∈ex,x=zE\/dS x=true) (hm:∀ x∈ex,pI x=false) (hc:Ex.counts ex<=60) (k:Nat):(tF (([44,32]:Str)) ((ex.map tmT).take k)).length<=7808:=by
 have h1:=VH (([44,32]:Str)) (ex.map tmT) k;have h2:=KB (([44,32]:Str)) (ex.map tmT)
 have h3:((ex.map tmT).map List.length).sum<=130 * Ex.counts ex:=by
  have key:∀ l:List Ex,(∀ x∈l,x=zE\/dS x=true)->(∀ x∈l,pI x=false)->((l.map tmT).map List.length).sum<=130 * Ex.counts l:=by
   intro l;induction l with
   | nil=>intro _ _;exact aR _
   | cons y r ih =>
    intro k1 k2;have i1:=ih (λx hx=>k1 x (bZ _ hx)) (λx hx=>k2 x (bZ _ hx));rw [dE,dE,List.sum_cons,Ex.counts]
    have:(tmT y).length<=130 * y.count:=by
     rcases k1 y (bD ..) with e | e
     ·rw [e];decide
     ·exact yM e (k2 y (bD ..))
    omega
  exact key ex hx hm
 rw [bJ] at h2;have e2:(([44,32]:Str)).length=2:=rfl;rw [e2] at h2;omega
theorem aK0 (H:Hp) (f:Fm) (hf:jQ f=true) (hn:rU f=true) (hc:f.count<=60) (h7:f.op.toNat<=7) (cs:List Value) (w:World) (h:Rep H (dFm .i64 f) cs) (hA:Agr H w) :
 Calls prg 43 #[.agg cs.toArray] w λr w'=>r=.returned (cH (fmT f))/\Ext w w':=by
 obtain ⟨op,nm,fd,a,b,ex,args⟩:=f;replace h7:op.toNat<=7:=h7;have hop:=YJ hf;have hg:=SP hf;obtain ⟨_,_,hms⟩:=aC9 hn;have hcx:Ex.counts ex<=60:=by rw [pJ] at hc;omega
 obtain ⟨p1,c1,p2,c2,rfl,hs1,hs2,hnm,hfd⟩:=gR h;have hcap:=hs1.cap;refine Sx.enter (H:=H) func43 rfl ntmps43 rfl hA ?_;refine .sr<|.bx Z Z Z λb1=>.aq Z<|.sq<|.sr<|.fA Z eZ<|.lD Z cC Hm Z<|.nt<|.bk<|.sr<|.yw (.eql Z Z)<|.aq Z<|.ce Z (λh8=>?_) (λh8=>?_)
 ·obtain rfl:op=1:=aS.1 (by show op.toNat=1;omega);refine .sr<|.az Z<|.bR<|.tR<|?_
  refine y9 Z Z λW s=>⟨?_,s.ext⟩
  first
   | (rw [tU];rfl)
   | (rw [fx3 (args0:=[x,y]) rfl rfl (by simp) (by simp)];rfl)
   | (rw [fx4 rfl];rfl)
   | (rw [fx5 rfl rfl];rfl)
   | (rw [fx6 rfl];rfl)
   | (rw [fx7 rfl,dR (by rw [bJ];exact bK _)];simp only [aX];rfl)
 have n1:¬ op.toNat=1:=by omega
 refine .sr<|.yw (.eql Z Z)<|.aq Z<|.ce Z (λh10=>?_) (λh10=>?_)
 ·obtain rfl:op=2:=aS.1 (by show op.toNat=2;omega);refine .sr<|.az Z<|.bR<|.tR<|?_
  refine y9 Z Z λW s=>⟨?_,s.ext⟩
  first
   | (rw [tU];rfl)
   | (rw [fx3 (args0:=[x,y]) rfl rfl (by simp) (by simp)];rfl)
   | (rw [fx4 rfl];rfl)
   | (rw [fx5 rfl rfl];rfl)
   | (rw [fx6 rfl];rfl)
   | (rw [fx7 rfl,dR (by rw [bJ];exact bK _)];simp only [aX];rfl)
 have n2:¬ op.toNat=2:=by omega
 refine .sr<|.yw (.eql Z Z)<|.aq Z<|.ce Z (λh12=>?_) (λh12=>?_)
 ·obtain rfl:op=3:=aS.1 (by show op.toNat=3;omega);obtain ⟨o,x,y,rfl,ho,hx,hy⟩:=fg3 hg;obtain ⟨bE,oE,cE,hpE,rE,lE,mE⟩:=hs1.elem (i:=0) (d:=dEx .i64 (.mk o [] 0 [x,y])) rfl;cases hpE;have hm3:=(YD (hms _ (cI.2 rfl))).2.2;obtain ⟨tx,tf⟩:=bC3 ho hx hy;have l1:=yM hx (hm3 x (by simp));have l2:=yM hy (hm3 y (by simp));have l3:=wS o;rw [pJ,Ex.counts,Ex.counts,kC,Ex.counts,Ex.counts,Ex.counts] at hc;refine .sr<|.fA Z eE<|.lD Z eQ Hm Z<|.yw (.indexSl eL Z Z (i:=0) Z (Nat.succ_pos _) (q:=oE+0 * 4) Z)<|.yw (.loadMW Z dH mE lE)<|.yw (.cast (.call tA Z (λW s=>tP H _ cE W rE tf (by rw [tx];simp only [aH,aI,aL];omega) s.agr)) (congrArg cH tx))<|.az Z<|.bR<|.tR<|?_
  refine y9 Z Z λW s=>⟨?_,s.ext⟩
  first
   | (rw [tU];rfl)
   | (rw [fx3 (args0:=[x,y]) rfl rfl (by simp) (by simp)];rfl)
   | (rw [fx4 rfl];rfl)
   | (rw [fx5 rfl rfl];rfl)
   | (rw [fx6 rfl];rfl)
   | (rw [fx7 rfl,dR (by rw [bJ];exact bK _)];simp only [aX];rfl)
 have n3:¬ op.toNat=3:=by omega
 refine .sr<|.yw (.eql Z Z)<|.aq Z<|.ce Z (λh19=>?_) (λh19=>?_)
 ·obtain rfl:op=4:=aS.1 (by show op.toNat=4;omega);refine .sr<|.fA Z kL<|.lD Z cP Hm Z<|.yw (.app Z Z (by (try simp only [aH]);(try simp only [aI,aL]);omega))<|.fA Z kK<|.lD Z cP Hm Z<|.yw (.app Z Z (by (try simp only [aH]);(try simp only [aI,aL]);omega))<|.az Z<|.bR<|.tR<|?_
  refine y9 Z Z λW s=>⟨?_,s.ext⟩
  first
   | (rw [tU];rfl)
   | (rw [fx3 (args0:=[x,y]) rfl rfl (by simp) (by simp)];rfl)
   | (rw [fx4 rfl];rfl)
   | (rw [fx5 rfl rfl];rfl)
   | (rw [fx6 rfl];rfl)
   | (rw [fx7 rfl,dR (by rw [bJ];exact bK _)];simp only [aX];rfl)
 have n4:¬ op.toNat=4:=by omega
 refine .sr<|.yw (.eql Z Z)<|.aq Z<|.ce Z (λh27=>?_) (λh27=>?_)
 ·obtain rfl:op=5:=aS.1 (by show op.toNat=5;omega);obtain ⟨x,rfl,hx⟩:=fg5 hg;obtain ⟨bE,oE,cE,hpE,rE,lE,mE⟩:=hs1.elem (i:=0) (d:=dEx .i64 x) rfl;cases hpE;have l1:=yM hx (hms x (by simp));rw [pJ,Ex.counts,Ex.counts] at hc;obtain ⟨tx,tf,_⟩:=FG x hx;refine .sq<|.fL 15 [(0,0),(1,0),(2,0),(3,0),(4,0),(5,0),(6,0),(7,0),(8,0),(9,0),(10,0),(11,0),(12,0),(13,0),(14,0)]<|.fA Z kL<|.lD Z cP Hm Z<|.yw (.app Z Z (by (try simp only [aH]);(try simp only [aI,aL]);omega))<|.yw (.app Z Z (by (try simp only [aH]);(try simp only [aI,aL]);omega))<|.fA Z kK<|.lD Z cP Hm Z<|.yw (.app Z Z (by (try simp only [aH]);(try simp only [aI,aL]);omega))<|.yw (.app Z Z (by (try simp only [aH]);(try simp only [aI,aL]);omega))<|.fA Z eE<|.lD Z eQ Hm Z<|.yw (.indexSl eL Z Z (i:=0) Z (Nat.succ_pos _) (q:=oE+0 * 4) Z)<|.yw (.loadMW Z dH mE lE)<|.yw (.cast (.call tA Z (λW s=>tP H _ cE W rE tf (by rw [tx];omega) s.agr)) (congrArg cH tx))<|.yw (.app Z Z (by (try simp only [aH]);(try simp only [aI,aL]);omega))<|.yw (.app Z Z (by (try simp only [aH]);(try simp only [aI,aL]);omega))<|.fn (tl:=[_]) Z<|.az Z<|.bR<|.tR<|?_
  refine y9 Z Z λW s=>⟨?_,s.ext⟩
  first
   | (rw [tU];rfl)
   | (rw [fx3 (args0:=[x,y]) rfl rfl (by simp) (by simp)];rfl)
   | (rw [fx4 rfl];rfl)
   | (rw [fx5 rfl rfl];rfl)
   | (rw [fx6 rfl];rfl)
   | (rw [fx7 rfl,dR (by rw [bJ];exact bK _)];simp only [aX];rfl)
 have n5:¬ op.toNat=5:=by omega
 refine .sr<|.yw (.eql Z Z)<|.aq Z<|.ce Z (λh44=>?_) (λh44=>?_)
 ·obtain rfl:op=6:=aS.1 (by show op.toNat=6;omega);refine .sr<|.fA Z kL<|.lD Z cP Hm Z<|.yw (.app Z Z (by (try simp only [aH]);(try simp only [aI,aL]);omega))<|.az Z<|.bR<|.tR<|?_
  refine y9 Z Z λW s=>⟨?_,s.ext⟩
  first
   | (rw [tU];rfl)
   | (rw [fx3 (args0:=[x,y]) rfl rfl (by simp) (by simp)];rfl)
   | (rw [fx4 rfl];rfl)
   | (rw [fx5 rfl rfl];rfl)
   | (rw [fx6 rfl];rfl)
   | (rw [fx7 rfl,dR (by rw [bJ];exact bK _)];simp only [aX];rfl)
 have n6:¬ op.toNat=6:=by omega
 obtain rfl:op=7:=aS.1 (by show op.toNat=7;omega);obtain ⟨h4x,hxs⟩:=fg7 hg;refine .sk<|.bN<|.tN<|.sr<|.fA Z kL<|.lD Z cP Hm Z<|.yw (.app Z Z (by (try simp only [aH]);(try simp only [aI,aL]);omega))<|.yw (.app Z Z (by (try simp only [aH]);(try simp only [aI,aL]);omega))<|.fA Z kK<|.lD Z cP Hm Z<|.yw (.app Z Z (by (try simp only [aH]);(try simp only [aI,aL]);omega))<|.yw (.cast (v':=cH (([97,114,114,105,118,101,115,32]:Str)++nm++([46]:Str)++fd++([40]:Str))) (.app (b:=([40]:Str)) Z Z (by simp only [aH,aI,aL];omega)) Z)<|.aq Z<|.sq<|.sr<|.fA Z eE<|.lD Z eQ Hm Z<|.yw (.lenSl eL Z)<|.mv Z<|.nt<|.bk<|.lp (X:=Nat) [(58,_),(59,_)] ⟨Z,Z,Jt⟩ [_] (λk=>[(3,cH ((([97,114,114,105,118,101,115,32]:Str)++nm++([46]:Str)++fd++([40]:Str))++tF (([44,32]:Str)) ((ex.map tmT).take k))),(60,iN k)]) (λk=>H) (λk=>[]) (λk=>k<=ex.length) (λk=>ex.length - k) 0 (λ_ s=>s) ⟨by rw [xY];exact congrArg (λs=>some (cH s)) (dU _).symm,Z,Jt⟩ (aR _) λk hC=>?_
 have hk0:=hC;refine .sr<|.yw (.lss Z Z)<|.nt<|.sq<|.ce Z (λh61=>?_) (λh61=>?_)
 ·have hk:k<ex.length:=by omega
  obtain ⟨bE,oE,cE,hpE,rE,lE,mE⟩:=hs1.elem (fW (f:=dEx .i64) hk);cases hpE;have hjl:=aY0 h4x hxs hms hcx k;have hml:=hms _ (bI hk);refine .sk<|.tN<|.sq<|.bk<|.sm Z<|.yw (.indexSl eL Z Z Z (by omega) (q:=oE+k * 4) Z)<|.yw (.loadMW Z dH mE lE)<|.al iM Z λb5=>.a Z Z<|.sV .head Z Z gP lE rE.one Z<|.nt<|.sq<|.sm Z<|.yw (.gtr Z Z)<|.nt<|.cd Z (λh66=>?_) (λh66=>?_)
  ·have h66p:=aJ h66;refine .rg<|.mv Z<|.yw (.app Z Z (by (try simp only [aH]);(try simp only [aI,aL]);omega))<|.a Z Z<|.ns<|.yw (.loadW Z dH Hm lE)<|.yw (.call IB Z (λW s=>LE H _ cE W rE s.agr))<|.nt<|.cd Z (λh70=>?_) (λh70=>?_)
   ·have hzv:tmT ex[k]=[95]:=by rw [YY h70];exact vZ
    exact .rg<|.mv Z<|.yw (.app Z Z (by (try simp only [aH]);(try simp only [aI,aL]);omega))<|.a Z Z<|.nl<|.bN<|.tN<|.rg<|.yw (.add Z Z w7)<|.mv Z<|.nt<|.ag (k+1) ⟨by rw [SF hk];first | exact congrArg (λs=>some (cH s)) (by rw [aO (by omega),hzv];simp only [aX]) | exact congrArg (λs=>some (cH s)) (by rw [aG (by omega),hzv];simp only [aX]),Z,Jt⟩ ⟨Z,Z,Jt⟩ (λ_ s=>s.pick [1] [_] Z Z) (by omega) (by omega)
   have hT:dS ex[k]=true:=by
    rcases hxs _ (bI hk) with e | e
    ·rw [e] at h70;cases (show true=false from h70)
    ·exact e
   obtain ⟨tx,tf,_⟩:=FG _ hT;have l1:=yM hT hml;have l2:=wG (bI hk);have hzv:tmT ex[k]=tmT ex[k]:=rfl;exact .rg<|.mv Z<|.yw (.loadW Z dH Hm lE)<|.yw (.cast (.call tA Z (λW s=>tP H _ cE W rE tf (by rw [tx];omega) s.agr)) (congrArg cH tx))<|.yw (.app Z Z (by (try simp only [aH]);(try simp only [aI,aL]);omega))<|.a Z Z<|.nl<|.bN<|.tN<|.rg<|.yw (.add Z Z w7)<|.mv Z<|.nt<|.ag (k+1) ⟨by rw [SF hk];first | exact congrArg (λs=>some (cH s)) (by rw [aO (by omega),hzv];simp only [aX]) | exact congrArg (λs=>some (cH s)) (by rw [aG (by omega),hzv];simp only [aX]),Z,Jt⟩ ⟨Z,Z,Jt⟩ (λ_ s=>s.pick [1] [_] Z Z) (by omega) (by omega)
  have h66p:=aP h66;refine .sk<|.tN<|.sr<|.yw (.loadW Z dH Hm lE)<|.yw (.call IB Z (λW s=>LE H _ cE W rE s.agr))<|.nt<|.cd Z (λh70=>?_) (λh70=>?_)
  ·have hzv:tmT ex[k]=[95]:=by rw [YY h70];exact vZ
   exact .rg<|.mv Z<|.yw (.app Z Z (by (try simp only [aH]);(try simp only [aI,aL]);omega))<|.a Z Z<|.nl<|.bN<|.tN<|.rg<|.yw (.add Z Z w7)<|.mv Z<|.nt<|.ag (k+1) ⟨by rw [SF hk];first | exact congrArg (λs=>some (cH s)) (by rw [aO (by omega),hzv];simp only [aX]) | exact congrArg (λs=>some (cH s)) (by rw [aG (by omega),hzv];simp only [aX]),Z,Jt⟩ ⟨Z,Z,Jt⟩ (λ_ s=>s.pick [1] [_] Z Z) (by omega) (by omega)
  have hT:dS ex[k]=true:=by
   rcases hxs _ (bI hk) with e | e
   ·rw [e] at h70;cases (show true=false from h70)
   ·exact e
  obtain ⟨tx,tf,_⟩:=FG _ hT;have l1:=yM hT hml;have l2:=wG (bI hk);have hzv:tmT ex[k]=tmT ex[k]:=rfl;exact .rg<|.mv Z<|.yw (.loadW Z dH Hm lE)<|.yw (.cast (.call tA Z (λW s=>tP H _ cE W rE tf (by rw [tx];omega) s.agr)) (congrArg cH tx))<|.yw (.app Z Z (by (try simp only [aH]);(try simp only [aI,aL]);omega))<|.a Z Z<|.nl<|.bN<|.tN<|.rg<|.yw (.add Z Z w7)<|.mv Z<|.nt<|.ag (k+1) ⟨by rw [SF hk];first | exact congrArg (λs=>some (cH s)) (by rw [aO (by omega),hzv];simp only [aX]) | exact congrArg (λs=>some (cH s)) (by rw [aG (by omega),hzv];simp only [aX]),Z,Jt⟩ ⟨Z,Z,Jt⟩ (λ_ s=>s.pick [1] [_] Z Z) (by omega) (by omega)
 obtain rfl:k=ex.length:=by omega
 have hjl:=aY0 h4x hxs hms hcx ex.length;refine .ex<|.eb<|.sm Z<|.yw (.app Z Z (by (try simp only [aH]);(try simp only [aI,aL]);omega))<|.az Z<|?_
 refine y9 Z Z λW s=>⟨?_,s.ext⟩
 first
  | (rw [tU];rfl)
  | (rw [fx3 (args0:=[x,y]) rfl rfl (by simp) (by simp)];rfl)
  | (rw [fx4 rfl];rfl)
  | (rw [fx5 rfl rfl];rfl)
  | (rw [fx6 rfl];rfl)
  | (rw [fx7 rfl,dR (by rw [bJ];exact bK _)];simp only [aX];rfl)
theorem aO3:cZ prg 43=true:=by kernel_rfl
theorem IE:cZ prg 45=true:=by kernel_rfl
theorem DB:cZ prg 46=true:=by kernel_rfl
theorem ZQ (x0 x1 x2 x3 x4 x5 x6:ByteArray):wH prg 71 7 [(0,.string x0),(1,.string x1),(2,.string x2),(3,.string x3),(4,.string x4),(5,.string x5),(6,.string x6)]=some (9,[.string x0,.string x1,.string x2,.string x3,.string x4,.string x5,.string x6]):=by kernel_rfl
variable {a:Int64}
theorem bC7 {b:Int64} (h:bnW a b):-1000000<=a.toInt/\-1000000<=b.toInt:=by
 rcases h with ⟨rfl,rfl⟩ | h
 ·decide
 ·omega
theorem bP7 {op:UInt8} {b:Int64} (ho:(op=9\/op=10\/op=11)/\a=0/\b=0\/op=15/\bnW a b):-1000000<=a.toInt/\9<=op.toNat/\op.toNat<=15/\1<=(cS op).lv:=by
 rcases ho with ⟨ho,rfl,rfl⟩ | ⟨rfl,h⟩
 ·rcases ho with rfl | rfl | rfl <;> decide
 ·exact ⟨(bC7 h).1,by decide⟩
theorem bR6 {op:UInt8} {b:Int64} {ex:List Ex} (h:((ex=[]/\(((op=8\/op=12)/\a=0/\b=0)\/((op=13\/op=14)/\bnW a b)\/((op=16\/op=17)/\-1000000<=a.toInt/\-1000000<=b.toInt)))\/(op=18/\(∃ n,ex=[.mk 1 [] n []]/\0<=n.toInt)/\-1000000<=a.toInt/\-1000000<=b.toInt))):-1000000<=a.toInt/\-1000000<=b.toInt/\8<=op.toNat/\op.toNat<=18:=by
 rcases h with ⟨_,⟨ho,rfl,rfl⟩ | ⟨ho,hw⟩ | ⟨ho,ha,hb⟩⟩ | ⟨rfl,_,ha,hb⟩
 ·rcases ho with rfl | rfl <;> decide
 ·rcases ho with rfl | rfl <;> exact ⟨(bC7 hw).1,(bC7 hw).2,by decide⟩
 ·rcases ho with rfl | rfl <;> exact ⟨ha,hb,by decide⟩
 ·exact ⟨ha,hb,by decide⟩
theorem bR7 {b:Int64} {ex:List Ex} (h:((ex=[]/\((((18:UInt8)=8\/(18:UInt8)=12)/\a=0/\b=0)\/(((18:UInt8)=13\/(18:UInt8)=14)/\bnW a b)\/(((18:UInt8)=16\/(18:UInt8)=17)/\-1000000<=a.toInt/\-1000000<=b.toInt)))\/((18:UInt8)=18/\(∃ n,ex=[.mk 1 [] n []]/\0<=n.toInt)/\-1000000<=a.toInt/\-1000000<=b.toInt))):∃ n,ex=[.mk 1 [] n []]/\0<=n.toInt:=by
 rcases h with ⟨_,⟨ho,_⟩ | ⟨ho,_⟩ | ⟨ho,_⟩⟩ | ⟨_,h,_⟩
 ·exact absurd ho (by decide)
 ·exact absurd ho (by decide)
 ·exact absurd ho (by decide)
 ·exact h
theorem bR4 {op:UInt8} {b:Int64} {ex:List Ex} (h:((ex=[]/\(((op=8\/op=12)/\a=0/\b=0)\/((op=13\/op=14)/\bnW a b)\/((op=16\/op=17)/\-1000000<=a.toInt/\-1000000<=b.toInt)))\/(op=18/\(∃ n,ex=[.mk 1 [] n []]/\0<=n.toInt)/\-1000000<=a.toInt/\-1000000<=b.toInt))) (h16:¬ 16<=op.toNat):ex=[]/\(((op=8\/op=12)/\a=0/\b=0)\/((op=13\/op=14)/\bnW a b)):=by
 rcases h with ⟨he,h | h | ⟨ho,_⟩⟩ | ⟨rfl,_⟩
 ·exact ⟨he,.inl h⟩
 ·exact ⟨he,.inr h⟩
 ·rcases ho with rfl | rfl <;> exact absurd (by decide) h16
 ·exact absurd (by decide) h16
theorem bR5 {op:UInt8} {b:Int64} {ex:List Ex} (h:((ex=[]/\(((op=8\/op=12)/\a=0/\b=0)\/((op=13\/op=14)/\bnW a b)\/((op=16\/op=17)/\-1000000<=a.toInt/\-1000000<=b.toInt)))\/(op=18/\(∃ n,ex=[.mk 1 [] n []]/\0<=n.toInt)/\-1000000<=a.toInt/\-1000000<=b.toInt))) (h16:16<=op.toNat) (h18:¬ op.toNat=18):ex=[]/\(op=16\/op=17):=by
 rcases h with ⟨he,⟨ho,_⟩ | ⟨ho,_⟩ | ⟨ho,_⟩⟩ | ⟨rfl,_⟩
 ·rcases ho with rfl | rfl <;> exact absurd h16 (by decide)
 ·rcases ho with rfl | rfl <;> exact absurd h16 (by decide)
 ·exact ⟨he,ho⟩
 ·exact absurd (by decide) h18
theorem aQ5 (f:Fm) (i:Nat):((aQ6 f).getD i []).length<=60:=by
 refine JS (λx hx=>?_) i;have:=JO f;unfold aQ6 at hx;simp only [bV,List.not_mem_nil,or_false] at hx;rcases hx with rfl | rfl | rfl | rfl | rfl | rfl | rfl <;> simp only [aH,aI,aL] <;> omega
theorem aQ7 (f:Fm) (i:Nat):((TN f).getD i []).length<=60:=by
 refine JS (λx hx=>?_) i;have:=JO f;unfold TN at hx;simp only [bV,List.not_mem_nil,or_false] at hx;rcases hx with rfl | rfl | rfl | rfl | rfl | rfl | rfl | rfl | rfl | rfl | rfl <;> simp only [aH,aI,aL] <;> omega
set_option maxHeartbeats 2000000 in
theorem aJ9 (H:Hp) (f:Fm):bO8 H f:=by
 induction f using Fm.ind with | _ op nm fd a b ex args ih
 intro cs w h hf hn hc hA;obtain ⟨hf1,hfs⟩:=GI hf;rw [fJ,aF,bC] at hn;obtain ⟨hn1,hns⟩:=hn;have hop:=YJ hf1;have hg:=SP hf1;have hcs:Fm.counts args<=60:=by rw [pJ] at hc;omega
 obtain ⟨p1,c1,p2,c2,rfl,hs1,hs2,hnm,hfd⟩:=gR h;have hcap2:=hs2.cap;refine Sx.enter (H:=H) func18 rfl ntmps18 rfl hA ?_;refine .sr<|.bx Z Z Z λb1=>.aq Z<|.sq<|.sr<|.fA Z eZ<|.lD Z cC Hm Z<|.yw (.leq Z Z)<|.nt<|.cd Z (λh8=>?_) (λh8=>?_)
 ·have h8p:=aJ h8;refine .sr<|.yw (.loadW Z dY Hm Z)<|.yw (.call aO3 Z (λW s=>aK0 H (.mk op nm fd a b ex args) hf1 hn1 hc (show op.toNat<=7 by omega) _ W h s.agr))<|.az Z<|.tR<|?_
  refine y9 Z Z λW s=>⟨?_,s.ext⟩
  first
   | (rfl)
   | (rw [MB ho];simp only [aX];rfl)
   | (rw [MD];simp only [aX];rfl)
   | (rw [ME hoh];simp only [aX];rfl)
   | (rw [MC hol];simp only [aX];rfl)
 have h8p:=aP h8;have hg2:=bU6 hg (show ¬ op.toNat<=7 by omega);refine .sk<|.tN<|.sq<|.sr<|.fA Z iJ<|.lD Z oL Hm Z<|.yw (.lenSl nF Z)<|.yw (.eql Z Z)<|.nt<|.cd Z (λh14=>?_) (λh14=>?_)
 ·have h14p:=aJ h14;obtain ⟨g,k,rfl,rfl,rfl,rfl,ho⟩:=bF1 hg2 (by omega);obtain ⟨bE,oE,cE,hpE,rE,lE,mE⟩:=hs2.elem (i:=0) (d:=dFm .i64 g) rfl;cases hpE;obtain ⟨bF,oF,cF,hpF,rF,lF,mF⟩:=hs2.elem (i:=1) (d:=dFm .i64 k) rfl;cases hpF;have f1:=hfs g (by simp);have n1:=hns g (by simp);have cc1:=bH (tV (l:=_) (e:=g) (by simp:g∈_)) hcs;have ll1:=KC f1 n1 cc1;have f2:=hfs k (by simp);have n2:=hns k (by simp);have cc2:=bH (tV (l:=_) (e:=k) (by simp:k∈_)) hcs;have ll2:=KC f2 n2 cc2;have pl1:=(zU (cS op).lv g).2;have pl2:=(zU ((cS op).lv+1) k).2;have wl:=JO (Fm.mk op [] [] a b [] [g,k]);obtain ⟨ha,ho9,ho15,hlv⟩:=bP7 ho;have hl6:=bS5 op;have hwl:=aQ5 (Fm.mk op [] [] a b [] [g,k]) (op.toNat - 9);refine .sr<|.fA Z eZ<|.lD Z cC Hm Z<|.yw (.call QM Z (λW s=>LY H op hop.1 hop.2 W s.agr))<|.aq Z<|.sq<|.fL 9 [(0,0),(1,0),(2,0),(4,0),(5,0),(6,0),(3,1),(7,0),(8,0)]<|.yw (.loadW Z dY Hm Z)<|.yw (.call IE Z (λW s=>LW H (Fm.mk op [] [] a b [] [g,k]) ha _ W h s.agr))<|.yw (.cast (v':=cH (([115,105,110,99,101]:Str)++wnT (Fm.mk op [] [] a b [] [g,k]))) (.app (a:=([115,105,110,99,101]:Str)) Z Z (by simp only [aH,aI,aL];omega)) Z)<|.fA Z eZ<|.lD Z cC Hm Z<|.yw (.sub Z Z (c:=((op.toNat - 9:Nat):Int)) ((w6 (by omega)).trans (by omega)))<|.bl Z (ZQ _ _ _ _ _ _ _) Z λb21=>.yw (.indexSl xX Z Z (i:=op.toNat - 9) Z (by omega) (q:=op.toNat - 9) (by omega))<|.yw (.load (v:=cH ((aQ6 (Fm.mk op [] [] a b [] [g,k])).getD (op.toNat - 9) [])) Z cP Hm (uV (f:=cH) (l:=aQ6 (Fm.mk op [] [] a b [] [g,k])) (by show _<7;omega) []))<|.fn (tl:=[_]) Z<|.aq Z<|.sq<|.fL 18 [(0,0),(1,0),(2,0),(3,0),(4,0),(5,0),(6,0),(7,0),(8,0),(9,0),(10,0),(11,0),(12,0),(13,0),(14,0),(15,0),(16,0),(17,0)]<|.fA Z iJ<|.lD Z oL dC Z<|.yw (.indexSl nF Z Z (i:=0) Z (Nat.succ_pos _) (q:=oE+0 * 7) Z)<|.yw (.loadMW Z dY mE (tW rE))<|.mv Z<|.yw (.sub Z Z (c:=(((cS op).lv - 1:Nat):Int)) ((w6 (by omega)).trans (by omega)))<|.yw (.call DB Z (λW s=>CO H g (ih g (by simp)) cE rE f1 n1 cc1 ((cS op).lv - 1) (cS op).lv (by omega) W s.agr))<|.yw (.app Z Z (by (try simp only [aH]);(try simp only [aI,aL]);omega))<|.mv Z<|.yw (.app Z Z (by (try simp only [aH]);(try simp only [aI,aL]);omega))<|.yw (.app Z Z (by (try simp only [aH]);(try simp only [aI,aL]);omega))<|.fA Z iJ<|.lD Z oL dC Z<|.yw (.indexSl nF Z Z (i:=1) Z (dA 1) (q:=oE+1 * 7) Z)<|.yw (.loadMW Z dY mF (tW rF))<|.mv Z<|.yw (.call DB Z (λW s=>CO H k (ih k (by simp)) cF rF f2 n2 cc2 (cS op).lv ((cS op).lv+1) Z W s.agr))<|.yw (.app Z Z (by (try simp only [aH]);(try simp only [aI,aL]);omega))<|.fn (tl:=[_]) Z<|.az Z<|.tR<|?_
  refine y9 Z Z λW s=>⟨?_,s.ext⟩
  first
   | (rfl)
   | (rw [MB ho];simp only [aX];rfl)
   | (rw [MD];simp only [aX];rfl)
   | (rw [ME hoh];simp only [aX];rfl)
   | (rw [MC hol];simp only [aX];rfl)
 have h14p:=aP h14;obtain ⟨g,rfl,rfl,hcase⟩:=bH6 hg2 (λe=>h14p (by rw [e];rfl));obtain ⟨bE,oE,cE,hpE,rE,lE,mE⟩:=hs2.elem (i:=0) (d:=dFm .i64 g) rfl;cases hpE;have f1:=hfs g (by simp);have n1:=hns g (by simp);have cc1:=bH (tV (l:=_) (e:=g) (by simp:g∈_)) hcs;have ll1:=KC f1 n1 cc1;have pl1:=(zU 5 g).2;have wl:=JO (Fm.mk op nm [] a b ex [g]);obtain ⟨ha,hb,ho8,ho18⟩:=bR6 hcase;have hwl:=aQ7 (Fm.mk op nm [] a b ex [g]) (op.toNat - 8);have hi1:=kR a;have hi2:=kR b;have hal:=KM (op:=op) (nm:=nm) (fd:=[]) (a:=a) (b:=b) (ex:=ex) (args:=[g]);refine .sk<|.tN<|.sq<|.fL 12 [(0,0),(1,0),(2,0),(3,0),(4,0),(5,0),(7,0),(8,0),(9,0),(6,1),(10,0),(11,0)]<|.yw (.loadW Z dY Hm Z)<|.yw (.call IE Z (λW s=>LW H (Fm.mk op nm [] a b ex [g]) ha _ W h s.agr))<|.yw (.cast (v':=cH (([111,110,99,101]:Str)++wnT (Fm.mk op nm [] a b ex [g]))) (.app (a:=([111,110,99,101]:Str)) Z Z (by simp only [aH,aI,aL];omega)) Z)<|.yw (.loadW Z dY Hm Z)<|.yw (.call IE Z (λW s=>LW H (Fm.mk op nm [] a b ex [g]) ha _ W h s.agr))<|.yw (.cast (v':=cH (([97,108,119,97,121,115]:Str)++wnT (Fm.mk op nm [] a b ex [g]))) (.app (a:=([97,108,119,97,121,115]:Str)) Z Z (by simp only [aH,aI,aL];omega)) Z)<|.fA Z eZ<|.lD Z cC Hm Z<|.yw (.sub Z Z (c:=((op.toNat - 8:Nat):Int)) ((w6 (by omega)).trans (by omega)))<|.bl Z (JH _ _ _ _ _ _ _ _ _ _ _) Z λb51=>.yw (.indexSl xX Z Z (i:=op.toNat - 8) Z (by omega) (q:=op.toNat - 8) (by omega))<|.yw (.load (v:=cH ((TN (Fm.mk op nm [] a b ex [g])).getD (op.toNat - 8) [])) Z cP Hm (uV (f:=cH) (l:=TN (Fm.mk op nm [] a b ex [g])) (by show _<11;omega) []))<|.fn (tl:=[_]) Z<|.aq Z<|.sq<|.sr<|.fA Z eZ<|.lD Z cC dC Z<|.yw (.geq Z Z)<|.nt<|.cd Z (λh59=>?_) (λh59=>?_)
 ·have h59p:=aJ h59;refine .fL 15 [(0,0),(1,0),(2,0),(3,0),(4,0),(5,0),(6,0),(7,0),(8,0),(9,0),(10,0),(11,0),(12,0),(13,0),(14,0)]<|.mv Z<|.fA Z kL<|.lD Z cP dC Z<|.yw (.app Z Z (by (try simp only [aH]);(try simp only [aI,aL]);omega))<|.yw (.app Z Z (by (try simp only [aH]);(try simp only [aI,aL]);omega))<|.fA Z iK<|.lD Z cC dC Z<|.yw (.call tB Z (λW s=>BU H a.toInt (by omega) (by have:=a.toInt_lt;omega) W s.agr))<|.yw (.app Z Z (by (try simp only [aH]);(try simp only [aI,aL]);omega))<|.yw (.app Z Z (by (try simp only [aH]);(try simp only [aI,aL]);omega))<|.fA Z hU<|.lD Z cC dC Z<|.yw (.call tB Z (λW s=>BU H b.toInt (by omega) (by have:=b.toInt_lt;omega) W s.agr))<|.yw (.app Z Z (by (try simp only [aH]);(try simp only [aI,aL]);omega))<|.yw (.cast (v':=cH (((TN (Fm.mk op nm [] a b ex [g])).getD (op.toNat - 8) [])++MP (Fm.mk op nm [] a b ex [g]))) (.app Z Z (by simp only [aH,aI,aL];omega)) Z)<|.fn (tl:=[_]) Z<|.aq Z<|.sq<|.sr<|.fA Z eZ<|.lD Z cC dC Z<|.yw (.eql Z Z)<|.nt<|.cd Z (λh77=>?_) (λh77=>?_)
  ·try simp only [dt] at h77
   obtain rfl:op=18:=aS.1 (by show op.toNat=18;omega);obtain ⟨n,rfl,hn0⟩:=bR7 hcase;obtain ⟨bG,oG,cG,hpG,rG,lG,mG⟩:=hs1.elem (i:=0) (d:=dEx .i64 (.mk 1 [] n [])) rfl;cases hpG;obtain ⟨p9,c9,rfl,_,_⟩:=fX rG;have hi3:=kR n;refine .sq<|.fL 16 [(0,0),(1,0),(2,0),(3,0),(4,0),(5,0),(6,0),(7,0),(8,0),(9,0),(10,0),(11,0),(12,0),(13,0),(14,0),(15,0)]<|.mv Z<|.yw (.app Z Z (by (try simp only [aH]);(try simp only [aI,aL]);omega))<|.fA Z iJ<|.lD Z oL dC Z<|.yw (.indexSl nF Z Z (i:=0) Z (Nat.succ_pos _) (q:=oE+0 * 7) Z)<|.yw (.loadMW Z dY mE (tW rE))<|.yw (.call DD Z (λW s=>ih g (by simp) cE W rE f1 n1 cc1 s.agr))<|.yw (.app Z Z (by (try simp only [aH]);(try simp only [aI,aL]);omega))<|.yw (.app Z Z (by (try simp only [aH]);(try simp only [aI,aL]);omega))<|.fA Z eE<|.lD Z eQ dC Z<|.yw (.indexSl eL Z Z (i:=0) Z (Nat.succ_pos _) (q:=oG+0 * 4) Z)<|.fA Z dO<|.yw (.loadM Z eS mG (k:=2) Z Z)<|.yw (.call tB Z (λW s=>BU H n.toInt (by omega) (by have:=n.toInt_lt;omega) W s.agr))<|.yw (.app Z Z (by (try simp only [aH]);(try simp only [aI,aL]);omega))<|.fn (tl:=[_]) Z<|.az Z<|.tR<|?_
   refine y9 Z Z λW s=>⟨?_,s.ext⟩
   first
    | (rfl)
    | (rw [MB ho];simp only [aX];rfl)
    | (rw [MD];simp only [aX];rfl)
    | (rw [ME hoh];simp only [aX];rfl)
    | (rw [MC hol];simp only [aX];rfl)
  try simp only [df] at h77
  obtain ⟨rfl,hoh⟩:=bR5 hcase (by omega) (by omega);refine .sk<|.tN<|.sm Z<|.yw (.app Z Z (by (try simp only [aH]);(try simp only [aI,aL]);omega))<|.fA Z iJ<|.lD Z oL dC Z<|.yw (.indexSl nF Z Z (i:=0) Z (Nat.succ_pos _) (q:=oE+0 * 7) Z)<|.yw (.loadMW Z dY mE (tW rE))<|.yw (.call DB Z (λW s=>CO H g (ih g (by simp)) cE rE f1 n1 cc1 4 5 Z W s.agr))<|.yw (.app Z Z (by (try simp only [aH]);(try simp only [aI,aL]);omega))<|.az Z<|?_
  refine y9 Z Z λW s=>⟨?_,s.ext⟩
  first
   | (rfl)
   | (rw [MB ho];simp only [aX];rfl)
   | (rw [MD];simp only [aX];rfl)
   | (rw [ME hoh];simp only [aX];rfl)
   | (rw [MC hol];simp only [aX];rfl)
 have h59p:=aP h59;refine .sk<|.tN<|.sq<|.sr<|.fA Z eZ<|.lD Z cC dC Z<|.yw (.eql Z Z)<|.nt<|.cd Z (λh77=>?_) (λh77=>?_)
 ·try simp only [dt] at h77
  exact absurd (by omega:False) id
 try simp only [df] at h77
 obtain ⟨rfl,hol⟩:=bR4 hcase (by omega);refine .sk<|.tN<|.sm Z<|.yw (.app Z Z (by (try simp only [aH]);(try simp only [aI,aL]);omega))<|.fA Z iJ<|.lD Z oL dC Z<|.yw (.indexSl nF Z Z (i:=0) Z (Nat.succ_pos _) (q:=oE+0 * 7) Z)<|.yw (.loadMW Z dY mE (tW rE))<|.yw (.call DB Z (λW s=>CO H g (ih g (by simp)) cE rE f1 n1 cc1 4 5 Z W s.agr))<|.yw (.app Z Z (by (try simp only [aH]);(try simp only [aI,aL]);omega))<|.az Z<|?_
 refine y9 Z Z λW s=>⟨?_,s.ext⟩
 first
  | (rfl)
  | (rw [MB ho];simp only [aX];rfl)
  | (rw [MD];simp only [aX];rfl)
  | (rw [ME hoh];simp only [aX];rfl)
  | (rw [MC hol];simp only [aX];rfl)
def bF4 (op:UInt8):Bool:=decide (op=1) || decide (op=4) || decide (op=5) || decide (op=6) || decide (op=8) || decide (op=9) || (decide (11<=op.toNat) && decide (op.toNat<=15))
theorem TT {op:UInt8} :bF4 op=(decide (((op.toNat:Nat):Int)=1) || decide (((op.toNat:Nat):Int)=4) || decide (((op.toNat:Nat):Int)=5) || decide (((op.toNat:Nat):Int)=6) || decide (((op.toNat:Nat):Int)=8) || decide (((op.toNat:Nat):Int)=9) || (decide ((11:Int)<=((op.toNat:Nat):Int)) && decide (((op.toNat:Nat):Int)<=15))):=by
 unfold bF4;rw [<-AF 1 (i:=1) (by decide) rfl,<-AF 4 (i:=4) (by decide) rfl,<-AF 5 (i:=5) (by decide) rfl,<-AF 6 (i:=6) (by decide) rfl,<-AF 8 (i:=8) (by decide) rfl,<-AF 9 (i:=9) (by decide) rfl,show decide ((11:Int)<=((op.toNat:Nat):Int))=decide (11<=op.toNat) from decide_eq_decide.2 (by omega),show decide (((op.toNat:Nat):Int)<=15)=decide (op.toNat<=15) from decide_eq_decide.2 (by omega)];rfl
theorem HB {op:UInt8} {nm:Str} {n:Int64} :TR op nm n k=(bF4 op && decide (arR op.toNat=((k:Nat):Int)) && (decide (((op.toNat:Nat):Int)=1) || decide (n.toInt=0)) && decide (0<=n.toInt) && (decide (nm=[]) || decide (((op.toNat:Nat):Int)=5) || decide (((op.toNat:Nat):Int)=6) || decide (((op.toNat:Nat):Int)=8))):=by
 rw [<-AF 1 (i:=1) (by decide) rfl,<-AF 5 (i:=5) (by decide) rfl,<-AF 6 (i:=6) (by decide) rfl,<-AF 8 (i:=8) (by decide) rfl,<-d_n];rfl
theorem yQ (e:Ex):∀ (H:Hp) (cs:List Value) (w:World),Rep H (dEx .i64 e) cs->Agr H w->Calls prg 133 #[.agg cs.toArray] w λr w'=>r=.returned (.bool (dS e))/\Ext w w':=by
 induction e using Ex.ind with | _ op nm nn args ih
 intro H cs w h hA;obtain ⟨pp,c,rfl,hs,hnm⟩:=fX h;have hcap:=hs.cap;refine Sx.enter (H:=H) func133 rfl ntmps133 rfl hA ?_;refine .sr<|.bx Z Z Z λb1=>.aq Z<|.cu (X:=Bool) [(1,_)] ⟨Z,Jt⟩ (λz3=>[(3,.bool z3)]) (λz3=>H) (λz3=>[.box b1 [.int .i64 op.toNat,cH nm,.int .i64 nn.toInt,.slice pp args.length c] 83]) (λz3=>z3=bF4 op) ?_ λz3 hC=>?_
 ·
  refine .rg<|.fA Z cO<|.lD Z cC Hm Z<|.yw (.eql Z Z)<|.mv Z<|.e2 (λh9=>?_) (λh9=>?_)
  ·exact .gG<|.gG<|.gG<|.yw (.pickT Z Z)<|.mv Z<|.gG<|.gG<|.gG<|.yw (.pickT Z Z)<|.mv Z<|.gG<|.gG<|.gG<|.yw (.pickT Z Z)<|.mv Z<|.gG<|.gG<|.gG<|.yw (.pickT Z Z)<|.mv Z<|.gG<|.gG<|.gG<|.yw (.pickT Z Z)<|.mv Z<|.gG<|.gG<|.gG<|.gG<|.gV<|.gV<|.gV<|.gG<|.yw (.pickT Z Z)<|.aq Z<|.me _ ⟨Z,Jt⟩ ⟨Z,Jt⟩ (λ_ s=>s) (by rw [TT,aK h9];simp)
  refine .gy (.fieldAddr Z cO)<|.gy (.load Z cC Hm Z)<|.gy (.eql Z Z)<|.yw (.pickF Z Z)<|.mv Z<|.e2 (λh14=>?_) (λh14=>?_)
  ·exact .gG<|.gG<|.gG<|.yw (.pickT Z Z)<|.mv Z<|.gG<|.gG<|.gG<|.yw (.pickT Z Z)<|.mv Z<|.gG<|.gG<|.gG<|.yw (.pickT Z Z)<|.mv Z<|.gG<|.gG<|.gG<|.yw (.pickT Z Z)<|.mv Z<|.gG<|.gG<|.gG<|.gG<|.gV<|.gV<|.gV<|.gG<|.yw (.pickT Z Z)<|.aq Z<|.me _ ⟨Z,Jt⟩ ⟨Z,Jt⟩ (λ_ s=>s) (by rw [TT,aM h9,aK h14];simp)
  refine .gy (.fieldAddr Z cO)<|.gy (.load Z cC Hm Z)<|.gy (.eql Z Z)<|.yw (.pickF Z Z)<|.mv Z<|.e2 (λh19=>?_) (λh19=>?_)
  ·exact .gG<|.gG<|.gG<|.yw (.pickT Z Z)<|.mv Z<|.gG<|.gG<|.gG<|.yw (.pickT Z Z)<|.mv Z<|.gG<|.gG<|.gG<|.yw (.pickT Z Z)<|.mv Z<|.gG<|.gG<|.gG<|.gG<|.gV<|.gV<|.gV<|.gG<|.yw (.pickT Z Z)<|.aq Z<|.me _ ⟨Z,Jt⟩ ⟨Z,Jt⟩ (λ_ s=>s) (by rw [TT,aM h9,aM h14,aK h19];simp)
  refine .gy (.fieldAddr Z cO)<|.gy (.load Z cC Hm Z)<|.gy (.eql Z Z)<|.yw (.pickF Z Z)<|.mv Z<|.e2 (λh24=>?_) (λh24=>?_)
  ·exact .gG<|.gG<|.gG<|.yw (.pickT Z Z)<|.mv Z<|.gG<|.gG<|.gG<|.yw (.pickT Z Z)<|.mv Z<|.gG<|.gG<|.gG<|.gG<|.gV<|.gV<|.gV<|.gG<|.yw (.pickT Z Z)<|.aq Z<|.me _ ⟨Z,Jt⟩ ⟨Z,Jt⟩ (λ_ s=>s) (by rw [TT,aM h9,aM h14,aM h19,aK h24];simp)
  refine .gy (.fieldAddr Z cO)<|.gy (.load Z cC Hm Z)<|.gy (.eql Z Z)<|.yw (.pickF Z Z)<|.mv Z<|.e2 (λh29=>?_) (λh29=>?_)
  ·exact .gG<|.gG<|.gG<|.yw (.pickT Z Z)<|.mv Z<|.gG<|.gG<|.gG<|.gG<|.gV<|.gV<|.gV<|.gG<|.yw (.pickT Z Z)<|.aq Z<|.me _ ⟨Z,Jt⟩ ⟨Z,Jt⟩ (λ_ s=>s) (by rw [TT,aM h9,aM h14,aM h19,aM h24,aK h29];simp)
  refine .gy (.fieldAddr Z cO)<|.gy (.load Z cC Hm Z)<|.gy (.eql Z Z)<|.yw (.pickF Z Z)<|.mv Z<|.e2 (λh34=>?_) (λh34=>?_)
  ·exact .gG<|.gG<|.gG<|.gG<|.gV<|.gV<|.gV<|.gG<|.yw (.pickT Z Z)<|.aq Z<|.me _ ⟨Z,Jt⟩ ⟨Z,Jt⟩ (λ_ s=>s) (by rw [TT,aM h9,aM h14,aM h19,aM h24,aM h29,aK h34];simp)
  refine .gy (.fieldAddr Z cO)<|.gy (.load Z cC Hm Z)<|.gy (.geq Z Z)<|.gy (.move Z)<|.e2 (λh38=>?_) (λh38=>?_)
  ·exact .gy (.fieldAddr Z cO)<|.gy (.load Z cC Hm Z)<|.gy (.leq Z Z)<|.gy (.pickT Z Z)<|.yw (.pickF Z Z)<|.aq Z<|.me _ ⟨Z,Jt⟩ ⟨Z,Jt⟩ (λ_ s=>s) (by rw [TT,aM h9,aM h14,aM h19,aM h24,aM h29,aM h34,aK h38];simp)
  exact .gG<|.gG<|.gG<|.gy (.pickF Z Z)<|.yw (.pickF Z Z)<|.aq Z<|.me _ ⟨Z,Jt⟩ ⟨Z,Jt⟩ (λ_ s=>s) (by rw [TT,aM h9,aM h14,aM h19,aM h24,aM h29,aM h34,aM h38];simp)
 have e3:=hC;refine .sq<|.cu (X:=Bool) [(1,_)] ⟨Z,Jt⟩ (λz9=>[(89,.bool z9)]) (λz9=>H) (λz9=>[.box b1 [.int .i64 op.toNat,cH nm,.int .i64 nn.toInt,.slice pp args.length c] 83]) (λz9=>z9=!TR op nm nn args.length) ?_ λz9 hC=>?_
 ·
  refine .fL 45 [(0,0),(1,0),(2,0),(3,0),(4,0),(5,0),(6,0),(7,0),(8,0),(9,0),(10,0),(11,0),(12,0),(13,0),(14,0),(15,0),(16,0),(17,0),(18,0),(19,0),(20,0),(21,0),(22,0),(23,0),(24,0),(25,0),(26,0),(27,0),(28,0),(29,0),(30,0),(31,0),(32,0),(33,0),(34,0),(35,0),(36,0),(37,0),(38,0),(39,0),(40,0),(41,0),(42,0),(43,0),(44,0)]<|.mv Z<|.yw (.not Z)<|.mv Z<|.b2 (λh46=>?_) (λh46=>?_)
  ·try simp only [dt] at h46
   exact .gG<|.gG<|.gG<|.gG<|.gG<|.gG<|.gG<|.yw (.pickT Z Z)<|.mv Z<|.gG<|.gG<|.gG<|.gG<|.gV<|.gV<|.gV<|.gG<|.yw (.pickT Z Z)<|.mv Z<|.gG<|.gG<|.gG<|.yw (.pickT Z Z)<|.mv Z<|.gG<|.gG<|.gG<|.gG<|.gV<|.gV<|.gV<|.gG<|.gG<|.gV<|.gV<|.gV<|.gG<|.gG<|.gV<|.gV<|.gV<|.gG<|.fn (tl:=[_]) Z<|.yw (.pickT Z Z)<|.nt<|.me _ ⟨Z,Jt⟩ ⟨Z,Jt⟩ (λ_ s=>s) (by rw [HB,<-e3,show z3=false by simpa using h46];rfl)
  try simp only [df] at h46
  refine .yg Z Z (.fieldAddr Z cO) Z<|.yg Z Z (.load Z cC Hm Z) Z<|.yg Z Z (.call MT Z (λW s=>PW _ op.toNat W s.agr)) Z<|.yg Z Z (.fieldAddr Z fG) Z<|.yg Z Z (.load Z eQ Hm Z) Z<|.yg Z Z (.lenSl eL Z) Z<|.yg Z Z (.neq Z Z) Z<|.yw (.pickF Z Z)<|.mv Z<|.e2 (λh55=>?_) (λh55=>?_)
  ·exact .gG<|.gG<|.gG<|.gG<|.gV<|.gV<|.gV<|.gG<|.yw (.pickT Z Z)<|.mv Z<|.gG<|.gG<|.gG<|.yw (.pickT Z Z)<|.mv Z<|.gG<|.gG<|.gG<|.gG<|.gV<|.gV<|.gV<|.gG<|.gG<|.gV<|.gV<|.gV<|.gG<|.gG<|.gV<|.gV<|.gV<|.gG<|.fn (tl:=[_]) Z<|.yw (.pickT Z Z)<|.nt<|.me _ ⟨Z,Jt⟩ ⟨Z,Jt⟩ (λ_ s=>s) (by rw [HB,<-e3,show z3=true by simpa using h46,aM h55];simp)
  refine .yg Z Z (.fieldAddr Z cO) Z<|.yg Z Z (.load Z cC Hm Z) Z<|.yg Z Z (.neq Z Z) Z<|.yg Z Z (.move Z) Z<|.e2 (λh59=>?_) (λh59=>?_)
  ·refine .yg Z Z (.fieldAddr Z dO) Z<|.yg Z Z (.load Z eS Hm Z) Z<|.yg Z Z (.neq Z Z) Z<|.yg Z Z (.pickT Z Z) Z<|.yw (.pickF Z Z)<|.mv Z<|.e2 (λh65=>?_) (λh65=>?_)
   ·exact .gG<|.gG<|.gG<|.yw (.pickT Z Z)<|.mv Z<|.gG<|.gG<|.gG<|.gG<|.gV<|.gV<|.gV<|.gG<|.gG<|.gV<|.gV<|.gV<|.gG<|.gG<|.gV<|.gV<|.gV<|.gG<|.fn (tl:=[_]) Z<|.yw (.pickT Z Z)<|.nt<|.me _ ⟨Z,Jt⟩ ⟨Z,Jt⟩ (λ_ s=>s) (by rw [HB,<-e3,show z3=true by simpa using h46,aK (bS.1 h55),aM h59,aM h65];simp)
   refine .yg Z Z (.fieldAddr Z dO) Z<|.yg Z Z (.load Z eS Hm Z) Z<|.yg Z Z (.lss Z Z) Z<|.yw (.pickF Z Z)<|.mv Z<|.b2 (λh70=>?_) (λh70=>?_)
   ·try simp only [dt] at h70
    exact .gG<|.gG<|.gG<|.gG<|.gV<|.gV<|.gV<|.gG<|.gG<|.gV<|.gV<|.gV<|.gG<|.gG<|.gV<|.gV<|.gV<|.gG<|.fn (tl:=[_]) Z<|.yw (.pickT Z Z)<|.nt<|.me _ ⟨Z,Jt⟩ ⟨Z,Jt⟩ (λ_ s=>s) (by rw [HB,<-e3,show z3=true by simpa using h46,aK (bS.1 h55),aM h59,aK (bS.1 h65),aM (show ¬ 0<=nn.toInt by omega)];simp)
   try simp only [df] at h70
   refine .yg Z Z (.fieldAddr Z dD) Z<|.yg Z Z (.load Z cP Hm Z) Z<|.yg Z Z (.neS Z Z) Z<|.yg Z Z (.move Z) Z<|.b2 (λh74=>?_) (λh74=>?_)
   ·try simp only [dt] at h74
    refine .yg Z Z (.fieldAddr Z cO) Z<|.yg Z Z (.load Z cC Hm Z) Z<|.yg Z Z (.neq Z Z) Z<|.yg Z Z (.pickT Z Z) Z<|.yg Z Z (.move Z) Z<|.b2 (λh79=>?_) (λh79=>?_)
    ·try simp only [dt] at h79
     refine .yg Z Z (.fieldAddr Z cO) Z<|.yg Z Z (.load Z cC Hm Z) Z<|.yg Z Z (.neq Z Z) Z<|.yg Z Z (.pickT Z Z) Z<|.yg Z Z (.move Z) Z<|.b2 (λh84=>?_) (λh84=>?_)
     ·try simp only [dt] at h84
      exact .yg Z Z (.fieldAddr Z cO) Z<|.yg Z Z (.load Z cC Hm Z) Z<|.yg Z Z (.neq Z Z) Z<|.yg Z Z (.pickT Z Z) Z<|.fn (tl:=[_]) Z<|.yw (.pickF Z Z)<|.nt<|.me _ ⟨Z,Jt⟩ ⟨Z,Jt⟩ (λ_ s=>s) (by rw [HB,<-e3,show z3=true by simpa using h46,aK (bS.1 h55),aM h59,aK (bS.1 h65),aK (show 0<=nn.toInt by omega),aM h74,aM h79,aM h84];simp)
     try simp only [df] at h84
     exact .gG<|.gG<|.gG<|.yg Z Z (.pickF Z Z) Z<|.fn (tl:=[_]) Z<|.yw (.pickF Z Z)<|.nt<|.me _ ⟨Z,Jt⟩ ⟨Z,Jt⟩ (λ_ s=>s) (by rw [HB,<-e3,show z3=true by simpa using h46,aK (bS.1 h55),aM h59,aK (bS.1 h65),aK (show 0<=nn.toInt by omega),aM h74,aM h79,aK (bS.1 h84)];simp)
    try simp only [df] at h79
    exact .gG<|.gG<|.gG<|.yg Z Z (.pickF Z Z) Z<|.yg Z Z (.move Z) Z<|.gG<|.gG<|.gG<|.yg Z Z (.pickF Z Z) Z<|.fn (tl:=[_]) Z<|.yw (.pickF Z Z)<|.nt<|.me _ ⟨Z,Jt⟩ ⟨Z,Jt⟩ (λ_ s=>s) (by rw [HB,<-e3,show z3=true by simpa using h46,aK (bS.1 h55),aM h59,aK (bS.1 h65),aK (show 0<=nn.toInt by omega),aM h74,aK (bS.1 h79)];simp)
   try simp only [df] at h74
   exact .gG<|.gG<|.gG<|.yg Z Z (.pickF Z Z) Z<|.yg Z Z (.move Z) Z<|.gG<|.gG<|.gG<|.yg Z Z (.pickF Z Z) Z<|.yg Z Z (.move Z) Z<|.gG<|.gG<|.gG<|.yg Z Z (.pickF Z Z) Z<|.fn (tl:=[_]) Z<|.yw (.pickF Z Z)<|.nt<|.me _ ⟨Z,Jt⟩ ⟨Z,Jt⟩ (λ_ s=>s) (by rw [HB,<-e3,show z3=true by simpa using h46,aK (bS.1 h55),aM h59,aK (bS.1 h65),aK (show 0<=nn.toInt by omega),aK (bS.1 h74)];simp)
  refine .gG<|.gG<|.gG<|.yg Z Z (.pickF Z Z) Z<|.yw (.pickF Z Z)<|.mv Z<|.yg Z Z (.fieldAddr Z dO) Z<|.yg Z Z (.load Z eS Hm Z) Z<|.yg Z Z (.lss Z Z) Z<|.yw (.pickF Z Z)<|.mv Z<|.b2 (λh70=>?_) (λh70=>?_)
  ·try simp only [dt] at h70
   exact .gG<|.gG<|.gG<|.gG<|.gV<|.gV<|.gV<|.gG<|.gG<|.gV<|.gV<|.gV<|.gG<|.gG<|.gV<|.gV<|.gV<|.gG<|.fn (tl:=[_]) Z<|.yw (.pickT Z Z)<|.nt<|.me _ ⟨Z,Jt⟩ ⟨Z,Jt⟩ (λ_ s=>s) (by rw [HB,<-e3,show z3=true by simpa using h46,aK (bS.1 h55),aK (bS.1 h59),aM (show ¬ 0<=nn.toInt by omega)];simp)
  try simp only [df] at h70
  refine .yg Z Z (.fieldAddr Z dD) Z<|.yg Z Z (.load Z cP Hm Z) Z<|.yg Z Z (.neS Z Z) Z<|.yg Z Z (.move Z) Z<|.b2 (λh74=>?_) (λh74=>?_)
  ·try simp only [dt] at h74
   refine .yg Z Z (.fieldAddr Z cO) Z<|.yg Z Z (.load Z cC Hm Z) Z<|.yg Z Z (.neq Z Z) Z<|.yg Z Z (.pickT Z Z) Z<|.yg Z Z (.move Z) Z<|.b2 (λh79=>?_) (λh79=>?_)
   ·try simp only [dt] at h79
    refine .yg Z Z (.fieldAddr Z cO) Z<|.yg Z Z (.load Z cC Hm Z) Z<|.yg Z Z (.neq Z Z) Z<|.yg Z Z (.pickT Z Z) Z<|.yg Z Z (.move Z) Z<|.b2 (λh84=>?_) (λh84=>?_)
    ·try simp only [dt] at h84
     exact .yg Z Z (.fieldAddr Z cO) Z<|.yg Z Z (.load Z cC Hm Z) Z<|.yg Z Z (.neq Z Z) Z<|.yg Z Z (.pickT Z Z) Z<|.fn (tl:=[_]) Z<|.yw (.pickF Z Z)<|.nt<|.me _ ⟨Z,Jt⟩ ⟨Z,Jt⟩ (λ_ s=>s) (by rw [HB,<-e3,show z3=true by simpa using h46,aK (bS.1 h55),aK (bS.1 h59),aK (show 0<=nn.toInt by omega),aM h74,aM h79,aM h84];simp)
    try simp only [df] at h84
    exact .gG<|.gG<|.gG<|.yg Z Z (.pickF Z Z) Z<|.fn (tl:=[_]) Z<|.yw (.pickF Z Z)<|.nt<|.me _ ⟨Z,Jt⟩ ⟨Z,Jt⟩ (λ_ s=>s) (by rw [HB,<-e3,show z3=true by simpa using h46,aK (bS.1 h55),aK (bS.1 h59),aK (show 0<=nn.toInt by omega),aM h74,aM h79,aK (bS.1 h84)];simp)
   try simp only [df] at h79
   exact .gG<|.gG<|.gG<|.yg Z Z (.pickF Z Z) Z<|.yg Z Z (.move Z) Z<|.gG<|.gG<|.gG<|.yg Z Z (.pickF Z Z) Z<|.fn (tl:=[_]) Z<|.yw (.pickF Z Z)<|.nt<|.me _ ⟨Z,Jt⟩ ⟨Z,Jt⟩ (λ_ s=>s) (by rw [HB,<-e3,show z3=true by simpa using h46,aK (bS.1 h55),aK (bS.1 h59),aK (show 0<=nn.toInt by omega),aM h74,aK (bS.1 h79)];simp)
  try simp only [df] at h74
  exact .gG<|.gG<|.gG<|.yg Z Z (.pickF Z Z) Z<|.yg Z Z (.move Z) Z<|.gG<|.gG<|.gG<|.yg Z Z (.pickF Z Z) Z<|.yg Z Z (.move Z) Z<|.gG<|.gG<|.gG<|.yg Z Z (.pickF Z Z) Z<|.fn (tl:=[_]) Z<|.yw (.pickF Z Z)<|.nt<|.me _ ⟨Z,Jt⟩ ⟨Z,Jt⟩ (λ_ s=>s) (by rw [HB,<-e3,show z3=true by simpa using h46,aK (bS.1 h55),aK (bS.1 h59),aK (show 0<=nn.toInt by omega),aK (bS.1 h74)];simp)
 have e9:=hC;refine .cd Z (λh89=>?_) (λh89=>?_)
 ·have ht:TR op nm nn args.length=false:=by rw [h89] at e9;simpa using e9.symm
  refine .sr<|.az Z<|.tR<|?_
  refine y9 Z Z λW s=>⟨iB ?_,s.ext⟩
  first
   | (rw [qI,ht];rfl;done)
   | (rw [qI,ht,hal];rfl;done)
   | (rw [qI,MQ hk (by simpa using h99)];simp;done)
 have ht:TR op nm nn args.length=true:=by rw [h89] at e9;simpa using e9.symm
 refine .sk<|.tN<|.sq<|.sr<|.fA Z fG<|.lD Z eQ Hm Z<|.yw (.lenSl eL Z)<|.mv Z<|.nt<|.bk<|.lp (X:=Nat) [(91,_),(92,_)] ⟨Z,Z,Jt⟩ [_] (λk=>[(93,iN k)]) (λk=>H) (λk=>[]) (λk=>k<=args.length/\(args.take k).all dS=true) (λk=>args.length - k) 0 (λ_ s=>s) ⟨Z,Jt⟩ ⟨aR _,Z⟩ λk hC=>?_
 obtain ⟨hk0,hal⟩:=hC;refine .sr<|.yw (.lss Z Z)<|.nt<|.sq<|.ce Z (λh94=>?_) (λh94=>?_)
 ·have hk:k<args.length:=by omega
  obtain ⟨bE,oE,cE,hpE,rE,lE,mE⟩:=hs.elem (fW (f:=dEx .i64) hk);cases hpE;refine .sk<|.tN<|.sq<|.bk<|.sr<|.yw (.indexSl eL Z Z Z (by omega) (q:=oE+k * 4) Z)<|.yw (.loadMW Z dH mE lE)<|.al iM Z λb5=>.sV .head Z Z gP lE rE.one Z<|.ns<|.yw (.loadW Z dH Hm lE)<|.yw (.call uS Z (λW s=>ih _ (bI hk) H cE W rE s.agr))<|.yw (.not Z)<|.nt<|.cd Z (λh99=>?_) (λh99=>?_)
  ·refine .sr<|.az Z<|.bR<|.tR<|.tR<|.bR<|.tR<|?_
   refine y9 Z Z λW s=>⟨iB ?_,s.ext⟩
   first
    | (rw [qI,ht];rfl;done)
    | (rw [qI,ht,hal];rfl;done)
    | (rw [qI,MQ hk (by simpa using h99)];simp;done)
  exact .sk<|.bN<|.tN<|.rg<|.yw (.add Z Z w7)<|.mv Z<|.nt<|.ag (k+1) ⟨Z,Jt⟩ ⟨Z,Z,Jt⟩ (λ_ s=>s.pick [1] [_] Z Z) ⟨by omega,GP hk hal (by simpa using h99)⟩ (by omega)
 obtain rfl:k=args.length:=by omega
 rw [aZ] at hal;refine .ex<|.eb<|.sr<|.az Z<|?_
 refine y9 Z Z λW s=>⟨iB ?_,s.ext⟩
 first
  | (rw [qI,ht];rfl;done)
  | (rw [qI,ht,hal];rfl;done)
  | (rw [qI,MQ hk (by simpa using h99)];simp;done)
theorem aQ9 (op:UInt8):(cS op).wn=decide (op=13\/op=14\/op=15):=oD (q:=λop=>(cS op).wn=decide (op=13\/op=14\/op=15)) (by decide +kernel) op
theorem bD5 (op:UInt8):(cS op).am=decide (op=16\/op=17\/op=18):=oD (q:=λop=>(cS op).am=decide (op=16\/op=17\/op=18)) (by decide +kernel) op
theorem GZ {op:UInt8} (h:(op=13\/op=14\/op=15)):(cS op).wn=true:=by rw [aQ9,aK h]
theorem vF {op:UInt8} (h:¬ (op=13\/op=14\/op=15)):(cS op).wn=false:=by rw [aQ9,aM h]
theorem HZ {op:UInt8} (h:(op=16\/op=17\/op=18)):(cS op).am=true:=by rw [bD5,aK h]
theorem IA {op:UInt8} (h:¬ (op=16\/op=17\/op=18)):(cS op).am=false:=by rw [bD5,aM h]
theorem xS (H:Hp) (f:Fm) (cs:List Value) (w:World) (h:Rep H (dFm .i64 f) cs) (hA:Agr H w):Calls prg 86 #[.agg cs.toArray] w λr w'=>r=.returned (.bool (CB f))/\Ext w w':=by
 obtain ⟨op,nm,fd,a,b,ex,args⟩:=f;obtain ⟨p1,c1,p2,c2,rfl,hs1,hs2,hnm,hfd⟩:=gR h;have hcap1:=hs1.cap;have hcap2:=hs2.cap;refine Sx.enter (H:=H) func86 rfl ntmps86 rfl hA ?_;refine .sr<|.bx Z Z Z λb1=>.aq Z<|.sq<|.sr<|.fA Z eZ<|.lD Z cC Hm Z<|.nt<|.bk<|.cu (X:=Bool) [(1,_),(4,_)] ⟨Z,Z,Jt⟩ (λz=>[(5,.bool z)]) (λz=>H) (λz=>[.box b1 [.int .i64 op.toNat,cH nm,cH fd,.int .i64 a.toInt,.int .i64 b.toInt,.slice p1 ex.length c1,.slice p2 args.length c2] 27]) (λz=>z=decide (op=13\/op=14\/op=15)) ?_ λz hC=>?_
 ·
  refine .sr<|.yw (.eql Z Z)<|.aq Z<|.cr Z (λh5=>?_) (λh5=>?_)
  ·have qw:op=13:=aS.1 (by have:=aJ h5;show op.toNat=13;omega);exact .sk<|.tN<|.me _ ⟨Z,Jt⟩ ⟨Z,Z,Jt⟩ (λ_ s=>s) (by first | (rw [qw];rfl) | (simp only [qw13,qw14,false_or];exact k8 (m:=15) (by decide)))
  have qw13:¬ op=13:=λe=>aP h5 (by rw [e];rfl);refine .sr<|.yw (.eql Z Z)<|.aq Z<|.cr Z (λh5=>?_) (λh5=>?_)
  ·have qw:op=14:=aS.1 (by have:=aJ h5;show op.toNat=14;omega);exact .sk<|.tN<|.me _ ⟨Z,Jt⟩ ⟨Z,Z,Jt⟩ (λ_ s=>s) (by first | (rw [qw];rfl) | (simp only [qw13,qw14,false_or];exact k8 (m:=15) (by decide)))
  have qw14:¬ op=14:=λe=>aP h5 (by rw [e];rfl);exact .rg<|.yw (.eql Z Z)<|.aq Z<|.me _ ⟨Z,Jt⟩ ⟨Z,Z,Jt⟩ (λ_ s=>s) (by first | (rw [qw];rfl) | (simp only [qw13,qw14,false_or];exact k8 (m:=15) (by decide)))
 have eqW:=hC;refine .cr Z (λh5=>?_) (λh5=>?_)
 ·have qW:(op=13\/op=14\/op=15):=by rw [h5] at eqW;exact aJ eqW.symm

  refine .sr<|.fA Z iK<|.lD Z cC Hm Z<|.yw (.eql Z Z)<|.mv Z<|.e2 (λh12=>?_) (λh12=>?_)
  ·refine .gy (.fieldAddr Z hU)<|.gy (.load Z cC Hm Z)<|.gy (.eql Z Z)<|.yw (.pickT Z Z)<|.mv Z<|.e2 (λh17=>?_) (λh17=>?_)
   ·refine .gG<|.gG<|.gG<|.gG<|.gV<|.gV<|.gV<|.gV<|.gV<|.gG<|.gG<|.gV<|.gV<|.gV<|.gG<|.yw (.pickT Z Z)<|.az Z<|.bR<|.tR<|?_
    refine y9 Z Z λW s=>⟨iB ?_,s.ext⟩
    first
     | (rw [nA (GZ qW),aU];(try simp only [aT,aF,aD,reduceCtorEq,bW,bP,bY,bM,aV,aE]);omega;done)
     | (rw [nD (vF qW) (HZ qA),aU];(try simp only [aT,aF,aD,reduceCtorEq,bW,bP,bY,bM,aV,aE]);omega;done)
     | (rw [nB (vF qW) (IA qA),aU];(try simp only [aT,aF,aD,reduceCtorEq,bW,bP,bY,bM,aV,aE]);omega;done)
   refine .gy (.fieldAddr Z iK)<|.gy (.load Z cC Hm Z)<|.gy (.geq Z Z)<|.gy (.move Z)<|.b2 (λh21=>?_) (λh21=>?_)
   ·try simp only [dt] at h21
    refine .gy (.fieldAddr Z iK)<|.gy (.load Z cC Hm Z)<|.gy (.fieldAddr Z hU)<|.gy (.load Z cC Hm Z)<|.gy (.leq Z Z)<|.gy (.pickT Z Z)<|.gy (.move Z)<|.b2 (λh28=>?_) (λh28=>?_)
    ·try simp only [dt] at h28
     refine .gy (.fieldAddr Z hU)<|.gy (.load Z cC Hm Z)<|.gy (.leq Z Z)<|.gy (.pickT Z Z)<|.yw (.pickF Z Z)<|.az Z<|.bR<|.tR<|?_
     refine y9 Z Z λW s=>⟨iB ?_,s.ext⟩
     first
      | (rw [nA (GZ qW),aU];(try simp only [aT,aF,aD,reduceCtorEq,bW,bP,bY,bM,aV,aE]);omega;done)
      | (rw [nD (vF qW) (HZ qA),aU];(try simp only [aT,aF,aD,reduceCtorEq,bW,bP,bY,bM,aV,aE]);omega;done)
      | (rw [nB (vF qW) (IA qA),aU];(try simp only [aT,aF,aD,reduceCtorEq,bW,bP,bY,bM,aV,aE]);omega;done)
    try simp only [df] at h28
    refine .gG<|.gG<|.gG<|.gy (.pickF Z Z)<|.yw (.pickF Z Z)<|.az Z<|.bR<|.tR<|?_
    refine y9 Z Z λW s=>⟨iB ?_,s.ext⟩
    first
     | (rw [nA (GZ qW),aU];(try simp only [aT,aF,aD,reduceCtorEq,bW,bP,bY,bM,aV,aE]);omega;done)
     | (rw [nD (vF qW) (HZ qA),aU];(try simp only [aT,aF,aD,reduceCtorEq,bW,bP,bY,bM,aV,aE]);omega;done)
     | (rw [nB (vF qW) (IA qA),aU];(try simp only [aT,aF,aD,reduceCtorEq,bW,bP,bY,bM,aV,aE]);omega;done)
   try simp only [df] at h21
   refine .gG<|.gG<|.gG<|.gG<|.gG<|.gy (.pickF Z Z)<|.gy (.move Z)<|.gG<|.gG<|.gG<|.gy (.pickF Z Z)<|.yw (.pickF Z Z)<|.az Z<|.bR<|.tR<|?_
   refine y9 Z Z λW s=>⟨iB ?_,s.ext⟩
   first
    | (rw [nA (GZ qW),aU];(try simp only [aT,aF,aD,reduceCtorEq,bW,bP,bY,bM,aV,aE]);omega;done)
    | (rw [nD (vF qW) (HZ qA),aU];(try simp only [aT,aF,aD,reduceCtorEq,bW,bP,bY,bM,aV,aE]);omega;done)
    | (rw [nB (vF qW) (IA qA),aU];(try simp only [aT,aF,aD,reduceCtorEq,bW,bP,bY,bM,aV,aE]);omega;done)
  refine .gG<|.gG<|.gG<|.yw (.pickF Z Z)<|.mv Z<|.gy (.fieldAddr Z iK)<|.gy (.load Z cC Hm Z)<|.gy (.geq Z Z)<|.gy (.move Z)<|.b2 (λh21=>?_) (λh21=>?_)
  ·try simp only [dt] at h21
   refine .gy (.fieldAddr Z iK)<|.gy (.load Z cC Hm Z)<|.gy (.fieldAddr Z hU)<|.gy (.load Z cC Hm Z)<|.gy (.leq Z Z)<|.gy (.pickT Z Z)<|.gy (.move Z)<|.b2 (λh28=>?_) (λh28=>?_)
   ·try simp only [dt] at h28
    refine .gy (.fieldAddr Z hU)<|.gy (.load Z cC Hm Z)<|.gy (.leq Z Z)<|.gy (.pickT Z Z)<|.yw (.pickF Z Z)<|.az Z<|.bR<|.tR<|?_
    refine y9 Z Z λW s=>⟨iB ?_,s.ext⟩
    first
     | (rw [nA (GZ qW),aU];(try simp only [aT,aF,aD,reduceCtorEq,bW,bP,bY,bM,aV,aE]);omega;done)
     | (rw [nD (vF qW) (HZ qA),aU];(try simp only [aT,aF,aD,reduceCtorEq,bW,bP,bY,bM,aV,aE]);omega;done)
     | (rw [nB (vF qW) (IA qA),aU];(try simp only [aT,aF,aD,reduceCtorEq,bW,bP,bY,bM,aV,aE]);omega;done)
   try simp only [df] at h28
   refine .gG<|.gG<|.gG<|.gy (.pickF Z Z)<|.yw (.pickF Z Z)<|.az Z<|.bR<|.tR<|?_
   refine y9 Z Z λW s=>⟨iB ?_,s.ext⟩
   first
    | (rw [nA (GZ qW),aU];(try simp only [aT,aF,aD,reduceCtorEq,bW,bP,bY,bM,aV,aE]);omega;done)
    | (rw [nD (vF qW) (HZ qA),aU];(try simp only [aT,aF,aD,reduceCtorEq,bW,bP,bY,bM,aV,aE]);omega;done)
    | (rw [nB (vF qW) (IA qA),aU];(try simp only [aT,aF,aD,reduceCtorEq,bW,bP,bY,bM,aV,aE]);omega;done)
  try simp only [df] at h21
  refine .gG<|.gG<|.gG<|.gG<|.gG<|.gy (.pickF Z Z)<|.gy (.move Z)<|.gG<|.gG<|.gG<|.gy (.pickF Z Z)<|.yw (.pickF Z Z)<|.az Z<|.bR<|.tR<|?_
  refine y9 Z Z λW s=>⟨iB ?_,s.ext⟩
  first
   | (rw [nA (GZ qW),aU];(try simp only [aT,aF,aD,reduceCtorEq,bW,bP,bY,bM,aV,aE]);omega;done)
   | (rw [nD (vF qW) (HZ qA),aU];(try simp only [aT,aF,aD,reduceCtorEq,bW,bP,bY,bM,aV,aE]);omega;done)
   | (rw [nB (vF qW) (IA qA),aU];(try simp only [aT,aF,aD,reduceCtorEq,bW,bP,bY,bM,aV,aE]);omega;done)
 have qW:¬ (op=13\/op=14\/op=15):=by rw [h5] at eqW;exact aP eqW.symm
 refine .cu (X:=Bool) [(1,_)] ⟨Z,Jt⟩ (λz=>[(34,.bool z)]) (λz=>H) (λz=>[.box b1 [.int .i64 op.toNat,cH nm,cH fd,.int .i64 a.toInt,.int .i64 b.toInt,.slice p1 ex.length c1,.slice p2 args.length c2] 27]) (λz=>z=decide (op=16\/op=17\/op=18)) ?_ λz hC=>?_
 ·
  refine .sr<|.yw (.eql Z Z)<|.aq Z<|.cr Z (λh34=>?_) (λh34=>?_)
  ·have qa:op=16:=aS.1 (by have:=aJ h34;show op.toNat=16;omega);exact .sk<|.tN<|.me _ ⟨Z,Jt⟩ ⟨Z,Jt⟩ (λ_ s=>s) (by first | (rw [qa];rfl) | (simp only [qa16,qa17,false_or];exact k8 (m:=18) (by decide)))
  have qa16:¬ op=16:=λe=>aP h34 (by rw [e];rfl);refine .sr<|.yw (.eql Z Z)<|.aq Z<|.cr Z (λh34=>?_) (λh34=>?_)
  ·have qa:op=17:=aS.1 (by have:=aJ h34;show op.toNat=17;omega);exact .sk<|.tN<|.me _ ⟨Z,Jt⟩ ⟨Z,Jt⟩ (λ_ s=>s) (by first | (rw [qa];rfl) | (simp only [qa16,qa17,false_or];exact k8 (m:=18) (by decide)))
  have qa17:¬ op=17:=λe=>aP h34 (by rw [e];rfl);exact .rg<|.yw (.eql Z Z)<|.aq Z<|.me _ ⟨Z,Jt⟩ ⟨Z,Jt⟩ (λ_ s=>s) (by first | (rw [qa];rfl) | (simp only [qa16,qa17,false_or];exact k8 (m:=18) (by decide)))
 have eqA:=hC;refine .cr Z (λh34=>?_) (λh34=>?_)
 ·have qA:(op=16\/op=17\/op=18):=by rw [h34] at eqA;exact aJ eqA.symm

  refine .sr<|.fA Z iK<|.lD Z cC Hm Z<|.yw (.geq Z Z)<|.mv Z<|.e2 (λh41=>?_) (λh41=>?_)
  ·refine .gy (.fieldAddr Z hU)<|.gy (.load Z cC Hm Z)<|.gy (.leq Z Z)<|.yw (.pickT Z Z)<|.mv Z<|.e2 (λh46=>?_) (λh46=>?_)
   ·refine .gy (.fieldAddr Z iK)<|.gy (.load Z cC Hm Z)<|.gy (.fieldAddr Z hU)<|.gy (.load Z cC Hm Z)<|.gy (.leq Z Z)<|.yw (.pickT Z Z)<|.mv Z<|.e2 (λh53=>?_) (λh53=>?_)
    ·refine .gy (.fieldAddr Z hU)<|.gy (.load Z cC Hm Z)<|.gy (.fieldAddr Z iK)<|.gy (.load Z cC Hm Z)<|.gy (.sub Z Z (c:=b.toInt - a.toInt) (w6 (by omega)))<|.gy (.lss Z Z)<|.yw (.pickT Z Z)<|.az Z<|.bR<|.tR<|?_
     refine y9 Z Z λW s=>⟨iB ?_,s.ext⟩
     first
      | (rw [nA (GZ qW),aU];(try simp only [aT,aF,aD,reduceCtorEq,bW,bP,bY,bM,aV,aE]);omega;done)
      | (rw [nD (vF qW) (HZ qA),aU];(try simp only [aT,aF,aD,reduceCtorEq,bW,bP,bY,bM,aV,aE]);omega;done)
      | (rw [nB (vF qW) (IA qA),aU];(try simp only [aT,aF,aD,reduceCtorEq,bW,bP,bY,bM,aV,aE]);omega;done)
    refine .gG<|.gG<|.gG<|.gG<|.gG<|.gG<|.yw (.pickF Z Z)<|.az Z<|.bR<|.tR<|?_
    refine y9 Z Z λW s=>⟨iB ?_,s.ext⟩
    first
     | (rw [nA (GZ qW),aU];(try simp only [aT,aF,aD,reduceCtorEq,bW,bP,bY,bM,aV,aE]);omega;done)
     | (rw [nD (vF qW) (HZ qA),aU];(try simp only [aT,aF,aD,reduceCtorEq,bW,bP,bY,bM,aV,aE]);omega;done)
     | (rw [nB (vF qW) (IA qA),aU];(try simp only [aT,aF,aD,reduceCtorEq,bW,bP,bY,bM,aV,aE]);omega;done)
   refine .gG<|.gG<|.gG<|.gG<|.gG<|.yw (.pickF Z Z)<|.mv Z<|.gG<|.gG<|.gG<|.gG<|.gG<|.gG<|.yw (.pickF Z Z)<|.az Z<|.bR<|.tR<|?_
   refine y9 Z Z λW s=>⟨iB ?_,s.ext⟩
   first
    | (rw [nA (GZ qW),aU];(try simp only [aT,aF,aD,reduceCtorEq,bW,bP,bY,bM,aV,aE]);omega;done)
    | (rw [nD (vF qW) (HZ qA),aU];(try simp only [aT,aF,aD,reduceCtorEq,bW,bP,bY,bM,aV,aE]);omega;done)
    | (rw [nB (vF qW) (IA qA),aU];(try simp only [aT,aF,aD,reduceCtorEq,bW,bP,bY,bM,aV,aE]);omega;done)
  refine .gG<|.gG<|.gG<|.yw (.pickF Z Z)<|.mv Z<|.gG<|.gG<|.gG<|.gG<|.gG<|.yw (.pickF Z Z)<|.mv Z<|.gG<|.gG<|.gG<|.gG<|.gG<|.gG<|.yw (.pickF Z Z)<|.az Z<|.bR<|.tR<|?_
  refine y9 Z Z λW s=>⟨iB ?_,s.ext⟩
  first
   | (rw [nA (GZ qW),aU];(try simp only [aT,aF,aD,reduceCtorEq,bW,bP,bY,bM,aV,aE]);omega;done)
   | (rw [nD (vF qW) (HZ qA),aU];(try simp only [aT,aF,aD,reduceCtorEq,bW,bP,bY,bM,aV,aE]);omega;done)
   | (rw [nB (vF qW) (IA qA),aU];(try simp only [aT,aF,aD,reduceCtorEq,bW,bP,bY,bM,aV,aE]);omega;done)
 have qA:¬ (op=16\/op=17\/op=18):=by rw [h34] at eqA;exact aP eqA.symm
 refine .sk<|.bN<|.tN<|.sr<|.fA Z iK<|.lD Z cC Hm Z<|.yw (.eql Z Z)<|.mv Z<|.e2 (λh64=>?_) (λh64=>?_)
 ·refine .gy (.fieldAddr Z hU)<|.gy (.load Z cC Hm Z)<|.gy (.eql Z Z)<|.yw (.pickT Z Z)<|.az Z<|?_
  refine y9 Z Z λW s=>⟨iB ?_,s.ext⟩
  first
   | (rw [nA (GZ qW),aU];(try simp only [aT,aF,aD,reduceCtorEq,bW,bP,bY,bM,aV,aE]);omega;done)
   | (rw [nD (vF qW) (HZ qA),aU];(try simp only [aT,aF,aD,reduceCtorEq,bW,bP,bY,bM,aV,aE]);omega;done)
   | (rw [nB (vF qW) (IA qA),aU];(try simp only [aT,aF,aD,reduceCtorEq,bW,bP,bY,bM,aV,aE]);omega;done)
 refine .gG<|.gG<|.gG<|.yw (.pickF Z Z)<|.az Z<|?_
 refine y9 Z Z λW s=>⟨iB ?_,s.ext⟩
 first
  | (rw [nA (GZ qW),aU];(try simp only [aT,aF,aD,reduceCtorEq,bW,bP,bY,bM,aV,aE]);omega;done)
  | (rw [nD (vF qW) (HZ qA),aU];(try simp only [aT,aF,aD,reduceCtorEq,bW,bP,bY,bM,aV,aE]);omega;done)
  | (rw [nB (vF qW) (IA qA),aU];(try simp only [aT,aF,aD,reduceCtorEq,bW,bP,bY,bM,aV,aE]);omega;done)
theorem SR (op:UInt8):(cS op).ex=if op=3\/op=5\/op=18 then 1 else 0:=oD (q:=λop=>(cS op).ex=if op=3\/op=5\/op=18 then 1 else 0) (by decide +kernel) op
theorem ne7 {op:UInt8} (h:op=3\/op=5\/op=18):¬ op=7:=by rcases h with rfl | rfl | rfl <;> decide
theorem YR {op:UInt8} {nm:Str} {n:Int64} {args:List Ex} :HV (.mk op nm n args)=(decide ((16:Int)<=((op.toNat:Nat):Int)) && decide (((op.toNat:Nat):Int)<=21) && decide (nm=[]) && decide (n.toInt=0) && (args.all dS && decide (((args.length:Nat):Int)=2))):=by
 rw [gO,d_n,bO5 2 (i:=2) rfl,show decide ((16:Int)<=((op.toNat:Nat):Int))=decide (16<=op.toNat) from decide_eq_decide.2 (by omega),show decide (((op.toNat:Nat):Int)<=21)=decide (op.toNat<=21) from decide_eq_decide.2 (by omega)]
theorem cA9 {l:List Ex} {p:Ex->Bool} (h:l.length=2):l.all p=(p l[0] && p l[1]):=by
 match l,h with
 | [x,y],_=>simp
theorem bM6 {l:List Ex} {p:Ex->Bool} (hk:k<l.length) (hp:p l[k]=false):l.all p=false:=List.all_eq_false.2 ⟨_,bI hk,by rw [hp];decide⟩
variable {n:Nat}
theorem cA0:decide (((n:Nat):Int)<=4)=decide (n<=4):=decide_eq_decide.2 (by omega)
theorem d_0:decide (((n:Nat):Int)=0)=decide (n=0):=decide_eq_decide.2 (by omega)
theorem zS (H:Hp) (f:Fm) (cs:List Value) (w:World) (h:Rep H (dFm .i64 f) cs) (hA:Agr H w):Calls prg 85 #[.agg cs.toArray] w λr w'=>r=.returned (.bool (uN f))/\Ext w w':=by
 obtain ⟨op,nm,fd,a,b,ex,args⟩:=f;obtain ⟨p1,c1,p2,c2,rfl,hs1,hs2,hnm,hfd⟩:=gR h;have hcap1:=hs1.cap;have hcap2:=hs2.cap;refine Sx.enter (H:=H) func85 rfl ntmps85 rfl hA ?_;refine .sr<|.bx Z Z Z λb1=>.aq Z<|.sq<|.sr<|.fA Z eZ<|.lD Z cC Hm Z<|.nt<|.bk<|.sr<|.yw (.eql Z Z)<|.aq Z<|.cd Z (λh8=>?_) (λh8=>?_)
 ·have q3:op=3:=aS.1 (by have:=aJ h8;show op.toNat=3;omega);refine .sq<|.sr<|.fA Z eE<|.lD Z eQ Hm Z<|.yw (.lenSl eL Z)<|.yw (.neq Z Z)<|.nt<|.ce Z (λh13=>?_) (λh13=>?_)
  ·refine .sr<|.az Z<|.tR<|.bR<|.tR<|?_
   refine y9 Z Z λW s=>⟨iB ?_,s.ext⟩;rw [DF (ne7 (.inl q3)) (show ¬ ex.length=(cS op).ex by rw [SR,aO (.inl q3)];omega)]
  obtain ⟨e0,rfl⟩:∃ e0,ex=[e0]:=List.length_eq_one_iff.1 (by omega);obtain ⟨bX,oX,cX,hpX,rX,lX,mX⟩:=hs1.elem (i:=0) (d:=dEx .i64 e0) rfl;cases hpX;obtain ⟨op0,nm0,m0,args0⟩:=e0;obtain ⟨p0,c0,rfl,hs0,hn0⟩:=fX rX;have hcap0:=hs0.cap;refine .sk<|.tN<|.sr<|.fA Z eE<|.lD Z eQ Hm Z<|.yw (.indexSl eL Z Z (i:=0) Z (Nat.succ_pos _) (q:=oX+0 * 4) Z)<|.yw (.loadMW Z dH mX Z)<|.al iM Z λb3=>.sV .head Z Z gP Z (by simp [Value.oneCell',cH]) Z<|.ns<|.fA Z cO<|.lD Z cC Hm Z<|.yw (.geq Z Z)<|.mv Z<|.e2 (λh21=>?_) (λh21=>?_)
  ·refine .gy (.fieldAddr Z cO)<|.gy (.load Z cC Hm Z)<|.gy (.leq Z Z)<|.yw (.pickT Z Z)<|.mv Z<|.e2 (λh26=>?_) (λh26=>?_)
   ·refine .gy (.fieldAddr Z dD)<|.gy (.load Z cP Hm Z)<|.gy (.eqS Z Z)<|.yw (.pickT Z Z)<|.mv Z<|.e2 (λh31=>?_) (λh31=>?_)
    ·refine .gy (.fieldAddr Z dO)<|.gy (.load Z eS Hm Z)<|.gy (.eql Z Z)<|.yw (.pickT Z Z)<|.mv Z<|.e2 (λh36=>?_) (λh36=>?_)
     ·refine .gy (.fieldAddr Z fG)<|.gy (.load Z eQ Hm Z)<|.gy (.lenSl eL Z)<|.gy (.eql Z Z)<|.yw (.pickT Z Z)<|.mv Z<|.e2 (λh42=>?_) (λh42=>?_)
      ·have hl2:args0.length=2:=by omega
       have h0:0<args0.length:=by omega
       have h1:1<args0.length:=by omega
       obtain ⟨bA,oA,cA,hpA,rA,lA,mA⟩:=hs0.elem (fW (f:=dEx .i64) h0);cases hpA;obtain ⟨bB,oB,cB,hpB,rB,lB,mB⟩:=hs0.elem (fW (f:=dEx .i64) h1);cases hpB;refine .gy (.fieldAddr Z fG)<|.gy (.load Z eQ Hm Z)<|.gy (.indexSl eL Z Z (i:=0) Z (by omega) (q:=oA+0 * 4) Z)<|.gy (.loadMW Z dH mA lA)<|.gy (.call uS Z (λW s=>yQ _ H _ W rA s.agr))<|.yw (.pickT Z Z)<|.mv Z<|.b2 (λh49=>?_) (λh49=>?_)
       ·try simp only [dt] at h49
        refine .gy (.fieldAddr Z fG)<|.gy (.load Z eQ Hm Z)<|.gy (.indexSl eL Z Z (i:=1) Z (by omega) (q:=oA+1 * 4) Z)<|.gy (.loadMW Z dH mB lB)<|.gy (.call uS Z (λW s=>yQ _ H _ W rB s.agr))<|.yw (.pickT Z Z)<|.az Z<|.bR<|.tR<|?_
        refine y9 Z Z λW s=>⟨iB ?_,s.ext⟩;rw [yX q3,YR,aK h21,aK h26,aK h31,aK h36,aK h42,cA9 hl2,show dS args0[0]=true by simpa using h49];simp
       try simp only [df] at h49
       refine .gG<|.gG<|.gG<|.gG<|.gG<|.yw (.pickF Z Z)<|.az Z<|.bR<|.tR<|?_
       refine y9 Z Z λW s=>⟨iB ?_,s.ext⟩;rw [yX q3,YR,aK h21,aK h26,aK h31,aK h36,aK h42,cA9 hl2,show dS args0[0]=false by simpa using h49];simp
      refine .gG<|.gG<|.gG<|.gG<|.gG<|.yw (.pickF Z Z)<|.mv Z<|.gG<|.gG<|.gG<|.gG<|.gG<|.yw (.pickF Z Z)<|.az Z<|.bR<|.tR<|?_
      refine y9 Z Z λW s=>⟨iB ?_,s.ext⟩;rw [yX q3,YR,aK h21,aK h26,aK h31,aK h36,aM h42];simp
     refine .gG<|.gG<|.gG<|.gG<|.yw (.pickF Z Z)<|.mv Z<|.gG<|.gG<|.gG<|.gG<|.gG<|.yw (.pickF Z Z)<|.mv Z<|.gG<|.gG<|.gG<|.gG<|.gG<|.yw (.pickF Z Z)<|.az Z<|.bR<|.tR<|?_
     refine y9 Z Z λW s=>⟨iB ?_,s.ext⟩;rw [yX q3,YR,aK h21,aK h26,aK h31,aM h36];simp
    refine .gG<|.gG<|.gG<|.yw (.pickF Z Z)<|.mv Z<|.gG<|.gG<|.gG<|.gG<|.yw (.pickF Z Z)<|.mv Z<|.gG<|.gG<|.gG<|.gG<|.gG<|.yw (.pickF Z Z)<|.mv Z<|.gG<|.gG<|.gG<|.gG<|.gG<|.yw (.pickF Z Z)<|.az Z<|.bR<|.tR<|?_
    refine y9 Z Z λW s=>⟨iB ?_,s.ext⟩;rw [yX q3,YR,aK h21,aK h26,aM h31];simp
   refine .gG<|.gG<|.gG<|.yw (.pickF Z Z)<|.mv Z<|.gG<|.gG<|.gG<|.yw (.pickF Z Z)<|.mv Z<|.gG<|.gG<|.gG<|.gG<|.yw (.pickF Z Z)<|.mv Z<|.gG<|.gG<|.gG<|.gG<|.gG<|.yw (.pickF Z Z)<|.mv Z<|.gG<|.gG<|.gG<|.gG<|.gG<|.yw (.pickF Z Z)<|.az Z<|.bR<|.tR<|?_
   refine y9 Z Z λW s=>⟨iB ?_,s.ext⟩;rw [yX q3,YR,aK h21,aM h26];simp
  refine .gG<|.gG<|.gG<|.yw (.pickF Z Z)<|.mv Z<|.gG<|.gG<|.gG<|.yw (.pickF Z Z)<|.mv Z<|.gG<|.gG<|.gG<|.yw (.pickF Z Z)<|.mv Z<|.gG<|.gG<|.gG<|.gG<|.yw (.pickF Z Z)<|.mv Z<|.gG<|.gG<|.gG<|.gG<|.gG<|.yw (.pickF Z Z)<|.mv Z<|.gG<|.gG<|.gG<|.gG<|.gG<|.yw (.pickF Z Z)<|.az Z<|.bR<|.tR<|?_
  refine y9 Z Z λW s=>⟨iB ?_,s.ext⟩;rw [yX q3,YR,aM h21];simp
 have q3:¬ op=3:=λe=>aP h8 (by rw [e];rfl);refine .sr<|.yw (.eql Z Z)<|.aq Z<|.cd Z (λh56=>?_) (λh56=>?_)
 ·have q5:op=5:=aS.1 (by have:=aJ h56;show op.toNat=5;omega);refine .sr<|.fA Z eE<|.lD Z eQ Hm Z<|.yw (.lenSl eL Z)<|.yw (.eql Z Z)<|.mv Z<|.e2 (λh62=>?_) (λh62=>?_)
  ·obtain ⟨e0,rfl⟩:∃ e0,ex=[e0]:=List.length_eq_one_iff.1 (by omega);obtain ⟨bX,oX,cX,hpX,rX,lX,mX⟩:=hs1.elem (i:=0) (d:=dEx .i64 e0) rfl;cases hpX;refine .gy (.fieldAddr Z eE)<|.gy (.load Z eQ Hm Z)<|.gy (.indexSl eL Z Z (i:=0) Z (Nat.succ_pos _) (q:=oX+0 * 4) Z)<|.gy (.loadMW Z dH mX lX)<|.gy (.call uS Z (λW s=>yQ _ H _ W rX s.agr))<|.yw (.pickT Z Z)<|.az Z<|.bR<|.tR<|?_
   refine y9 Z Z λW s=>⟨iB ?_,s.ext⟩;rw [GM q5]
  refine .gG<|.gG<|.gG<|.gG<|.gG<|.yw (.pickF Z Z)<|.az Z<|.bR<|.tR<|?_
  refine y9 Z Z λW s=>⟨iB ?_,s.ext⟩;rw [DF (ne7 (.inr (.inl q5))) (show ¬ ex.length=(cS op).ex by rw [SR,aO (.inr (.inl q5))];omega)]
 have q5:¬ op=5:=λe=>aP h56 (by rw [e];rfl);refine .sr<|.yw (.eql Z Z)<|.aq Z<|.cd Z (λh69=>?_) (λh69=>?_)
 ·have q7:op=7:=aS.1 (by have:=aJ h69;show op.toNat=7;omega);refine .sq<|.sr<|.fA Z eE<|.lD Z eQ Hm Z<|.yw (.lenSl eL Z)<|.mv Z<|.nt<|.bk<|.lp (X:=Nat) [(1,_),(72,_),(73,_)] ⟨Z,Z,Z,Jt⟩ [_] (λk=>[(74,iN k)]) (λk=>H) (λk=>[]) (λk=>k<=ex.length/\(ex.take k).all (λe=>BG e || dS e)=true) (λk=>ex.length - k) 0 (λ_ s=>s) ⟨Z,Jt⟩ ⟨aR _,Z⟩ λk hC=>?_
  obtain ⟨hk0,hal⟩:=hC;refine .sr<|.yw (.lss Z Z)<|.nt<|.sq<|.ce Z (λh75=>?_) (λh75=>?_)
  ·have hk:k<ex.length:=by omega
   obtain ⟨bE,oE,cE,hpE,rE,lE,mE⟩:=hs1.elem (fW (f:=dEx .i64) hk);cases hpE;refine .sk<|.tN<|.sq<|.bk<|.sr<|.yw (.indexSl eL Z Z Z (by omega) (q:=oE+k * 4) Z)<|.yw (.loadMW Z dH mE lE)<|.al iM Z λb5=>.sV .head Z Z gP lE rE.one Z<|.ns<|.yw (.loadW Z dH Hm lE)<|.yw (.call IB Z (λW s=>LE H _ _ W rE s.agr))<|.yw (.not Z)<|.mv Z<|.b2 (λh81=>?_) (λh81=>?_)
   ·try simp only [dt] at h81
    refine .gy (.loadW Z dH Hm lE)<|.gy (.call uS Z (λW s=>yQ _ H _ W rE s.agr))<|.gy (.not Z)<|.yw (.pickT Z Z)<|.nt<|.cd Z (λh85=>?_) (λh85=>?_)
    ·refine .sr<|.az Z<|.bR<|.tR<|.tR<|.bR<|.tR<|.bR<|.tR<|?_
     refine y9 Z Z λW s=>⟨iB ?_,s.ext⟩;rw [uE q7,bM6 hk (by rw [show BG ex[k]=false by simpa using h81,show dS ex[k]=false by simpa using h85];rfl)];simp
    exact .sk<|.bN<|.tN<|.rg<|.yw (.add Z Z w7)<|.mv Z<|.nt<|.ag (k+1) ⟨Z,Jt⟩ ⟨Z,Z,Z,Jt⟩ (λ_ s=>s.pick [1] [_] Z Z) ⟨by omega,GP hk hal (by rw [show dS ex[k]=true by simpa using h85,Bool.or_true])⟩ (by omega)
   try simp only [df] at h81
   exact .gG<|.gG<|.gG<|.yw (.pickF Z Z)<|.nt<|.cF Z<|.sk<|.bN<|.tN<|.rg<|.yw (.add Z Z w7)<|.mv Z<|.nt<|.ag (k+1) ⟨Z,Jt⟩ ⟨Z,Z,Z,Jt⟩ (λ_ s=>s.pick [1] [_] Z Z) ⟨by omega,GP hk hal (by rw [show BG ex[k]=true by simpa using h81];rfl)⟩ (by omega)
  obtain rfl:k=ex.length:=by omega
  rw [aZ] at hal;refine .ex<|.eb<|.sr<|.fA Z eE<|.lD Z eQ Hm Z<|.yw (.lenSl eL Z)<|.yw (.leq Z Z)<|.az Z<|.bR<|.tR<|?_
  refine y9 Z Z λW s=>⟨iB ?_,s.ext⟩;rw [uE q7,hal,aC];exact cA0
 have q7:¬ op=7:=λe=>aP h69 (by rw [e];rfl);refine .sr<|.yw (.eql Z Z)<|.aq Z<|.cd Z (λh91=>?_) (λh91=>?_)
 ·have q18:op=18:=aS.1 (by have:=aJ h91;show op.toNat=18;omega);refine .sr<|.fA Z eE<|.lD Z eQ Hm Z<|.yw (.lenSl eL Z)<|.yw (.eql Z Z)<|.mv Z<|.e2 (λh97=>?_) (λh97=>?_)
  ·obtain ⟨e0,rfl⟩:∃ e0,ex=[e0]:=List.length_eq_one_iff.1 (by omega);obtain ⟨bX,oX,cX,hpX,rX,lX,mX⟩:=hs1.elem (i:=0) (d:=dEx .i64 e0) rfl;cases hpX;obtain ⟨op0,nm0,m0,args0⟩:=e0;obtain ⟨p0,c0,rfl,hs0,hn0⟩:=fX rX;have hcap0:=hs0.cap;refine .gy (.fieldAddr Z eE)<|.gy (.load Z eQ Hm Z)<|.gy (.indexSl eL Z Z (i:=0) Z (Nat.succ_pos _) (q:=oX+0 * 4) Z)<|.gy (.fieldAddr Z cO)<|.gy (.loadM Z cC mX (k:=0) Z Z)<|.gy (.eql Z Z)<|.yw (.pickT Z Z)<|.mv Z<|.e2 (λh105=>?_) (λh105=>?_)
   ·refine .gy (.fieldAddr Z eE)<|.gy (.load Z eQ Hm Z)<|.gy (.indexSl eL Z Z (i:=0) Z (Nat.succ_pos _) (q:=oX+0 * 4) Z)<|.gy (.loadMW Z dH mX Z)<|.gy (.call uS Z (λW s=>yQ _ H _ W rX s.agr))<|.yw (.pickT Z Z)<|.mv Z<|.b2 (λh112=>?_) (λh112=>?_)
    ·try simp only [dt] at h112
     refine .gy (.fieldAddr Z eE)<|.gy (.load Z eQ Hm Z)<|.gy (.indexSl eL Z Z (i:=0) Z (Nat.succ_pos _) (q:=oX+0 * 4) Z)<|.gy (.fieldAddr Z dO)<|.gy (.loadM Z eS mX (k:=2) Z Z)<|.gy (.leq Z Z)<|.yw (.pickT Z Z)<|.az Z<|.bR<|.tR<|?_
     refine y9 Z Z λW s=>⟨iB ?_,s.ext⟩;rw [jR q18,aK h105,show dS (.mk op0 nm0 m0 args0)=true by simpa using h112];simp
    try simp only [df] at h112
    refine .gG<|.gG<|.gG<|.gG<|.gG<|.gG<|.yw (.pickF Z Z)<|.az Z<|.bR<|.tR<|?_
    refine y9 Z Z λW s=>⟨iB ?_,s.ext⟩;rw [jR q18,aK h105,show dS (.mk op0 nm0 m0 args0)=false by simpa using h112];simp
   refine .gG<|.gG<|.gG<|.gG<|.gG<|.yw (.pickF Z Z)<|.mv Z<|.gG<|.gG<|.gG<|.gG<|.gG<|.gG<|.yw (.pickF Z Z)<|.az Z<|.bR<|.tR<|?_
   refine y9 Z Z λW s=>⟨iB ?_,s.ext⟩;rw [jR q18,aM h105];simp
  refine .gG<|.gG<|.gG<|.gG<|.gG<|.gG<|.yw (.pickF Z Z)<|.mv Z<|.gG<|.gG<|.gG<|.gG<|.gG<|.yw (.pickF Z Z)<|.mv Z<|.gG<|.gG<|.gG<|.gG<|.gG<|.gG<|.yw (.pickF Z Z)<|.az Z<|.bR<|.tR<|?_
  refine y9 Z Z λW s=>⟨iB ?_,s.ext⟩;rw [DF (ne7 (.inr (.inr q18))) (show ¬ ex.length=(cS op).ex by rw [SR,aO (.inr (.inr q18))];omega)]
 have q18:¬ op=18:=λe=>aP h91 (by rw [e];rfl);refine .sk<|.bN<|.tN<|.sr<|.fA Z eE<|.lD Z eQ Hm Z<|.yw (.lenSl eL Z)<|.yw (.eql Z Z)<|.az Z<|?_
 refine y9 Z Z λW s=>⟨iB ?_,s.ext⟩;rw [aK9 q7,aG q3,aG q5,aG q18,aC,SR,aG (by rintro (h | h | h);exact q3 h;exact q5 h;exact q18 h)];exact d_0
theorem aU5 (op:UInt8):rfF op.toNat=fdF op:=oD (q:=λop=>rfF op.toNat=fdF op) (by decide +kernel) op
theorem bY0 (op:UInt8) (n:Nat):(decide (¬ (cS op).lv=0) && decide (n=(cS op).ar))=decide (opI op.toNat=((n:Nat):Int)):=by
 have e:aV4 op=opI op.toNat:=rfl;rw [<-e];rcases bU0 op with ⟨h1,h2⟩ | ⟨h1,h2⟩
 ·rw [aK h1,h2,aA,decide_eq_decide];omega
 ·rw [h1,h2,aM (show ¬ (-1:Int)=(n:Nat) by omega)];rfl
theorem BA {op:UInt8} {nm fd:Str} {b:Int64} {ex:List Ex} {args:List Fm} :jQ (.mk op nm fd a b ex args)=(decide (opI op.toNat=((args.length:Nat):Int)) && (rfN op.toNat || decide (nm=[])) && (rfF op.toNat || decide (fd=[])) && uN (.mk op nm fd a b ex args) && CB (.mk op nm fd a b ex args)):=by
 rw [KE,<-bY0,bO3,bO4,aU5,show rfN op.toNat=fdN op from rfl];generalize fdN op=x1;generalize fdF op=x2;generalize decide (nm=[])=x3;generalize decide (fd=[])=x4;generalize uN _=x5;generalize CB _=x6;generalize decide (¬ (cS op).lv=0)=x7;generalize decide (args.length=(cS op).ar)=x8;cases x1 <;> cases x2 <;> cases x3 <;> cases x4 <;> cases x5 <;> cases x6 <;> cases x7 <;> cases x8 <;> rfl
theorem aH6 (f:Fm):∀ (H:Hp) (cs:List Value) (w:World),Rep H (dFm .i64 f) cs->Agr H w->Calls prg 42 #[.agg cs.toArray] w λr w'=>r=.returned (.bool (Fm.all jQ f))/\Ext w w':=by
 induction f using Fm.ind with | _ op nm fd a b ex args ih
 intro H cs w h hA;obtain ⟨p1,c1,p2,c2,rfl,hs1,hs2,hnm,hfd⟩:=gR h;have hcap1:=hs1.cap;have hcap2:=hs2.cap;refine Sx.enter (H:=H) func42 rfl ntmps42 rfl hA ?_;refine .sr<|.bx Z Z Z λb1=>.a Z Z<|.ns<|.fA Z eZ<|.lD Z cC Hm Z<|.yw (.call IC Z (λW s=>EM H op.toNat W s.agr))<|.mv Z<|.yw (.extract Z Z)<|.yw (.extract Z Z)<|.a Z Z<|.aq Z<|.sq<|.cu (X:=Bool) [(1,_)] ⟨Z,Jt⟩ (λz9=>[(47,.bool z9)]) (λz9=>H) (λz9=>[.box b1 [.int .i64 op.toNat,cH nm,cH fd,.int .i64 a.toInt,.int .i64 b.toInt,.slice p1 ex.length c1,.slice p2 args.length c2] 27]) (λz9=>z9=!jQ (.mk op nm fd a b ex args)) ?_ λz9 hC=>?_
 ·
  refine .fL 34 [(0,0),(1,0),(2,0),(3,0),(4,0),(5,0),(6,0),(7,0),(8,0),(9,0),(10,0),(11,0),(12,0),(13,0),(14,0),(15,0),(16,0),(17,0),(18,0),(19,0),(20,0),(21,0),(22,0),(23,0),(24,0),(25,0),(26,0),(27,0),(28,0),(29,0),(30,0),(31,0),(32,0),(33,0)]<|.fA Z eZ<|.lD Z cC Hm Z<|.yw (.call QJ Z (λW s=>PF _ op.toNat W s.agr))<|.fA Z iJ<|.lD Z oL Hm Z<|.yw (.lenSl nF Z)<|.yw (.neq Z Z)<|.mv Z<|.e2 (λh20=>?_) (λh20=>?_)
  ·exact .gG<|.gG<|.gG<|.gV<|.gV<|.gV<|.gG<|.yw (.pickT Z Z)<|.mv Z<|.gG<|.gG<|.gG<|.gV<|.gV<|.gV<|.gG<|.yw (.pickT Z Z)<|.mv Z<|.gG<|.gG<|.gG<|.yw (.pickT Z Z)<|.mv Z<|.gG<|.gG<|.gG<|.fn (tl:=[_]) Z<|.yw (.pickT Z Z)<|.nt<|.me _ ⟨Z,Jt⟩ ⟨Z,Jt⟩ (λ_ s=>s) (by rw [BA,aM h20];simp)
  refine .yg Z Z (.move Z) Z<|.yg Z Z (.not Z) Z<|.yg Z Z (.move Z) Z<|.b2 (λh23=>?_) (λh23=>?_)
  ·try simp only [dt] at h23
   refine .yg Z Z (.fieldAddr Z kL) Z<|.yg Z Z (.load Z cP Hm Z) Z<|.yg Z Z (.neS Z Z) Z<|.yg Z Z (.pickT Z Z) Z<|.yw (.pickF Z Z)<|.mv Z<|.e2 (λh29=>?_) (λh29=>?_)
   ·exact .gG<|.gG<|.gG<|.gV<|.gV<|.gV<|.gG<|.yw (.pickT Z Z)<|.mv Z<|.gG<|.gG<|.gG<|.yw (.pickT Z Z)<|.mv Z<|.gG<|.gG<|.gG<|.fn (tl:=[_]) Z<|.yw (.pickT Z Z)<|.nt<|.me _ ⟨Z,Jt⟩ ⟨Z,Jt⟩ (λ_ s=>s) (by rw [BA,aK (bS.1 h20),show rfN op.toNat=false by simpa using h23,aM h29];simp)
   refine .yg Z Z (.move Z) Z<|.yg Z Z (.not Z) Z<|.yg Z Z (.move Z) Z<|.b2 (λh32=>?_) (λh32=>?_)
   ·try simp only [dt] at h32
    refine .yg Z Z (.fieldAddr Z kK) Z<|.yg Z Z (.load Z cP Hm Z) Z<|.yg Z Z (.neS Z Z) Z<|.yg Z Z (.pickT Z Z) Z<|.yw (.pickF Z Z)<|.mv Z<|.b2 (λh38=>?_) (λh38=>?_)
    ·try simp only [dt] at h38
     exact .gG<|.gG<|.gG<|.yw (.pickT Z Z)<|.mv Z<|.gG<|.gG<|.gG<|.fn (tl:=[_]) Z<|.yw (.pickT Z Z)<|.nt<|.me _ ⟨Z,Jt⟩ ⟨Z,Jt⟩ (λ_ s=>s) (by rw [BA,aK (bS.1 h20),show rfN op.toNat=false by simpa using h23,aK (bS.1 h29),show rfF op.toNat=false by simpa using h32,aM h38];simp)
    try simp only [df] at h38
    refine .yg Z Z (.loadW Z dY Hm Z) Z<|.yg Z Z (.call CY Z (λW s=>zS H (.mk op nm fd a b ex args) _ W h s.agr)) Z<|.yg Z Z (.not Z) Z<|.yw (.pickF Z Z)<|.mv Z<|.b2 (λh43=>?_) (λh43=>?_)
    ·try simp only [dt] at h43
     exact .gG<|.gG<|.gG<|.fn (tl:=[_]) Z<|.yw (.pickT Z Z)<|.nt<|.me _ ⟨Z,Jt⟩ ⟨Z,Jt⟩ (λ_ s=>s) (by rw [BA,aK (bS.1 h20),show rfN op.toNat=false by simpa using h23,aK (bS.1 h29),show rfF op.toNat=false by simpa using h32,aK (bS.1 h38),show uN (.mk op nm fd a b ex args)=false by simpa using h43];simp)
    try simp only [df] at h43
    exact .yg Z Z (.loadW Z dY Hm Z) Z<|.yg Z Z (.call CX Z (λW s=>xS H (.mk op nm fd a b ex args) _ W h s.agr)) Z<|.yg Z Z (.not Z) Z<|.fn (tl:=[_]) Z<|.yw (.pickF Z Z)<|.nt<|.me _ ⟨Z,Jt⟩ ⟨Z,Jt⟩ (λ_ s=>s) (by rw [BA,aK (bS.1 h20),show rfN op.toNat=false by simpa using h23,aK (bS.1 h29),show rfF op.toNat=false by simpa using h32,aK (bS.1 h38),show uN (.mk op nm fd a b ex args)=true by simpa using h43];simp)
   try simp only [df] at h32
   refine .gG<|.gG<|.gG<|.yg Z Z (.pickF Z Z) Z<|.yw (.pickF Z Z)<|.mv Z<|.yg Z Z (.loadW Z dY Hm Z) Z<|.yg Z Z (.call CY Z (λW s=>zS H (.mk op nm fd a b ex args) _ W h s.agr)) Z<|.yg Z Z (.not Z) Z<|.yw (.pickF Z Z)<|.mv Z<|.b2 (λh43=>?_) (λh43=>?_)
   ·try simp only [dt] at h43
    exact .gG<|.gG<|.gG<|.fn (tl:=[_]) Z<|.yw (.pickT Z Z)<|.nt<|.me _ ⟨Z,Jt⟩ ⟨Z,Jt⟩ (λ_ s=>s) (by rw [BA,aK (bS.1 h20),show rfN op.toNat=false by simpa using h23,aK (bS.1 h29),show rfF op.toNat=true by simpa using h32,show uN (.mk op nm fd a b ex args)=false by simpa using h43];simp)
   try simp only [df] at h43
   exact .yg Z Z (.loadW Z dY Hm Z) Z<|.yg Z Z (.call CX Z (λW s=>xS H (.mk op nm fd a b ex args) _ W h s.agr)) Z<|.yg Z Z (.not Z) Z<|.fn (tl:=[_]) Z<|.yw (.pickF Z Z)<|.nt<|.me _ ⟨Z,Jt⟩ ⟨Z,Jt⟩ (λ_ s=>s) (by rw [BA,aK (bS.1 h20),show rfN op.toNat=false by simpa using h23,aK (bS.1 h29),show rfF op.toNat=true by simpa using h32,show uN (.mk op nm fd a b ex args)=true by simpa using h43];simp)
  try simp only [df] at h23
  refine .gG<|.gG<|.gG<|.yg Z Z (.pickF Z Z) Z<|.yw (.pickF Z Z)<|.mv Z<|.yg Z Z (.move Z) Z<|.yg Z Z (.not Z) Z<|.yg Z Z (.move Z) Z<|.b2 (λh32=>?_) (λh32=>?_)
  ·try simp only [dt] at h32
   refine .yg Z Z (.fieldAddr Z kK) Z<|.yg Z Z (.load Z cP Hm Z) Z<|.yg Z Z (.neS Z Z) Z<|.yg Z Z (.pickT Z Z) Z<|.yw (.pickF Z Z)<|.mv Z<|.b2 (λh38=>?_) (λh38=>?_)
   ·try simp only [dt] at h38
    exact .gG<|.gG<|.gG<|.yw (.pickT Z Z)<|.mv Z<|.gG<|.gG<|.gG<|.fn (tl:=[_]) Z<|.yw (.pickT Z Z)<|.nt<|.me _ ⟨Z,Jt⟩ ⟨Z,Jt⟩ (λ_ s=>s) (by rw [BA,aK (bS.1 h20),show rfN op.toNat=true by simpa using h23,show rfF op.toNat=false by simpa using h32,aM h38];simp)
   try simp only [df] at h38
   refine .yg Z Z (.loadW Z dY Hm Z) Z<|.yg Z Z (.call CY Z (λW s=>zS H (.mk op nm fd a b ex args) _ W h s.agr)) Z<|.yg Z Z (.not Z) Z<|.yw (.pickF Z Z)<|.mv Z<|.b2 (λh43=>?_) (λh43=>?_)
   ·try simp only [dt] at h43
    exact .gG<|.gG<|.gG<|.fn (tl:=[_]) Z<|.yw (.pickT Z Z)<|.nt<|.me _ ⟨Z,Jt⟩ ⟨Z,Jt⟩ (λ_ s=>s) (by rw [BA,aK (bS.1 h20),show rfN op.toNat=true by simpa using h23,show rfF op.toNat=false by simpa using h32,aK (bS.1 h38),show uN (.mk op nm fd a b ex args)=false by simpa using h43];simp)
   try simp only [df] at h43
   exact .yg Z Z (.loadW Z dY Hm Z) Z<|.yg Z Z (.call CX Z (λW s=>xS H (.mk op nm fd a b ex args) _ W h s.agr)) Z<|.yg Z Z (.not Z) Z<|.fn (tl:=[_]) Z<|.yw (.pickF Z Z)<|.nt<|.me _ ⟨Z,Jt⟩ ⟨Z,Jt⟩ (λ_ s=>s) (by rw [BA,aK (bS.1 h20),show rfN op.toNat=true by simpa using h23,show rfF op.toNat=false by simpa using h32,aK (bS.1 h38),show uN (.mk op nm fd a b ex args)=true by simpa using h43];simp)
  try simp only [df] at h32
  refine .gG<|.gG<|.gG<|.yg Z Z (.pickF Z Z) Z<|.yw (.pickF Z Z)<|.mv Z<|.yg Z Z (.loadW Z dY Hm Z) Z<|.yg Z Z (.call CY Z (λW s=>zS H (.mk op nm fd a b ex args) _ W h s.agr)) Z<|.yg Z Z (.not Z) Z<|.yw (.pickF Z Z)<|.mv Z<|.b2 (λh43=>?_) (λh43=>?_)
  ·try simp only [dt] at h43
   exact .gG<|.gG<|.gG<|.fn (tl:=[_]) Z<|.yw (.pickT Z Z)<|.nt<|.me _ ⟨Z,Jt⟩ ⟨Z,Jt⟩ (λ_ s=>s) (by rw [BA,aK (bS.1 h20),show rfN op.toNat=true by simpa using h23,show rfF op.toNat=true by simpa using h32,show uN (.mk op nm fd a b ex args)=false by simpa using h43];simp)
  try simp only [df] at h43
  exact .yg Z Z (.loadW Z dY Hm Z) Z<|.yg Z Z (.call CX Z (λW s=>xS H (.mk op nm fd a b ex args) _ W h s.agr)) Z<|.yg Z Z (.not Z) Z<|.fn (tl:=[_]) Z<|.yw (.pickF Z Z)<|.nt<|.me _ ⟨Z,Jt⟩ ⟨Z,Jt⟩ (λ_ s=>s) (by rw [BA,aK (bS.1 h20),show rfN op.toNat=true by simpa using h23,show rfF op.toNat=true by simpa using h32,show uN (.mk op nm fd a b ex args)=true by simpa using h43];simp)
 have e9:=hC;refine .cd Z (λh47=>?_) (λh47=>?_)
 ·have hf:jQ (.mk op nm fd a b ex args)=false:=by rw [h47] at e9;simpa using e9.symm
  refine .sr<|.az Z<|.tR<|?_
  refine y9 Z Z λW s=>⟨iB ?_,s.ext⟩
  first
   | (rw [fJ,hf];rfl;done)
   | (rw [fJ,hf,hal];rfl;done)
   | (rw [fJ,tX hk (by simpa using h57)];simp;done)
 have hf:jQ (.mk op nm fd a b ex args)=true:=by rw [h47] at e9;simpa using e9.symm
 refine .sk<|.tN<|.sq<|.sr<|.fA Z iJ<|.lD Z oL Hm Z<|.yw (.lenSl nF Z)<|.mv Z<|.nt<|.bk<|.lp (X:=Nat) [(49,_),(50,_)] ⟨Z,Z,Jt⟩ [_] (λk=>[(51,iN k)]) (λk=>H) (λk=>[]) (λk=>k<=args.length/\(args.take k).all (Fm.all jQ)=true) (λk=>args.length - k) 0 (λ_ s=>s) ⟨Z,Jt⟩ ⟨aR _,Z⟩ λk hC=>?_
 obtain ⟨hk0,hal⟩:=hC;refine .sr<|.yw (.lss Z Z)<|.nt<|.sq<|.ce Z (λh52=>?_) (λh52=>?_)
 ·have hk:k<args.length:=by omega
  obtain ⟨bF,oF,cF,hpF,rF,lF,mF⟩:=hs2.elem (fW (f:=dFm .i64) hk);cases hpF;refine .sk<|.tN<|.sq<|.bk<|.sr<|.yw (.indexSl nF Z Z Z (by omega) (q:=oF+k * 7) Z)<|.yw (.loadMW Z dY mF lF)<|.al lZ Z λb6=>.sV .head Z Z kG lF rF.one Z<|.ns<|.yw (.loadW Z dY Hm lF)<|.yw (.call QN Z (λW s=>ih _ (bI hk) H cF W rF s.agr))<|.yw (.not Z)<|.nt<|.cd Z (λh57=>?_) (λh57=>?_)
  ·refine .sr<|.az Z<|.bR<|.tR<|.tR<|.bR<|.tR<|?_
   refine y9 Z Z λW s=>⟨iB ?_,s.ext⟩
   first
    | (rw [fJ,hf];rfl;done)
    | (rw [fJ,hf,hal];rfl;done)
    | (rw [fJ,tX hk (by simpa using h57)];simp;done)
  exact .sk<|.bN<|.tN<|.rg<|.yw (.add Z Z w7)<|.mv Z<|.nt<|.ag (k+1) ⟨Z,Jt⟩ ⟨Z,Z,Jt⟩ (λ_ s=>s.pick [1] [_] Z Z) ⟨by omega,CS hk hal (by simpa using h57)⟩ (by omega)
 obtain rfl:k=args.length:=by omega
 rw [aZ] at hal;refine .ex<|.eb<|.sr<|.az Z<|?_
 refine y9 Z Z λW s=>⟨iB ?_,s.ext⟩
 first
  | (rw [fJ,hf];rfl;done)
  | (rw [fJ,hf,hal];rfl;done)
  | (rw [fJ,tX hk (by simpa using h57)];simp;done)
def dpB (op:UInt8) (e:Ex):Bool:=decide (9<e.depth) || (decide (8<e.depth) && !decide (op=3))
theorem dpI {op:UInt8} {e:Ex} :dpB op e=(decide ((9:Int)<((e.depth:Nat):Int)) || (decide ((8:Int)<((e.depth:Nat):Int)) && decide (¬ ((op.toNat:Nat):Int)=3))):=by
 unfold dpB;rw [decide_not,<-AF 3 (i:=3) (by decide) rfl,show decide ((9:Int)<((e.depth:Nat):Int))=decide (9<e.depth) from decide_eq_decide.2 (by omega),show decide ((8:Int)<((e.depth:Nat):Int))=decide (8<e.depth) from decide_eq_decide.2 (by omega)];rfl
theorem aA7 {op:UInt8} {nm fd:Str} {b:Int64} {ex:List Ex} {args:List Fm} :oS (.mk op nm fd a b ex args)=!ex.any (dpB op):=by
 have h:=aL1 (.mk op nm fd a b ex args);have e:bB4 (.mk op nm fd a b ex args)=ex.any (dpB op):=rfl;rw [<-e,h,Bool.not_not]
theorem aU2 {op:UInt8} {nm fd:Str} {b:Int64} {ex:List Ex} {args:List Fm} (hk:k<ex.length) (h:dpB op ex[k]=true):oS (.mk op nm fd a b ex args)=false:=by rw [aA7,CE hk h];rfl
theorem bQ5 {op:UInt8} {nm fd:Str} {b:Int64} {ex:List Ex} {args:List Fm} (h:ex.any (dpB op)=false):oS (.mk op nm fd a b ex args)=true:=by rw [aA7,h];rfl
theorem bJ3 {e:Ex} (h:gdE e=true):e.depth<=34:=by
 unfold gdE at h;rw [aF,aD] at h;exact h.1
theorem aH8 (f:Fm):gdF f=true->∀ (H:Hp) (cs:List Value) (w:World),Rep H (dFm .i64 f) cs->Agr H w->Calls prg 40 #[.agg cs.toArray] w λr w'=>r=.returned (.bool (!Fm.all oS f))/\Ext w w':=by
 induction f using Fm.ind with | _ op nm fd a b ex args ih
 intro hgd H cs w h hA;obtain ⟨⟨hop,hexl,hal3,hge⟩,hga⟩:=SJ.1 hgd;obtain ⟨p1,c1,p2,c2,rfl,hs1,hs2,hnm,hfd⟩:=gR h;have hcap1:=hs1.cap;have hcap2:=hs2.cap;refine Sx.enter (H:=H) func40 rfl ntmps40 rfl hA ?_;refine .sr<|.bx Z Z Z λb1=>.aq Z<|.sq<|.sr<|.fA Z eE<|.lD Z eQ Hm Z<|.yw (.lenSl eL Z)<|.mv Z<|.nt<|.bk<|.lp (X:=Nat) [(1,_),(8,_),(9,_)] ⟨Z,Z,Z,Jt⟩ [_] (λk=>[(10,iN k)]) (λk=>H) (λk=>[]) (λk=>k<=ex.length/\(ex.take k).any (dpB op)=false) (λk=>ex.length - k) 0 (λ_ s=>s) ⟨Z,Jt⟩ ⟨aR _,Z⟩ λk hC=>?_
 obtain ⟨hk0,hal⟩:=hC;refine .sr<|.yw (.lss Z Z)<|.nt<|.sq<|.ce Z (λh11=>?_) (λh11=>?_)
 ·have hk:k<ex.length:=by omega
  obtain ⟨bE,oE,cE,hpE,rE,lE,mE⟩:=hs1.elem (fW (f:=dEx .i64) hk);cases hpE;have hdp:=bJ3 (hge _ (bI hk));refine .sk<|.tN<|.sq<|.bk<|.sr<|.yw (.indexSl eL Z Z Z (by omega) (q:=oE+k * 4) Z)<|.yw (.loadMW Z dH mE lE)<|.al iM Z λb4=>.sV .head Z Z gP lE rE.one Z<|.ns<|.yw (.loadW Z dH Hm lE)<|.yw (.call ID Z (λW s=>BM _ H _ W rE (by omega) s.agr))<|.yw (.gtr Z Z)<|.mv Z<|.e2 (λh17=>?_) (λh17=>?_)
  ·refine .gG<|.gG<|.gG<|.gG<|.gV<|.gV<|.gV<|.gG<|.yw (.pickT Z Z)<|.nt<|.cT Z<|.sr<|.az Z<|.bR<|.tR<|.tR<|.bR<|.tR<|?_
   refine y9 Z Z λW s=>⟨iB ?_,s.ext⟩;rw [fJ,aU2 hk (by rw [dpI,aK h17];rfl)];rfl
  refine .gy (.loadW Z dH Hm lE)<|.gy (.call ID Z (λW s=>BM _ H _ W rE (by omega) s.agr))<|.gy (.gtr Z Z)<|.gy (.move Z)<|.e2 (λh21=>?_) (λh21=>?_)
  ·refine .gy (.fieldAddr Z eZ)<|.gy (.load Z cC dC Z)<|.gy (.neq Z Z)<|.gy (.pickT Z Z)<|.yw (.pickF Z Z)<|.nt<|.ce Z (λh26=>?_) (λh26=>?_)
   ·refine .sr<|.az Z<|.bR<|.tR<|.tR<|.bR<|.tR<|?_
    refine y9 Z Z λW s=>⟨iB ?_,s.ext⟩;rw [fJ,aU2 hk (by rw [dpI,aM h17,aK h21,aK h26];rfl)];rfl
   exact .sk<|.bN<|.tN<|.rg<|.yw (.add Z Z w7)<|.mv Z<|.nt<|.ag (k+1) ⟨Z,Jt⟩ ⟨Z,Z,Z,Jt⟩ (λ_ s=>s.pick [1] [_] Z Z) ⟨by omega,CD hk hal (by rw [dpI,aM h17,aK h21,aM h26];rfl)⟩ (by omega)
  exact .gG<|.gG<|.gG<|.gy (.pickF Z Z)<|.yw (.pickF Z Z)<|.nt<|.cF Z<|.sk<|.bN<|.tN<|.rg<|.yw (.add Z Z w7)<|.mv Z<|.nt<|.ag (k+1) ⟨Z,Jt⟩ ⟨Z,Z,Z,Jt⟩ (λ_ s=>s.pick [1] [_] Z Z) ⟨by omega,CD hk hal (by rw [dpI,aM h17,aM h21];rfl)⟩ (by omega)
 obtain rfl:k=ex.length:=by omega
 rw [aZ] at hal;have hno:=hal;refine .ex<|.eb<|.sq<|.sr<|.fA Z iJ<|.lD Z oL Hm Z<|.yw (.lenSl nF Z)<|.mv Z<|.nt<|.bk<|.lp (X:=Nat) [(29,_),(30,_)] ⟨Z,Z,Jt⟩ [_] (λk2=>[(31,iN k2)]) (λk2=>H) (λk2=>[]) (λk2=>k2<=args.length/\(args.take k2).all (Fm.all oS)=true) (λk2=>args.length - k2) 0 (λ_ s=>s) ⟨Z,Jt⟩ ⟨aR _,Z⟩ λk2 hC=>?_
 obtain ⟨hk20,hal2⟩:=hC;refine .sr<|.yw (.lss Z Z)<|.nt<|.sq<|.ce Z (λh32=>?_) (λh32=>?_)
 ·have hk2:k2<args.length:=by omega
  obtain ⟨bF,oF,cF,hpF,rF,lF,mF⟩:=hs2.elem (fW (f:=dFm .i64) hk2);cases hpF;refine .sk<|.tN<|.sq<|.bk<|.sr<|.yw (.indexSl nF Z Z Z (by omega) (q:=oF+k2 * 7) Z)<|.yw (.loadMW Z dY mF lF)<|.al lZ Z λb6=>.sV .head Z Z kG lF rF.one Z<|.ns<|.yw (.loadW Z dY Hm lF)<|.yw (.call QP Z (λW s=>ih _ (bI hk2) (hga _ (bI hk2)) H cF W rF s.agr))<|.nt<|.cd Z (λh36=>?_) (λh36=>?_)
  ·refine .sr<|.az Z<|.bR<|.tR<|.tR<|.bR<|.tR<|?_
   refine y9 Z Z λW s=>⟨iB ?_,s.ext⟩;rw [fJ,tX hk2 (by simpa using h36)];simp
  exact .sk<|.bN<|.tN<|.rg<|.yw (.add Z Z w7)<|.mv Z<|.nt<|.ag (k2+1) ⟨Z,Jt⟩ ⟨Z,Z,Jt⟩ (λ_ s=>s.pick [1] [_] Z Z) ⟨by omega,CS hk2 hal2 (by simpa using h36)⟩ (by omega)
 obtain rfl:k2=args.length:=by omega
 rw [aZ] at hal2;refine .ex<|.eb<|.sr<|.az Z<|?_
 refine y9 Z Z λW s=>⟨iB ?_,s.ext⟩;rw [fJ,bQ5 hno,hal2];rfl
theorem SB {op:UInt8} {nm:Str} {n:Int64} {args:List Ex} :pI (.mk op nm n args)=(!tnB op nm || args.any pI):=by rw [aD1,aS0]
theorem bW9 {op:UInt8} {nm:Str} (h:(decide (((op.toNat:Nat):Int)=5) || decide (((op.toNat:Nat):Int)=6) || decide (((op.toNat:Nat):Int)=8))=false):tnB op nm=true:=by
 rw [<-AF 5 (i:=5) (by decide) rfl,<-AF 6 (i:=6) (by decide) rfl,<-AF 8 (i:=8) (by decide) rfl] at h;simp only [lK,dP] at h;unfold tnB;rw [aG (by rintro (e | e | e);exact h.1.1 e;exact h.1.2 e;exact h.2 e)]
theorem tnI {op:UInt8} {nm:Str} (h:(decide (((op.toNat:Nat):Int)=5) || decide (((op.toNat:Nat):Int)=6) || decide (((op.toNat:Nat):Int)=8))=true):tnB op nm=if (fD nm).isSome then eN (spA nm) && eN (spB nm) else decide (((op.toNat:Nat):Int)=5) && eN nm:=by
 rw [<-AF 5 (i:=5) (by decide) rfl,<-AF 6 (i:=6) (by decide) rfl,<-AF 8 (i:=8) (by decide) rfl] at h;simp only [aT,aD] at h;unfold tnB spA spB;rw [aO (by rcases h with (e | e) | e;exact .inl e;exact .inr (.inl e);exact .inr (.inr e)),<-AF 5 (i:=5) (by decide) rfl];cases fD nm with
 | none=>rfl
 | some x=>rfl
theorem NO (e:Ex):∀ (H:Hp) (cs:List Value) (w:World),Rep H (dEx .i64 e) cs->Agr H w->Calls prg 84 #[.agg cs.toArray] w λr w'=>r=.returned (.bool (!pI e))/\Ext w w':=by
 induction e using Ex.ind with | _ op nm nn args ih
 intro H cs w h hA;obtain ⟨pp,c,rfl,hs,hnm⟩:=fX h;have hcap:=hs.cap;have hsa:=JU nm;have hsb:=JT nm;refine Sx.enter (H:=H) func84 rfl ntmps84 rfl hA ?_;refine .sr<|.bx Z Z Z λb1=>.aq Z<|.cu (X:=Unit) [(1,_)] ⟨Z,Jt⟩ (λu=>[]) (λu=>H) (λu=>[.box b1 [.int .i64 op.toNat,cH nm,.int .i64 nn.toInt,.slice pp args.length c] 83]) (λu=>tnB op nm=true) ?_ λu hC=>?_
 ·
  refine .cu (X:=Bool) [(1,_)] ⟨Z,Jt⟩ (λz2=>[(20,.bool z2)]) (λz2=>H) (λz2=>[.box b1 [.int .i64 op.toNat,cH nm,.int .i64 nn.toInt,.slice pp args.length c] 83]) (λz2=>z2=(decide (((op.toNat:Nat):Int)=5) || decide (((op.toNat:Nat):Int)=6) || decide (((op.toNat:Nat):Int)=8))) ?_ λz2 hC=>?_
  ·
   refine .rg<|.fA Z cO<|.lD Z cC Hm Z<|.yw (.eql Z Z)<|.mv Z<|.e2 (λh11=>?_) (λh11=>?_)
   ·exact .gG<|.gG<|.gG<|.yw (.pickT Z Z)<|.mv Z<|.gG<|.gG<|.gG<|.yw (.pickT Z Z)<|.nt<|.me _ ⟨Z,Jt⟩ ⟨Z,Jt⟩ (λ_ s=>s) (by rw [aK h11];rfl)
   refine .gy (.fieldAddr Z cO)<|.gy (.load Z cC Hm Z)<|.gy (.eql Z Z)<|.yw (.pickF Z Z)<|.mv Z<|.e2 (λh16=>?_) (λh16=>?_)
   ·exact .gG<|.gG<|.gG<|.yw (.pickT Z Z)<|.nt<|.me _ ⟨Z,Jt⟩ ⟨Z,Jt⟩ (λ_ s=>s) (by rw [aM h11,aK h16];rfl)
   exact .gy (.fieldAddr Z cO)<|.gy (.load Z cC Hm Z)<|.gy (.eql Z Z)<|.yw (.pickF Z Z)<|.nt<|.me _ ⟨Z,Jt⟩ ⟨Z,Jt⟩ (λ_ s=>s) (by rw [aM h11,aM h16];rfl)
  have e2:=hC;refine .cd Z (λh20=>?_) (λh20=>?_)
  ·have q20:(decide (((op.toNat:Nat):Int)=5) || decide (((op.toNat:Nat):Int)=6) || decide (((op.toNat:Nat):Int)=8))=true:=by rw [h20] at e2;exact e2.symm
   refine .sr<|.fA Z dD<|.lD Z cP Hm Z<|.yw (.call (v:=spV nm) aO9 Z (λW s=>XQ H nm (by omega) W s.agr))<|.mv Z<|.yw (.extract Z Z)<|.yw (.extract Z Z)<|.yw (.extract Z Z)<|.a Z Z<|.a Z Z<|.aq Z<|.cu (X:=Bool) [(1,_)] ⟨Z,Jt⟩ (λz5=>[(53,.bool z5)]) (λz5=>H) (λz5=>[.box b1 [.int .i64 op.toNat,cH nm,.int .i64 nn.toInt,.slice pp args.length c] 83]) (λz5=>z5=!tnB op nm) ?_ λz5 hC=>?_
   ·
    refine .rg<|.mv Z<|.mv Z<|.b2 (λh29=>?_) (λh29=>?_)
    ·try simp only [dt] at h29
     refine .gy (.move Z)<|.gy (.call uR Z (λW s=>qM H (spA nm) (by omega) W s.agr))<|.gy (.not Z)<|.gy (.move Z)<|.b2 (λh33=>?_) (λh33=>?_)
     ·try simp only [dt] at h33
      exact .gG<|.gG<|.gG<|.gy (.pickT Z Z)<|.yw (.pickT Z Z)<|.mv Z<|.gG<|.gG<|.gG<|.gV<|.gV<|.gV<|.gV<|.gV<|.gV<|.gV<|.gV<|.gV<|.gG<|.yw (.pickT Z Z)<|.nt<|.me _ ⟨Z,Jt⟩ ⟨Z,Jt⟩ (λ_ s=>s) (by clear ih h hs hA;rw [tnI q20];simp_all)
     try simp only [df] at h33
     refine .gy (.move Z)<|.gy (.call uR Z (λW s=>qM H (spB nm) (by omega) W s.agr))<|.gy (.not Z)<|.gy (.pickF Z Z)<|.yw (.pickT Z Z)<|.mv Z<|.b2 (λh39=>?_) (λh39=>?_)
     ·try simp only [dt] at h39
      exact .gG<|.gG<|.gG<|.gV<|.gV<|.gV<|.gV<|.gV<|.gV<|.gV<|.gV<|.gV<|.gG<|.yw (.pickT Z Z)<|.nt<|.me _ ⟨Z,Jt⟩ ⟨Z,Jt⟩ (λ_ s=>s) (by clear ih h hs hA;rw [tnI q20];simp_all)
     try simp only [df] at h39
     refine .gy (.move Z)<|.gy (.not Z)<|.gy (.move Z)<|.b2 (λh42=>?_) (λh42=>?_)
     ·try simp only [dt] at h42
      refine .gy (.fieldAddr Z cO)<|.gy (.load Z cC Hm Z)<|.gy (.neq Z Z)<|.gy (.move Z)<|.b2 (λh46=>?_) (λh46=>?_)
      ·try simp only [dt] at h46
       exact .gG<|.gG<|.gG<|.gG<|.gy (.pickT Z Z)<|.gy (.pickT Z Z)<|.yw (.pickF Z Z)<|.nt<|.me _ ⟨Z,Jt⟩ ⟨Z,Jt⟩ (λ_ s=>s) (by clear ih h hs hA;rw [tnI q20];simp_all)
      try simp only [df] at h46
      exact .gy (.fieldAddr Z dD)<|.gy (.load Z cP Hm Z)<|.gy (.call uR Z (λW s=>qM H nm (by omega) W s.agr))<|.gy (.not Z)<|.gy (.pickF Z Z)<|.gy (.pickT Z Z)<|.yw (.pickF Z Z)<|.nt<|.me _ ⟨Z,Jt⟩ ⟨Z,Jt⟩ (λ_ s=>s) (by clear ih h hs hA;rw [tnI q20];simp_all)
     try simp only [df] at h42
     exact .gG<|.gG<|.gG<|.gG<|.gV<|.gV<|.gV<|.gV<|.gG<|.gy (.pickF Z Z)<|.yw (.pickF Z Z)<|.nt<|.me _ ⟨Z,Jt⟩ ⟨Z,Jt⟩ (λ_ s=>s) (by clear ih h hs hA;rw [tnI q20];simp_all)
    try simp only [df] at h29
    refine .gG<|.gG<|.gG<|.gG<|.gV<|.gV<|.gV<|.gG<|.yw (.pickF Z Z)<|.mv Z<|.gy (.move Z)<|.gy (.not Z)<|.gy (.move Z)<|.b2 (λh42=>?_) (λh42=>?_)
    ·try simp only [dt] at h42
     refine .gy (.fieldAddr Z cO)<|.gy (.load Z cC Hm Z)<|.gy (.neq Z Z)<|.gy (.move Z)<|.b2 (λh46=>?_) (λh46=>?_)
     ·try simp only [dt] at h46
      exact .gG<|.gG<|.gG<|.gG<|.gy (.pickT Z Z)<|.gy (.pickT Z Z)<|.yw (.pickF Z Z)<|.nt<|.me _ ⟨Z,Jt⟩ ⟨Z,Jt⟩ (λ_ s=>s) (by clear ih h hs hA;rw [tnI q20];simp_all)
     try simp only [df] at h46
     exact .gy (.fieldAddr Z dD)<|.gy (.load Z cP Hm Z)<|.gy (.call uR Z (λW s=>qM H nm (by omega) W s.agr))<|.gy (.not Z)<|.gy (.pickF Z Z)<|.gy (.pickT Z Z)<|.yw (.pickF Z Z)<|.nt<|.me _ ⟨Z,Jt⟩ ⟨Z,Jt⟩ (λ_ s=>s) (by clear ih h hs hA;rw [tnI q20];simp_all)
    try simp only [df] at h42
    exact .gG<|.gG<|.gG<|.gG<|.gV<|.gV<|.gV<|.gV<|.gG<|.gy (.pickF Z Z)<|.yw (.pickF Z Z)<|.nt<|.me _ ⟨Z,Jt⟩ ⟨Z,Jt⟩ (λ_ s=>s) (by clear ih h hs hA;rw [tnI q20];simp_all)
   have e5:=hC;refine .cd Z (λh53=>?_) (λh53=>?_)
   ·have ht:tnB op nm=false:=by rw [h53] at e5;simpa using e5.symm
    refine .sr<|.az Z<|.tR<|?_
    refine y9 Z Z λW s=>⟨iB ?_,s.ext⟩
    first
     | (rw [SB,ht];rfl;done)
     | (rw [SB,ht,hal];rfl;done)
     | (rw [SB,CE hk (by simpa using h63)];simp;done)
   have ht:tnB op nm=true:=by rw [h53] at e5;simpa using e5.symm
   exact .sk<|.tN<|.me () trivial ⟨Z,Jt⟩ (λ_ s=>s) ht
  have q20:(decide (((op.toNat:Nat):Int)=5) || decide (((op.toNat:Nat):Int)=6) || decide (((op.toNat:Nat):Int)=8))=false:=by rw [h20] at e2;exact e2.symm
  have ht:tnB op nm=true:=bW9 q20;exact .sk<|.tN<|.me () trivial ⟨Z,Jt⟩ (λ_ s=>s) ht
 have ht:=hC;refine .sq<|.sr<|.fA Z fG<|.lD Z eQ Hm Z<|.yw (.lenSl eL Z)<|.mv Z<|.nt<|.bk<|.lp (X:=Nat) [(55,_),(56,_)] ⟨Z,Z,Jt⟩ [_] (λk=>[(57,iN k)]) (λk=>H) (λk=>[]) (λk=>k<=args.length/\(args.take k).any pI=false) (λk=>args.length - k) 0 (λ_ s=>s) ⟨Z,Jt⟩ ⟨aR _,Z⟩ λk hC=>?_
 obtain ⟨hk0,hal⟩:=hC;refine .sr<|.yw (.lss Z Z)<|.nt<|.sq<|.ce Z (λh58=>?_) (λh58=>?_)
 ·have hk:k<args.length:=by omega
  obtain ⟨bE,oE,cE,hpE,rE,lE,mE⟩:=hs.elem (fW (f:=dEx .i64) hk);cases hpE;refine .sk<|.tN<|.sq<|.bk<|.sr<|.yw (.indexSl eL Z Z Z (by omega) (q:=oE+k * 4) Z)<|.yw (.loadMW Z dH mE lE)<|.al iM Z λb7=>.sV .head Z Z gP lE rE.one Z<|.ns<|.yw (.loadW Z dH Hm lE)<|.yw (.call QG Z (λW s=>ih _ (bI hk) H cE W rE s.agr))<|.yw (.not Z)<|.nt<|.cd Z (λh63=>?_) (λh63=>?_)
  ·refine .sr<|.az Z<|.bR<|.tR<|.tR<|.bR<|.tR<|?_
   refine y9 Z Z λW s=>⟨iB ?_,s.ext⟩
   first
    | (rw [SB,ht];rfl;done)
    | (rw [SB,ht,hal];rfl;done)
    | (rw [SB,CE hk (by simpa using h63)];simp;done)
  exact .sk<|.bN<|.tN<|.rg<|.yw (.add Z Z w7)<|.mv Z<|.nt<|.ag (k+1) ⟨Z,Jt⟩ ⟨Z,Z,Jt⟩ (λ_ s=>s.pick [1] [_] Z Z) ⟨by omega,CD hk hal (by simpa using h63)⟩ (by omega)
 obtain rfl:k=args.length:=by omega
 rw [aZ] at hal;refine .ex<|.eb<|.sr<|.az Z<|?_
 refine y9 Z Z λW s=>⟨iB ?_,s.ext⟩
 first
  | (rw [SB,ht];rfl;done)
  | (rw [SB,ht,hal];rfl;done)
  | (rw [SB,CE hk (by simpa using h63)];simp;done)
theorem JK {op:UInt8} {nm fd:Str} {b:Int64} {ex:List Ex} {args:List Fm} :rU (.mk op nm fd a b ex args)=(!(rfN op.toNat && !eN nm || rfF op.toNat && !eN fd) && !ex.any pI):=by rw [LO,bO3,bO4,aU5,show rfN op.toNat=fdN op from rfl]
theorem XR (f:Fm):∀ (H:Hp) (cs:List Value) (w:World),Rep H (dFm .i64 f) cs->Agr H w->Calls prg 41 #[.agg cs.toArray] w λr w'=>r=.returned (.bool (Fm.all rU f))/\Ext w w':=by
 induction f using Fm.ind with | _ op nm fd a b ex args ih
 intro H cs w h hA;obtain ⟨p1,c1,p2,c2,rfl,hs1,hs2,hnm,hfd⟩:=gR h;have hcap1:=hs1.cap;have hcap2:=hs2.cap;refine Sx.enter (H:=H) func41 rfl ntmps41 rfl hA ?_;refine .sr<|.bx Z Z Z λb1=>.a Z Z<|.ns<|.fA Z eZ<|.lD Z cC Hm Z<|.yw (.call IC Z (λW s=>EM H op.toNat W s.agr))<|.mv Z<|.yw (.extract Z Z)<|.yw (.extract Z Z)<|.a Z Z<|.aq Z<|.sq<|.cu (X:=Bool) [(1,_)] ⟨Z,Jt⟩ (λz9=>[(30,.bool z9)]) (λz9=>H) (λz9=>[.box b1 [.int .i64 op.toNat,cH nm,cH fd,.int .i64 a.toInt,.int .i64 b.toInt,.slice p1 ex.length c1,.slice p2 args.length c2] 27]) (λz9=>z9=(rfN op.toNat && !eN nm || rfF op.toNat && !eN fd)) ?_ λz9 hC=>?_
 ·
  refine .rg<|.mv Z<|.mv Z<|.b2 (λh16=>?_) (λh16=>?_)
  ·try simp only [dt] at h16
   refine .gy (.fieldAddr Z kL)<|.gy (.load Z cP Hm Z)<|.gy (.call uR Z (λW s=>qM H nm (by omega) W s.agr))<|.gy (.not Z)<|.yw (.pickT Z Z)<|.mv Z<|.b2 (λh22=>?_) (λh22=>?_)
   ·try simp only [dt] at h22
    exact .gG<|.gG<|.gV<|.gV<|.gV<|.gV<|.gG<|.yw (.pickT Z Z)<|.nt<|.me _ ⟨Z,Jt⟩ ⟨Z,Jt⟩ (λ_ s=>s) (by clear ih h hs1 hs2 hA;simp_all)
   try simp only [df] at h22
   refine .gy (.move Z)<|.gy (.move Z)<|.b2 (λh24=>?_) (λh24=>?_)
   ·try simp only [dt] at h24
    exact .gy (.fieldAddr Z kK)<|.gy (.load Z cP Hm Z)<|.gy (.call uR Z (λW s=>qM H fd (by omega) W s.agr))<|.gy (.not Z)<|.gy (.pickT Z Z)<|.yw (.pickF Z Z)<|.nt<|.me _ ⟨Z,Jt⟩ ⟨Z,Jt⟩ (λ_ s=>s) (by clear ih h hs1 hs2 hA;simp_all)
   try simp only [df] at h24
   exact .gG<|.gG<|.gG<|.gG<|.gy (.pickF Z Z)<|.yw (.pickF Z Z)<|.nt<|.me _ ⟨Z,Jt⟩ ⟨Z,Jt⟩ (λ_ s=>s) (by clear ih h hs1 hs2 hA;simp_all)
  try simp only [df] at h16
  refine .gG<|.gG<|.gG<|.gG<|.yw (.pickF Z Z)<|.mv Z<|.gy (.move Z)<|.gy (.move Z)<|.b2 (λh24=>?_) (λh24=>?_)
  ·try simp only [dt] at h24
   exact .gy (.fieldAddr Z kK)<|.gy (.load Z cP Hm Z)<|.gy (.call uR Z (λW s=>qM H fd (by omega) W s.agr))<|.gy (.not Z)<|.gy (.pickT Z Z)<|.yw (.pickF Z Z)<|.nt<|.me _ ⟨Z,Jt⟩ ⟨Z,Jt⟩ (λ_ s=>s) (by clear ih h hs1 hs2 hA;simp_all)
  try simp only [df] at h24
  exact .gG<|.gG<|.gG<|.gG<|.gy (.pickF Z Z)<|.yw (.pickF Z Z)<|.nt<|.me _ ⟨Z,Jt⟩ ⟨Z,Jt⟩ (λ_ s=>s) (by clear ih h hs1 hs2 hA;simp_all)
 have e9:=hC;refine .cd Z (λh30=>?_) (λh30=>?_)
 ·have hb:(rfN op.toNat && !eN nm || rfF op.toNat && !eN fd)=true:=by rw [h30] at e9;exact e9.symm
  refine .sr<|.az Z<|.tR<|?_
  refine y9 Z Z λW s=>⟨iB ?_,s.ext⟩
  first
   | (rw [fJ,JK,hb,hno,hal2];rfl;done)
   | (rw [fJ,tX hk2 (by simpa using h51)];simp;done)
   | (rw [fJ,JK,CE hk (by simpa using h40)];simp;done)
   | (rw [fJ,JK,hb];rfl;done)
 have hb:(rfN op.toNat && !eN nm || rfF op.toNat && !eN fd)=false:=by rw [h30] at e9;exact e9.symm
 refine .sk<|.tN<|.sq<|.sr<|.fA Z eE<|.lD Z eQ Hm Z<|.yw (.lenSl eL Z)<|.mv Z<|.nt<|.bk<|.lp (X:=Nat) [(1,_),(32,_),(33,_)] ⟨Z,Z,Z,Jt⟩ [_] (λk=>[(34,iN k)]) (λk=>H) (λk=>[]) (λk=>k<=ex.length/\(ex.take k).any pI=false) (λk=>ex.length - k) 0 (λ_ s=>s) ⟨Z,Jt⟩ ⟨aR _,Z⟩ λk hC=>?_
 obtain ⟨hk0,hal⟩:=hC;refine .sr<|.yw (.lss Z Z)<|.nt<|.sq<|.ce Z (λh35=>?_) (λh35=>?_)
 ·have hk:k<ex.length:=by omega
  obtain ⟨bE,oE,cE,hpE,rE,lE,mE⟩:=hs1.elem (fW (f:=dEx .i64) hk);cases hpE;refine .sk<|.tN<|.sq<|.bk<|.sr<|.yw (.indexSl eL Z Z Z (by omega) (q:=oE+k * 4) Z)<|.yw (.loadMW Z dH mE lE)<|.al iM Z λb6=>.sV .head Z Z gP lE rE.one Z<|.ns<|.yw (.loadW Z dH Hm lE)<|.yw (.call QG Z (λW s=>NO _ H _ W rE s.agr))<|.yw (.not Z)<|.nt<|.cd Z (λh40=>?_) (λh40=>?_)
  ·refine .sr<|.az Z<|.bR<|.tR<|.tR<|.bR<|.tR<|?_
   refine y9 Z Z λW s=>⟨iB ?_,s.ext⟩
   first
    | (rw [fJ,JK,hb,hno,hal2];rfl;done)
    | (rw [fJ,tX hk2 (by simpa using h51)];simp;done)
    | (rw [fJ,JK,CE hk (by simpa using h40)];simp;done)
    | (rw [fJ,JK,hb];rfl;done)
  exact .sk<|.bN<|.tN<|.rg<|.yw (.add Z Z w7)<|.mv Z<|.nt<|.ag (k+1) ⟨Z,Jt⟩ ⟨Z,Z,Z,Jt⟩ (λ_ s=>s.pick [1] [_] Z Z) ⟨by omega,CD hk hal (by simpa using h40)⟩ (by omega)
 obtain rfl:k=ex.length:=by omega
 rw [aZ] at hal;have hno:=hal;refine .ex<|.eb<|.sq<|.sr<|.fA Z iJ<|.lD Z oL Hm Z<|.yw (.lenSl nF Z)<|.mv Z<|.nt<|.bk<|.lp (X:=Nat) [(43,_),(44,_)] ⟨Z,Z,Jt⟩ [_] (λk2=>[(45,iN k2)]) (λk2=>H) (λk2=>[]) (λk2=>k2<=args.length/\(args.take k2).all (Fm.all rU)=true) (λk2=>args.length - k2) 0 (λ_ s=>s) ⟨Z,Jt⟩ ⟨aR _,Z⟩ λk2 hC=>?_
 obtain ⟨hk20,hal2⟩:=hC;refine .sr<|.yw (.lss Z Z)<|.nt<|.sq<|.ce Z (λh46=>?_) (λh46=>?_)
 ·have hk2:k2<args.length:=by omega
  obtain ⟨bF,oF,cF,hpF,rF,lF,mF⟩:=hs2.elem (fW (f:=dFm .i64) hk2);cases hpF;refine .sk<|.tN<|.sq<|.bk<|.sr<|.yw (.indexSl nF Z Z Z (by omega) (q:=oF+k2 * 7) Z)<|.yw (.loadMW Z dY mF lF)<|.al lZ Z λb8=>.sV .head Z Z kG lF rF.one Z<|.ns<|.yw (.loadW Z dY Hm lF)<|.yw (.call QO Z (λW s=>ih _ (bI hk2) H cF W rF s.agr))<|.yw (.not Z)<|.nt<|.cd Z (λh51=>?_) (λh51=>?_)
  ·refine .sr<|.az Z<|.bR<|.tR<|.tR<|.bR<|.tR<|?_
   refine y9 Z Z λW s=>⟨iB ?_,s.ext⟩
   first
    | (rw [fJ,JK,hb,hno,hal2];rfl;done)
    | (rw [fJ,tX hk2 (by simpa using h51)];simp;done)
    | (rw [fJ,JK,CE hk (by simpa using h40)];simp;done)
    | (rw [fJ,JK,hb];rfl;done)
  exact .sk<|.bN<|.tN<|.rg<|.yw (.add Z Z w7)<|.mv Z<|.nt<|.ag (k2+1) ⟨Z,Jt⟩ ⟨Z,Z,Jt⟩ (λ_ s=>s.pick [1] [_] Z Z) ⟨by omega,CS hk2 hal2 (by simpa using h51)⟩ (by omega)
 obtain rfl:k2=args.length:=by omega
 rw [aZ] at hal2;refine .ex<|.eb<|.sr<|.az Z<|?_
 refine y9 Z Z λW s=>⟨iB ?_,s.ext⟩
 first
  | (rw [fJ,JK,hb,hno,hal2];rfl;done)
  | (rw [fJ,tX hk2 (by simpa using h51)];simp;done)
  | (rw [fJ,JK,CE hk (by simpa using h40)];simp;done)
  | (rw [fJ,JK,hb];rfl;done)
theorem cD5 (h:(60:Int)<((n:Nat):Int)):decide (60<n)=true:=aK (by omega)
theorem cD6 (h:¬ (60:Int)<((n:Nat):Int)):decide (60<n)=false:=aM (by omega)
theorem XU (H:Hp) (f:Fm) (hgd:gdF f=true) (hct:f.count<=1000000) (cs:List Value) (w:World) (h:Rep H (dFm .i64 f) cs) (hA:Agr H w):Calls prg 17 #[.agg cs.toArray] w λr w'=>r=.returned (iN (fO f))/\Ext w w':=by
 obtain ⟨op,nm,fd,a,b,ex,args⟩:=f;obtain ⟨p1,c1,p2,c2,rfl,hs1,hs2,hnm,hfd⟩:=gR h;have hcap1:=hs1.cap;have hcap2:=hs2.cap;refine Sx.enter (H:=H) func17 rfl ntmps17 rfl hA ?_;refine .sr<|.bx Z Z Z λb1=>.aq Z<|.sq<|.bk<|.cu (X:=Bool) [(1,_)] ⟨Z,Jt⟩ (λz9=>[(3,.bool z9)]) (λz9=>H) (λz9=>[.box b1 [.int .i64 op.toNat,cH nm,cH fd,.int .i64 a.toInt,.int .i64 b.toInt,.slice p1 ex.length c1,.slice p2 args.length c2] 27]) (λz9=>z9=(decide (60<Fm.count (.mk op nm fd a b ex args)) || !Fm.all oS (.mk op nm fd a b ex args))) ?_ λz9 hC=>?_
 ·
  refine .rg<|.yw (.loadW Z dY Hm Z)<|.yw (.call QT Z (λW s=>aU0 (.mk op nm fd a b ex args) H _ W h (by omega) s.agr))<|.yw (.gtr Z Z)<|.mv Z<|.e2 (λh7=>?_) (λh7=>?_)
  ·exact .gG<|.gG<|.yw (.pickT Z Z)<|.aq Z<|.me _ ⟨Z,Jt⟩ ⟨Z,Jt⟩ (λ_ s=>s) (by rw [cD5 h7];rfl)
  exact .gy (.loadW Z dY Hm Z)<|.gy (.call QP Z (λW s=>aH8 (.mk op nm fd a b ex args) hgd H _ W h s.agr))<|.yw (.pickF Z Z)<|.aq Z<|.me _ ⟨Z,Jt⟩ ⟨Z,Jt⟩ (λ_ s=>s) (by rw [cD6 h7];rfl)
 have e9:=hC;refine .cd Z (λh3=>?_) (λh3=>?_)
 ·have hc:60<Fm.count (.mk op nm fd a b ex args)\/Fm.all oS (.mk op nm fd a b ex args)=false:=by rw [h3] at e9;simpa using e9
  refine .sr<|.az Z<|.bR<|.tR<|?_
  refine y9 Z Z λW s=>⟨?_,s.ext⟩
  first
   | (unfold fO;rw [aG hc,aG (by rw [hn];decide),aG (by rw [hf];decide)];rfl;done)
   | (unfold fO;rw [aG hc,aG (by rw [hn];decide),aO hf];rfl;done)
   | (unfold fO;rw [aG hc,aO hn];rfl;done)
   | (unfold fO;rw [aO hc];rfl;done)
 have hc:¬ (60<Fm.count (.mk op nm fd a b ex args)\/Fm.all oS (.mk op nm fd a b ex args)=false):=by rw [h3] at e9;simpa using e9
 refine .sr<|.yw (.loadW Z dY Hm Z)<|.yw (.call QO Z (λW s=>XR (.mk op nm fd a b ex args) H _ W h s.agr))<|.yw (.not Z)<|.aq Z<|.cd Z (λh11=>?_) (λh11=>?_)
 ·have hn:Fm.all rU (.mk op nm fd a b ex args)=false:=by simpa using h11
  refine .sr<|.az Z<|.bR<|.tR<|?_
  refine y9 Z Z λW s=>⟨?_,s.ext⟩
  first
   | (unfold fO;rw [aG hc,aG (by rw [hn];decide),aG (by rw [hf];decide)];rfl;done)
   | (unfold fO;rw [aG hc,aG (by rw [hn];decide),aO hf];rfl;done)
   | (unfold fO;rw [aG hc,aO hn];rfl;done)
   | (unfold fO;rw [aO hc];rfl;done)
 have hn:Fm.all rU (.mk op nm fd a b ex args)=true:=by simpa using h11
 refine .sr<|.yw (.loadW Z dY Hm Z)<|.yw (.call QN Z (λW s=>aH6 (.mk op nm fd a b ex args) H _ W h s.agr))<|.yw (.not Z)<|.aq Z<|.cd Z (λh15=>?_) (λh15=>?_)
 ·have hf:Fm.all jQ (.mk op nm fd a b ex args)=false:=by simpa using h15
  refine .sr<|.az Z<|.bR<|.tR<|?_
  refine y9 Z Z λW s=>⟨?_,s.ext⟩
  first
   | (unfold fO;rw [aG hc,aG (by rw [hn];decide),aG (by rw [hf];decide)];rfl;done)
   | (unfold fO;rw [aG hc,aG (by rw [hn];decide),aO hf];rfl;done)
   | (unfold fO;rw [aG hc,aO hn];rfl;done)
   | (unfold fO;rw [aO hc];rfl;done)
 have hf:Fm.all jQ (.mk op nm fd a b ex args)=true:=by simpa using h15
 refine .sk<|.bN<|.tN<|.sr<|.az Z<|?_
 refine y9 Z Z λW s=>⟨?_,s.ext⟩
 first
  | (unfold fO;rw [aG hc,aG (by rw [hn];decide),aG (by rw [hf];decide)];rfl;done)
  | (unfold fO;rw [aG hc,aG (by rw [hn];decide),aO hf];rfl;done)
  | (unfold fO;rw [aG hc,aO hn];rfl;done)
  | (unfold fO;rw [aO hc];rfl;done)
theorem HK (H:Hp) (GL:Gl H) (G:Gf H) (gq:Gq H) (l:List Nf) (v:Value) (h:Rep H (.seq 8 (l.map dNf)) [v]) (w:World) (hA:Agr H w) :
 Calls prg 4 #[v] w λr w'=>r=.returned (.bool true)/\Ext w w':=by
 refine Sx.enter (H:=H) func4 rfl ntmps4 rfl hA ?_;refine .sr<|.aq Z<|.sq<|.sr<|.yw (.call aP2 Z (λW s=>aM0 H GL G gq W s.agr))<|.yw (.not Z)<|.nt<|.cF Z<|.sk<|.tN<|.sm Z<|.ct (X:=List Value) aP1 Z (λW s=>SV H l v h W s.agr) Z λx1 H1 hx1 u1=>?_
 obtain ⟨g1,r1,hg1,hct1⟩:=hx1;refine .al lZ Z λb3=>.sV .head Z Z kG (tW r1) r1.one Z<|.ns<|.aq Z<|.sq<|.sr<|.yw (.loadW Z dY Hm (tW r1))<|.yw (.call aP0 Z (λW s=>XU H1 g1 hg1 (by omega) _ W r1 s.agr))<|.yw (.eql Z Z)<|.nt<|.cd Z (λh11=>?_) (λh11=>?_)
 ·have hc:fO g1=0:=by have:=aJ h11;omega
  obtain ⟨hc60,_,hcn,hcf⟩:=aK7 hc;refine .rg<|.yw (.loadW Z dY Hm (tW r1))<|.yw (.call DD Z (λW s=>aJ9 H1 g1 _ W r1 hcf hcn hc60 s.agr))<|.a Z Z<|.ns<|.yw (.loadW Z dY Hm (tW r1))<|.ct (X:=List Value) IH Z (λW s=>VW g1 hg1 H1 _ W r1 s.agr) Z λx3 H2 hx3 uH2=>.yw (.cast (.call IG Z (λW s=>HP H2 ((GL.up u1.up).up uH2.up) ((G.up u1.up).up uH2.up) ((gq.up u1.up).up uH2.up) g1 (aY6 (by decide) g1 hg1) _ W hx3 s.agr)) (congrArg cH (aS6 hc)))<|.mv Z<|.yw (.cast (.eqS Z Z) (congrArg Value.bool (aK Z)))<|.az Z<|?_
  exact y9 Z Z λW s=>⟨Z,((u1.trans uH2).grow s).ext⟩
 have hc:¬ fO g1=0:=λe=>aP h11 (by rw [e];rfl);refine .sk<|.tN<|.sr<|.yw (.loadW Z dY Hm (tW r1))<|.ct (X:=List Value) IH Z (λW s=>VW g1 hg1 H1 _ W r1 s.agr) Z λx3 H2 hx3 uH2=>.yw (.cast (.call IG Z (λW s=>HP H2 ((GL.up u1.up).up uH2.up) ((G.up u1.up).up uH2.up) ((gq.up u1.up).up uH2.up) g1 (aY6 (by decide) g1 hg1) _ W hx3 s.agr)) (congrArg cH (aS7 hc)))<|.mv Z<|.yw (.cast (.eqS Z Z) (congrArg Value.bool (aK Z)))<|.az Z<|?_
 exact y9 Z Z λW s=>⟨Z,((u1.trans uH2).grow s).ext⟩
variable {H:Type} {enc:TypeId × Value->H}
theorem wrap {a:Assume} {C:Checked} {os:Os} {f:FuncId} {fn:Func} {s:ChangeSpec} {conds:List PathCond} {apart fresh handsOn bD8:Bool} {X:World->Array Value->Prop} 
 (hX:∀ (w w':World) (args:Array Value),w.heap=w'.heap->X w args->X w' args)
 (own:ownKnob C.prog.godebug=none) (started:os.Started) (noInit:C.prog.inits.idxOf? f=none) (hfn:C.prog.funcs[f]? = some fn)
 (witness:∃ (w:World) (tape:Tape) (i:Input),w.os=os/\(w.forCall tape i).Shaped C.prog/\i.vars=[]/\Input.okWide C.prog (w.forCall tape i) .any w.heap.size f i /\
  ((s.pre enc C.prog fn conds apart (w.forCall tape i).memory i.args/\X (w.forCall tape i).memory i.args)/\sizedMet enc C.prog fn (OpenSpec.ofChange s) apart (w.forCall tape i).memory i.args)/\a.holds C.prog (lone (Frame.enter C.prog f i.args .normal) [] (w.forCall tape i)))
 (contract:∀ (W:World) (base:Nat) (args:Array Value) (ds gs:List (DataW H)) (before:List MemPlace),
  (∀ (j:Nat) t v,fn.params[j]? = some t->args[j]? = some v->Value.okWide C.prog W .any base t v) ->
  DataW.Whole enc C.prog fn.params.toList s.vars apart W args.toList ds gs before ->
  X W args->W.ShapedOpen C.prog ->
  Calls C.prog f args W λe W'=>∃ v,e=.returned v/\s.post enc C.prog fn apart fresh handsOn bD8 W args v W') :
 ReturnsInHanded a C os f .any (λw args=>(s.pre enc C.prog fn conds apart w args/\X w args)/\sizedMet enc C.prog fn (OpenSpec.ofChange s) apart w args) (s.post enc C.prog fn apart fresh handsOn bD8):=by
 refine returnsInHanded_of_calls own started noInit witness ?_;intro w tape i _ hsh _ hok hpre _;obtain ⟨_,_,_,fn',hfn',_,_,_,_,hval⟩:=hok;have e:fn'=fn:=bL (hfn'.symm.trans hfn);subst e;obtain ⟨⟨⟨ds,gs,before,hw,_⟩,hx⟩,_⟩:=hpre;have hw':=DataW.Whole.of_heap (w':=w.forCall tape i) (by rfl) hw;refine (contract (w.forCall tape i) w.heap.size i.args ds gs before hval hw' (hX _ _ _ (by rfl) hx) hsh).mono λe W' ⟨v,he,hp⟩=>?_;subst he;exact ChangeSpec.post_blind hp

theorem own:ownKnob prg.godebug=none:=by kernel_rfl
def DP:List (String × DataW Unit):=[("math/bits.deBruijn32tab",Rows.laid_math_bits_deBruijn32tab),("math/bits.deBruijn64tab",Rows.laid_math_bits_deBruijn64tab),("internal/strconv.uint64pow10",Rows.laid_internal_strconv_uint64pow10),("rootcause/lexer.words",Rows.laid_rootcause_lexer_words),("rootcause/lexer.symbols",Rows.laid_rootcause_lexer_symbols),("rootcause/formula.shapes",Rows.laid_rootcause_formula_shapes),("rootcause/formula.symbols",Rows.laid_rootcause_formula_symbols),("rootcause/formula.words",Rows.laid_rootcause_formula_words)]
theorem bZ2:prg.globalNamed "internal/strconv.uint64pow10" = some 6:=by kernel_rfl
theorem bZ1:(prg.globals[6]?).map (·.type)=some 257:=by kernel_rfl
theorem bC5:prg.cellsOf 257=20:=by kernel_rfl
theorem aL5:prg.cellsOf 242=1:=by kernel_rfl
theorem bX0:(Rows.laid_internal_strconv_uint64pow10:DataW Unit)=Lib.tabData .u64 Lib.pow10Tab:=by kernel_rfl
variable {W:World}
theorem bY4 (h:laidMet prg DP W):Gq (NX W):=by
 intro W' hA;have h1:Lib.TabIs prg W "internal/strconv.uint64pow10" .u64 Lib.pow10Tab:=Lib.tabIs_of_head bZ2 bZ1 Tryz.underlying257 Tryz.underlying242 aL5 bC5 (bX0 ▸ h.tail.tail);unfold Lib.TabIs World.var? at *;rw [bZ2] at *;simp only [iF] at *
 split at h1
 ·rename_i cs T m hb;rw [hA 6 _ hb];exact h1
 ·cases h1
theorem bY5 (h:laidMet prg DP W):Gl (NX W) :=
 ⟨BR (t:=235) (.arr 39 .strg) _ (by kernel_rfl) (by kernel_rfl) (by kernel_rfl) (by kernel_rfl) (by kernel_rfl) h.tail.tail.tail,
  BR (t:=217) (.arr 25 .strg) _ (by kernel_rfl) (by kernel_rfl) (by kernel_rfl) (by kernel_rfl) (by kernel_rfl) h.tail.tail.tail.tail⟩
theorem bY6 (h:laidMet prg DP W):Gf (NX W) :=
 ⟨BR (t:=163) (.arr 19 .strg) _ (by kernel_rfl) (by kernel_rfl) (by kernel_rfl) (by kernel_rfl) (by kernel_rfl) h.tail.tail.tail.tail.tail.tail.tail,
  BR (t:=165) (.arr 22 .strg) _ (by kernel_rfl) (by kernel_rfl) (by kernel_rfl) (by kernel_rfl) (by kernel_rfl) h.tail.tail.tail.tail.tail.tail,
  BR (t:=200) (.arr 19 (.str [.int .u8,.bool,.bool,.bool,.bool,.int .u8,.int .u8])) _ (by kernel_rfl) (by kernel_rfl) (by kernel_rfl) (by kernel_rfl) (by kernel_rfl) h.tail.tail.tail.tail.tail⟩
theorem aX5 (os:Os) (args:Array Value):laidMet prg DP ((World.laidAll prg os DP).forCall (λ_ _=>0) ⟨#[],args,[]⟩).memory :=
 laidMet_laidAll _ (by kernel_rfl) (by kernel_rfl)
theorem VE (os:Os) (args:Array Value):((World.laidAll prg os DP).forCall (λ_ _=>0) ⟨#[],args,[]⟩).Shaped prg :=
 World.shaped_of_ZipB (by kernel_rfl) (by kernel_rfl)
variable {W':World}
theorem bA8 (h:Ext W W'):∀ may,W.keptBut W' may:=λmay=>(Ext.below h).frame may
theorem bI9:laidOutB prg=true:=by kernel_rfl
end Go.Proofs.YtidclioghdbphaaGreatDoor
/- The walk lifted: for every input, rootcauselaw34.FormulaTexts returns true, and its arguments read as they did (the tied card FormulaTextsCardSaid). Conditions: the card's own (the listed package variables read as the program's initialisers lay them, tied to the text), and no others. -/
namespace Go.Proofs.YtidclioghdbphaaGreatDoor
open Go.RowKit Go.Par Go.Sx
theorem bI2 {x:D} (h:Ty.has (.str [.int .u8,.int .u8,.int .u8,.bool,.int .i64]) x):∃ y:Nd,x=dNd y:=by
 simp only [Ty.has,Ty.hasL] at h;obtain ⟨_,rfl,_,_,rfl,⟨a,rfl,ha⟩,_,_,rfl,⟨b,rfl,hb⟩,_,_,rfl,⟨c,rfl,hc⟩,_,_,rfl,⟨o,rfl⟩,_,_,rfl,⟨n,rfl,hn⟩,rfl⟩:=h;obtain ⟨a,rfl⟩:=SI ha;obtain ⟨b,rfl⟩:=SI hb;obtain ⟨c,rfl⟩:=SI hc;obtain ⟨n,rfl⟩:=aE0 hn;exact ⟨⟨a,b,c,o,n⟩,Z⟩
theorem RB {x:D} (h:Ty.has (.int .u8) x):∃ y:UInt8,x=.val (.int .u8 y.toNat):=by
 simp only [Ty.has] at h;obtain ⟨n,rfl,hn⟩:=h;obtain ⟨a,rfl⟩:=SI hn;exact ⟨a,Z⟩
theorem aY3 {x:D} (h:Ty.has (.int .i64) x):∃ y:Int64,x=.val (.int .i64 y.toInt):=by
 simp only [Ty.has] at h;obtain ⟨n,rfl,hn⟩:=h;obtain ⟨a,rfl⟩:=aE0 hn;exact ⟨a,Z⟩
theorem aU3 {α:Type} {f:α->D} {τ:Ty} {x:D} (k:∀ y,Ty.has τ y->∃ z,y=f z) (h:Ty.has (.seq τ) x):∃ l:List α,x=.seq τ.cells (l.map f):=by
 unfold Ty.has at h;obtain ⟨ds,rfl,h1⟩:=h;obtain ⟨l,rfl⟩:=aD4 (f:=f) λx hx=>k x (h1 x hx);exact ⟨l,Z⟩
theorem bX9 {x:D} (h:Ty.has (.str [.int .u8,.int .u8,.int .u8,.int .u8,.bool,.int .i64,.int .i64,.seq (.str [.int .u8,.int .u8,.int .u8,.bool,.int .i64])]) x):∃ y:Nf,x=dNf y:=by
 rw [Ty.has] at h;obtain ⟨ds,rfl,h⟩:=h;simp only [Ty.hasL] at h;obtain ⟨_,_,rfl,h1,_,_,rfl,h2,_,_,rfl,h3,_,_,rfl,h4,_,_,rfl,h5,_,_,rfl,h6,_,_,rfl,h7,_,_,rfl,h8,rfl⟩:=h;obtain ⟨a,rfl⟩:=RB h1;obtain ⟨b,rfl⟩:=RB h2;obtain ⟨c,rfl⟩:=RB h3;obtain ⟨d,rfl⟩:=RB h4;simp only [Ty.has] at h5;obtain ⟨o,rfl⟩:=h5;obtain ⟨m,rfl⟩:=aY3 h6;obtain ⟨n,rfl⟩:=aY3 h7;obtain ⟨l,rfl⟩:=aU3 (f:=dNd) (λ_=>bI2) h8;exact ⟨⟨a,b,c,d,o,m,n,l⟩,Z⟩
variable {W:World} {b:Nat} {v:Value}
theorem XY {H:Type} {enc:TypeId × Value->H} {base:Nat} {sp:Nat->Bool} {held:Bool} {d:DataW H} {p:List MemPlace} (hv:Value.okWide prg W .any b 22 v) (h:DataW.Trod enc prg W base sp held 22 v d p) :
 ∃ l:List Nf,Rep (NX W) (.seq 8 (l.map dNf)) [v]:=by
 obtain ⟨a0,n0,c0,rfl⟩:=Go.WideShapes.okWide_slice Tryz.underlying22 hv;obtain ⟨fuel,hf⟩:=h;obtain ⟨d,hd,hr⟩:=Ty.opens W (.seq (.str [.int .u8,.int .u8,.int .u8,.int .u8,.bool,.int .i64,.int .i64,.seq (.str [.int .u8,.int .u8,.int .u8,.bool,.int .i64])])) 22 fuel _ _ (by kernel_rfl) (by kernel_rfl) hf;obtain ⟨l,rfl⟩:=aU3 (f:=dNf) (λ_=>bX9) hd;exact ⟨l,hr⟩
namespace formulaTexts
open Go.ChangeShapes Go.WideShapes Go.ChangeAt Go.RowKit
open Go.ChangeMaps (open_string shut_string)
theorem lifted (os:Os) (started:os.Started) (H:Type) (enc:TypeId × Value->H) :
 ReturnsInHanded {} Tryz.checked os 4 .any (λw args=>(Rows.formulaTextsSpec.pre enc prg Tryz.f4 [] false w args/\laidMet prg DP w)/\sizedMet enc prg Tryz.f4 (OpenSpec.ofChange Rows.formulaTextsSpec) false w args)
  (Rows.formulaTextsSpec.post enc prg Tryz.f4 false true false false):=by
 refine wrap (C:=Tryz.checked) (X:=λw _=>laidMet prg DP w) (λ_ _ _ hh h=>h.of_heap hh) own started (by kernel_rfl) Tryz.func4
  (ChangeSpec.witness_shaped (enc:=enc) (C:=Tryz.checked) (os:=os) (X:=λw _=>laidMet prg DP w) false (World.laidAll prg os DP) #[.slice none 0 0] 8 (World.laidAll_os _ _ _) (VE os _) (by kernel_rfl) (by kernel_rfl) (by kernel_rfl) (aX5 os _)) ?_
 intro W base args ds gs before hval0 hW hL hS;have GL:=bY5 hL;have G:=bY6 hL;have gq:=bY4 hL;have hval:∀ (j:Nat) t v,Tryz.f4.params[j]? = some t->args[j]? = some v->Value.okWide prg W .any base t v:=hval0;have hW':=hW;obtain ⟨p,q,hA0,hV,rfl,hfz,hnd⟩:=hW;have hA:DataW.TrodAll enc prg W 0 (λ_=>true) true Tryz.f4.params.toList args.toList ds p:=hA0;rw [Tryz.params4] at hA hval;obtain ⟨v0,d0,rfl,rfl,h0⟩:=trodAll_one hA;obtain ⟨rfl,rfl⟩:=trodVars_none hV;have k0:=h0;have hlt0:∀ x∈p,x.block<W.heap.size:=λx hx=>hW'.lt x (by simp [hx]);obtain ⟨l0,hr0⟩:=XY (hval 0 22 v0 rfl rfl) h0;clear hA0 hval0;simp only [dU] at hW';refine (HK (NX W) GL G gq l0 v0 hr0 W (bD7 W)).mono λe W' ⟨he,hg⟩=>?_;subst he;refine ⟨_,Z,_,_,_,[],p,[],hW',?_,?_,Z,bA8 hg _,λh=>by cases h⟩
 ·exact trodAll_mk1 (shut_bool Tryz.underlying4 _)
 ·exact trodAll_mk1 (Below.trod bI9 (by kernel_rfl) (aJ (by kernel_rfl)) k0 hg.below hlt0)
end formulaTexts
end Go.Proofs.YtidclioghdbphaaGreatDoor
