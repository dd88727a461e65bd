/- Texts of the proof, one behind the other. -/
import Derived.Test.YtidclioghdbphaaGreatDoorMh
import Derived.Test.YtidclioghdbphaaGreatDoorTie
import Derived.ProofKit
import Derived.OpenShut
import Derived.ShutString
import Derived.Lay
import Derived.Stop.LaidErr
import Derived.Stop.Joined
import Derived.Shelf.Vars
import Derived.Lib.LaidTab
import Derived.Lib.SmallJoins
import Derived.SevenTiedAt
import Derived.Test.YtidclioghdbphaaGreatDoorCards
set_option linter.all false
set_option maxRecDepth 100000
namespace Go.Proofs.YtidclioghdbphaaGreatDoor
open Go.RowKit Go.Par Go.Sx _root_.Go.Proofs.Tryz
theorem OA (e:Ex):∃ o m n a,e=.mk o m n a:=by
 obtain ⟨o,m,n,a⟩:=e;exact ⟨o,m,n,a,Z⟩
variable {m:Str}
theorem cA0 {o:UInt8} (h:((o.toNat:Nat):Int)=7):((9:UInt8),([]:Str))=(pr1 o,prM o m):=by unfold pr1 prM;rw [aL (.inl (aQ.1 (by show o.toNat=7;omega):o=7)),aL (.inl (aQ.1 (by show o.toNat=7;omega):o=7))]
theorem bZ9 {o:UInt8} (h:((o.toNat:Nat):Int)=10):((9:UInt8),([]:Str))=(pr1 o,prM o m):=by unfold pr1 prM;rw [aL (.inr (aQ.1 (by show o.toNat=10;omega):o=10)),aL (.inr (aQ.1 (by show o.toNat=10;omega):o=10))]
theorem bZ8 {o:UInt8} (h:¬ ((o.toNat:Nat):Int)=7) (k:¬ ((o.toNat:Nat):Int)=10):(o,m)=(pr1 o,prM o m):=by unfold pr1 prM;rw [aG (tZ.2 ⟨(λe:o=7=>h (by rw [e];rfl)),(λe:o=10=>k (by rw [e];rfl))⟩),aG (tZ.2 ⟨(λe:o=7=>h (by rw [e];rfl)),(λe:o=10=>k (by rw [e];rfl))⟩)]
theorem bZ7 {o:UInt8} (h:((o.toNat:Nat):Int)=2):((4:UInt8),m)=(pr2 o,m):=by unfold pr2;rw [aL (.inl (aQ.1 (by show o.toNat=2;omega):o=2))]
theorem bZ6 {o:UInt8} (h:((o.toNat:Nat):Int)=3):((4:UInt8),m)=(pr2 o,m):=by unfold pr2;rw [aL (.inr (aQ.1 (by show o.toNat=3;omega):o=3))]
theorem bZ5 {o:UInt8} (h:¬ ((o.toNat:Nat):Int)=2) (k:¬ ((o.toNat:Nat):Int)=3):(o,m)=(pr2 o,m):=by unfold pr2;rw [aG (tZ.2 ⟨(λe:o=2=>h (by rw [e];rfl)),(λe:o=3=>k (by rw [e];rfl))⟩)]
theorem bZ3 {op:UInt8} (h:(16:Int)<=(((pr2 (pr1 op)).toNat:Nat):Int)):(UInt8.ofNat (11+(pr2 (pr1 op)).toNat % 5),m)=(prO op,m):=by unfold prO pr3;rw [aL (by omega)]
theorem bZ4 {op:UInt8} (h:¬ (16:Int)<=(((pr2 (pr1 op)).toNat:Nat):Int)):(pr2 (pr1 op),m)=(prO op,m):=by unfold prO pr3;rw [aG (by omega)]
theorem bZ2 {o:UInt8} (h:((o.toNat:Nat):Int)=6):(o,([99,46]:Str)++m)=(o,prN o m):=by unfold prN;rw [aL (.inl (aQ.1 (by show o.toNat=6;omega):o=6))]
theorem bZ1 {o:UInt8} (h:((o.toNat:Nat):Int)=8):(o,([99,46]:Str)++m)=(o,prN o m):=by unfold prN;rw [aL (.inr (.inl (aQ.1 (by show o.toNat=8;omega):o=8)))]
theorem bZ0 {o:UInt8} (h:((o.toNat:Nat):Int)=5) (k:((m.length % 2:Nat):Int)=0):(o,([99,46]:Str)++m)=(o,prN o m):=by unfold prN;rw [aL (.inr (.inr ⟨(aQ.1 (by show o.toNat=5;omega):o=5),by omega⟩))]
theorem bY9 {o:UInt8} (h:¬ ((o.toNat:Nat):Int)=6) (h8:¬ ((o.toNat:Nat):Int)=8) (k:¬ ((m.length % 2:Nat):Int)=0):(o,m)=(o,prN o m):=by unfold prN;rw [aG (by rintro (e | e | e);exact h (by rw [e];rfl);exact h8 (by rw [e];rfl);omega)]
theorem bY8 {o:UInt8} (h:¬ ((o.toNat:Nat):Int)=6) (h8:¬ ((o.toNat:Nat):Int)=8) (k:¬ ((o.toNat:Nat):Int)=5):(o,m)=(o,prN o m):=by unfold prN;rw [aG (by rintro (e | e | e);exact h (by rw [e];rfl);exact h8 (by rw [e];rfl);exact k (by rw [e.1];rfl))]
theorem bN7 (n:Nat):IntKind.i64.wrap (11+((n % 5:Nat):Int))=(((UInt8.ofNat (11+n % 5)).toNat:Nat):Int):=by
 rw [dW (by show 11+n % 5<256;omega)];exact (w6 (by omega)).trans (by omega)
def bK4 (e:Ex):Prop:=Ex.all n13 e=true->Ex.all uY e=true->∀ (H:Hp) (cs:List Value) (w:World),Rep H (dEx .i64 e) cs->Agr H w ->
 Calls prg 129 #[.agg cs.toArray] w λr w'=>∃ x H',Rep H' (dEx .i64 (prE e)) x/\r=.returned (.agg x.toArray)/\xF H w H' w'
theorem aE5 (e:Ex):bK4 e:=by
 induction e using Ex.ind with | _ op nm nn args ih
 intro hn hw H cs w h hA;rw [nT,aE] at hn hw;have hn3:args.length<=3:=aH hw.1;have hn13:nm.length<=13:=aH hn.1;have hpm:=bE5 op nm;have hpn:=bE4 (prO op) (prM op nm);obtain ⟨p,c,rfl,hs,hnm⟩:=iM h;have hcap:=hs.cap;refine Sx.enter (H:=H) func129 rfl ntmps129 rfl hA ?_;refine .sr<|.bx Z Z Z λb1=>.al pC Z λb2=>.nt<|.cu (X:=UInt8 × Str) [(1,_),(2,_)] ⟨Z,Z,Jt⟩ (λz=>[]) (λz=>H) (λz=>[.box b1 [.int .i64 (z.1).toNat,cH (z.2),.int .i64 nn.toInt,.slice p args.length c] 83,.box b2 [.int .i64 0,.string ⟨#[]⟩,.int .i64 0,.slice none 0 0] 83]) (λz=>z=(pr1 op,prM op nm)) ?_ λz hC=>?_
 ·
  refine .sr<|.fA Z fO<|.lD Z cS cP Z<|.yw (.eql Z Z)<|.mv Z<|.e2 (λh9=>?_) (λh9=>?_)
  ·exact .gG<|.gG<|.gG<|.yw (.pickT Z Z)<|.nt<|.cT Z<|.sr<|.fA Z fO<|.st kP Z Z iH Z (nb Z) Z<|.nt<|.rg<|.fA Z dZ<|.st kP Z Z fP Z (nb Z) Z<|.nt<|.me (9,([]:Str)) trivial ⟨Z,Z,Jt⟩ (λ_ s=>s.pick [1,0] [_,_] Z Z) (cA0 h9)
  refine .gy (.fieldAddr Z fO)<|.gy (.load Z cS cP Z)<|.gy (.eql Z Z)<|.yw (.pickF Z Z)<|.nt<|.ce Z (λh13=>?_) (λh13=>?_)
  ·exact .sr<|.fA Z fO<|.st kP Z Z iH Z (nb Z) Z<|.nt<|.rg<|.fA Z dZ<|.st kP Z Z fP Z (nb Z) Z<|.nt<|.me (9,([]:Str)) trivial ⟨Z,Z,Jt⟩ (λ_ s=>s.pick [1,0] [_,_] Z Z) (bZ9 h13)
  exact .sk<|.tN<|.me (op,nm) trivial ⟨Z,Z,Jt⟩ (λ_ s=>s.pick [1,0] [_,_] Z Z) (bZ8 h9 h13)
 subst hC;dsimp only;refine .cu (X:=UInt8 × Str) [(1,_),(2,_)] ⟨Z,Z,Jt⟩ (λz=>[]) (λz=>H) (λz=>[.box b1 [.int .i64 (z.1).toNat,cH (z.2),.int .i64 nn.toInt,.slice p args.length c] 83,.box b2 [.int .i64 0,.string ⟨#[]⟩,.int .i64 0,.slice none 0 0] 83]) (λz=>z=(pr2 (pr1 op),prM op nm)) ?_ λz hC=>?_
 ·
  refine .sr<|.fA Z fO<|.lD Z cS Hm Z<|.yw (.eql Z Z)<|.mv Z<|.e2 (λh19=>?_) (λh19=>?_)
  ·exact .gG<|.gG<|.gG<|.yw (.pickT Z Z)<|.nt<|.cT Z<|.rg<|.fA Z fO<|.st .head Z Z iH Z (nb Z) Z<|.nt<|.me (4,prM op nm) trivial ⟨Z,Z,Jt⟩ (λ_ s=>s) (bZ7 h19)
  refine .gy (.fieldAddr Z fO)<|.gy (.load Z cS Hm Z)<|.gy (.eql Z Z)<|.yw (.pickF Z Z)<|.nt<|.ce Z (λh23=>?_) (λh23=>?_)
  ·exact .rg<|.fA Z fO<|.st .head Z Z iH Z (nb Z) Z<|.nt<|.me (4,prM op nm) trivial ⟨Z,Z,Jt⟩ (λ_ s=>s) (bZ6 h23)
  exact .sk<|.tN<|.me (pr1 op,prM op nm) trivial ⟨Z,Z,Jt⟩ (λ_ s=>s) (bZ5 h19 h23)
 subst hC;dsimp only;refine .cu (X:=UInt8 × Str) [(1,_),(2,_)] ⟨Z,Z,Jt⟩ (λz=>[]) (λz=>H) (λz=>[.box b1 [.int .i64 (z.1).toNat,cH (z.2),.int .i64 nn.toInt,.slice p args.length c] 83,.box b2 [.int .i64 0,.string ⟨#[]⟩,.int .i64 0,.slice none 0 0] 83]) (λz=>z=(prO op,prM op nm)) ?_ λz hC=>?_
 ·
  refine .sr<|.fA Z fO<|.lD Z cS Hm Z<|.yw (.geq Z Z)<|.nt<|.ce Z (λh27=>?_) (λh27=>?_)
  ·exact .rg<|.fA Z fO<|.lD Z cS Hm Z<|.yw (.rem Z Z (by decide) (c:=(((pr2 (pr1 op)).toNat % 5:Nat):Int)) (by rw [cY (by omega)];omega))<|.yw (.add Z Z (c:=(((UInt8.ofNat (11+(pr2 (pr1 op)).toNat % 5)).toNat:Nat):Int)) (bN7 _))<|.fA Z fO<|.st .head Z Z iH Z (nb Z) Z<|.nt<|.me (UInt8.ofNat (11+(pr2 (pr1 op)).toNat % 5),prM op nm) trivial ⟨Z,Z,Jt⟩ (λ_ s=>s) (bZ3 h27)
  exact .sk<|.tN<|.me (pr2 (pr1 op),prM op nm) trivial ⟨Z,Z,Jt⟩ (λ_ s=>s) (bZ4 h27)
 subst hC;dsimp only;refine .cu (X:=UInt8 × Str) [(1,_),(2,_)] ⟨Z,Z,Jt⟩ (λz=>[]) (λz=>H) (λz=>[.box b1 [.int .i64 (z.1).toNat,cH (z.2),.int .i64 nn.toInt,.slice p args.length c] 83,.box b2 [.int .i64 0,.string ⟨#[]⟩,.int .i64 0,.slice none 0 0] 83]) (λz=>z=(prO op,prN (prO op) (prM op nm))) ?_ λz hC=>?_
 ·
  refine .sr<|.fA Z fO<|.lD Z cS Hm Z<|.yw (.eql Z Z)<|.mv Z<|.e2 (λh36=>?_) (λh36=>?_)
  ·exact .gG<|.gG<|.gG<|.yw (.pickT Z Z)<|.mv Z<|.gG<|.gG<|.gG<|.gG<|.gV<|.gV<|.gV<|.gV<|.gV<|.gG<|.yw (.pickT Z Z)<|.nt<|.cT Z<|.rg<|.fA Z dZ<|.lD Z cZ Hm Z<|.yw (.app Z Z (by simp only [aJ,aM];omega))<|.fA Z dZ<|.st .head Z Z fP Z (nb Z) Z<|.nt<|.me (prO op,([99,46]:Str)++prM op nm) trivial ⟨Z,Z,Jt⟩ (λ_ s=>s) (bZ2 h36)
  refine .gy (.fieldAddr Z fO)<|.gy (.load Z cS Hm Z)<|.gy (.eql Z Z)<|.yw (.pickF Z Z)<|.mv Z<|.e2 (λh41=>?_) (λh41=>?_)
  ·exact .gG<|.gG<|.gG<|.gG<|.gV<|.gV<|.gV<|.gV<|.gV<|.gG<|.yw (.pickT Z Z)<|.nt<|.cT Z<|.rg<|.fA Z dZ<|.lD Z cZ Hm Z<|.yw (.app Z Z (by simp only [aJ,aM];omega))<|.fA Z dZ<|.st .head Z Z fP Z (nb Z) Z<|.nt<|.me (prO op,([99,46]:Str)++prM op nm) trivial ⟨Z,Z,Jt⟩ (λ_ s=>s) (bZ1 h41)
  refine .gy (.fieldAddr Z fO)<|.gy (.load Z cS Hm Z)<|.gy (.eql Z Z)<|.gy (.move Z)<|.e2 (λh45=>?_) (λh45=>?_)
  ·refine .gy (.fieldAddr Z dZ)<|.gy (.load Z cZ Hm Z)<|.gy (.lenS iO Z)<|.gy (.rem Z Z (by decide) (c:=(((prM op nm).length % 2:Nat):Int)) (by rw [cY (by omega)];omega))<|.gy (.eql Z Z)<|.gy (.pickT Z Z)<|.yw (.pickF Z Z)<|.nt<|.ce Z (λh52=>?_) (λh52=>?_)
   ·exact .rg<|.fA Z dZ<|.lD Z cZ Hm Z<|.yw (.app Z Z (by simp only [aJ,aM];omega))<|.fA Z dZ<|.st .head Z Z fP Z (nb Z) Z<|.nt<|.me (prO op,([99,46]:Str)++prM op nm) trivial ⟨Z,Z,Jt⟩ (λ_ s=>s) (bZ0 h45 h52)
   exact .sk<|.tN<|.me (prO op,prM op nm) trivial ⟨Z,Z,Jt⟩ (λ_ s=>s) (bY9 h36 h41 h52)
  exact .gG<|.gG<|.gG<|.gG<|.gG<|.gy (.pickF Z Z)<|.yw (.pickF Z Z)<|.nt<|.cF Z<|.sk<|.tN<|.me (prO op,prM op nm) trivial ⟨Z,Z,Jt⟩ (λ_ s=>s) (bY8 h36 h41 h45)
 subst hC;dsimp only;refine .sr<|.aq Z<|.sq<|.sq<|?_
 refine Sx.row0 83 4 ?_;refine .rg<|.fA Z tH<|.lD Z yV cP Z<|.yw (.lenSl CH Z)<|.mv Z<|.nt<|.bk<|.lp (X:=Nat × Hp × Value × List Value) [(1,_),(2,_),(58,_),(59,_)] ⟨Z,Z,Z,Z,Jt⟩ [_,_] (λz=>[(3,z.2.2.1),(60,iN z.1)]) (λz=>z.2.1) (λz=>[.row 83 4 z.2.2.1 z.1 z.2.2.2]) (λz=>z.1<=args.length/\HUp w H z.2.1/\eD z.2.1 4 (((args.take z.1).map prE).map (dEx .i64)) z.2.2.2) (λz=>args.length - z.1) (0,H,.slice none 0 0,[]) (λ_ s=>s) ⟨Z,Z,Jt⟩ ⟨by simp,.refl,eD.nil⟩ λz hC=>?_
 obtain ⟨k,H1,r,xs⟩:=z;dsimp only at hC|-;obtain ⟨hk0,u1,hz⟩:=hC;refine .sr<|.yw (.lss Z Z)<|.nt<|.sq<|.ce Z (λh61=>?_) (λh61=>?_)
 ·have hk:k<args.length:=by omega
  obtain ⟨bE,oE,cE,hpE,rE,lE,mE⟩:=(hs.up u1.up).elem (kN (f:=dEx .i64) hk);cases hpE;have hn1:=KY hk hn.2;have hw1:=KY hk hw.2;refine .sk<|.tN<|.sq<|.bk<|.sr<|.yw (.indexSl CH Z Z Z (by omega) (q:=oE+k * 4) Z)<|.yw (.loadMW Z jZ mE lE)<|.al pC Z λb5=>.sV .head Z Z lO lE rE.one Z<|.nt<|.rg<|.mv Z<|.yw (.loadW Z jZ Hm lE)<|.ct (X:=List Value) MA Z (λW s=>ih _ (bU hk) hn1 hw1 H1 cE W rE s.agr) Z λx2 H2 hc2 u2=>?_
  obtain ⟨op2,nm2,n2,oD,hx⟩:∃ o m n a,prE args[k]=.mk o m n a:=OA _;rw [hx] at hc2;obtain ⟨p2,c2,rfl,hs2,hnm2⟩:=iM hc2;exact .bl Z (sF _ _ _ _) Z λb67=>.ap (news:=[.int .i64 op2.toNat,cH nm2,.int .i64 n2.toInt,.slice p2 oD.length c2]) GJ Z (λ_=>mD) Z (.box Hm z0) Z (by simp [Value.oneCell',cH]) (by simp [maxLen];omega) (by omega) Z λr68 _=>.a Z Z<|.nl<|.bN<|.tN<|.rg<|.yw (.add Z Z w7)<|.mv Z<|.nt<|.ag (x:=(k,H1,r,xs)) (k+1,H2,r68,xs++[.int .i64 op2.toNat,cH nm2,.int .i64 n2.toInt,.slice p2 oD.length c2]) ⟨Z,Z,Jt⟩ ⟨Z,Z,Z,Z,Jt⟩ (λ_ s=>(s.pick [2,3,4] _ Z Z)) ⟨by dsimp only;omega,u1.trans u2,by dsimp only;rw [tT hk,bV,bV,dG,dG,hx];exact (hz.up u2.up).snoc hc2 Z⟩ (by dsimp only;omega)
 obtain rfl:k=args.length:=by omega
 rw [dD] at hz;refine At.ra Hm λp26 c26 e26=>?_;subst e26;refine .ex<|.eb<|.sm Z<|.fA Z tH<|.st kP Z Z tY Z (nb Z) Z<|.ns<|.yw (.loadW Z jZ cP Z)<|.sX mD Z Z lO Z<|.nt<|.rt<|?_
 refine At.pm [0,2] [_,_] rfl rfl ?_;refine mM (ds:=(args.map prE).map (dEx .i64)) (by simp) hz λH3 p3 c3 u3 hr3 hs3=>?_;refine y8 Z (.cell Z jZ Hm rfl) λW s=>⟨_,H3,by rw [QK];exact qP (by omega) hs3,Z,(u1.trans u3).grow s⟩
def rfN (k:Nat):Bool:=(decide (4<=k) && decide (k<=7)) || (decide (16<=k) && decide (k<=18))
def rfF (k:Nat):Bool:=decide (k=4) || decide (k=5) || decide (k=7)
theorem DN {a b c d:Bool} (h1:a=c) (h2:b=d):Ending.returned (.tuple #[.bool a,.bool b])=.returned (.tuple #[.bool c,.bool d]):=by rw [h1,h2]
theorem XQ (H:Hp) (k:Nat) (w:World) (hA:Agr H w):Calls prg 82 #[iN k] w λr w'=>r=.returned (.tuple #[.bool (rfN k),.bool (rfF k)])/\Ext w w':=by
 refine Sx.enter (H:=H) func82 rfl ntmps82 rfl hA ?_;refine .sr<|.a Z Z<|.a Z Z<|.ns<|.mv Z<|.yw (.geq Z Z)<|.mv Z<|.e2 (λh6=>?_) (λh6=>?_)
 ·refine .gy (.move Z)<|.gy (.leq Z Z)<|.yw (.pickT Z Z)<|.mv Z<|.e2 (λh10=>?_) (λh10=>?_)
  ·refine .gG<|.gG<|.gG<|.gV<|.gV<|.gG<|.yw (.pickT Z Z)<|.mv Z<|.yw (.eql Z Z)<|.mv Z<|.b2 (λh20=>?_) (λh20=>?_)
   ·try simp only [dt] at h20
    refine .gG<|.gG<|.yw (.pickT Z Z)<|.mv Z<|.gG<|.gG<|.yw (.pickT Z Z)<|.a Z Z<|.az Z<|?_
    refine y7 Z (.cons (.tmp Z) (.cons (.tmp Z) .nil)) rfl λW s=>⟨DN (by unfold rfN;rw [bH];(try simp only [bC,aE,aD,reduceCtorEq,dA,cR,dB,cQ,bP,aI]);omega) (by unfold rfF;rw [bH];(try simp only [bC,aE,aD,reduceCtorEq,dA,cR,dB,cQ,bP,aI]);omega),s.ext⟩
   try simp only [df] at h20
   refine .gy (.move Z)<|.gy (.eql Z Z)<|.yw (.pickF Z Z)<|.mv Z<|.b2 (λh24=>?_) (λh24=>?_)
   ·try simp only [dt] at h24
    refine .gG<|.gG<|.yw (.pickT Z Z)<|.a Z Z<|.az Z<|?_
    refine y7 Z (.cons (.tmp Z) (.cons (.tmp Z) .nil)) rfl λW s=>⟨DN (by unfold rfN;rw [bH];(try simp only [bC,aE,aD,reduceCtorEq,dA,cR,dB,cQ,bP,aI]);omega) (by unfold rfF;rw [bH];(try simp only [bC,aE,aD,reduceCtorEq,dA,cR,dB,cQ,bP,aI]);omega),s.ext⟩
   try simp only [df] at h24
   refine .gy (.move Z)<|.gy (.eql Z Z)<|.yw (.pickF Z Z)<|.a Z Z<|.az Z<|?_
   refine y7 Z (.cons (.tmp Z) (.cons (.tmp Z) .nil)) rfl λW s=>⟨DN (by unfold rfN;rw [bH];(try simp only [bC,aE,aD,reduceCtorEq,dA,cR,dB,cQ,bP,aI]);omega) (by unfold rfF;rw [bH];(try simp only [bC,aE,aD,reduceCtorEq,dA,cR,dB,cQ,bP,aI]);omega),s.ext⟩
  refine .gy (.move Z)<|.gy (.geq Z Z)<|.gy (.move Z)<|.b2 (λh13=>?_) (λh13=>?_)
  ·try simp only [dt] at h13
   refine .gy (.move Z)<|.gy (.leq Z Z)<|.gy (.pickT Z Z)<|.yw (.pickF Z Z)<|.mv Z<|.yw (.eql Z Z)<|.mv Z<|.b2 (λh20=>?_) (λh20=>?_)
   ·try simp only [dt] at h20
    refine .gG<|.gG<|.yw (.pickT Z Z)<|.mv Z<|.gG<|.gG<|.yw (.pickT Z Z)<|.a Z Z<|.az Z<|?_
    refine y7 Z (.cons (.tmp Z) (.cons (.tmp Z) .nil)) rfl λW s=>⟨DN (by unfold rfN;rw [bH];(try simp only [bC,aE,aD,reduceCtorEq,dA,cR,dB,cQ,bP,aI]);omega) (by unfold rfF;rw [bH];(try simp only [bC,aE,aD,reduceCtorEq,dA,cR,dB,cQ,bP,aI]);omega),s.ext⟩
   try simp only [df] at h20
   refine .gy (.move Z)<|.gy (.eql Z Z)<|.yw (.pickF Z Z)<|.mv Z<|.b2 (λh24=>?_) (λh24=>?_)
   ·try simp only [dt] at h24
    refine .gG<|.gG<|.yw (.pickT Z Z)<|.a Z Z<|.az Z<|?_
    refine y7 Z (.cons (.tmp Z) (.cons (.tmp Z) .nil)) rfl λW s=>⟨DN (by unfold rfN;rw [bH];(try simp only [bC,aE,aD,reduceCtorEq,dA,cR,dB,cQ,bP,aI]);omega) (by unfold rfF;rw [bH];(try simp only [bC,aE,aD,reduceCtorEq,dA,cR,dB,cQ,bP,aI]);omega),s.ext⟩
   try simp only [df] at h24
   refine .gy (.move Z)<|.gy (.eql Z Z)<|.yw (.pickF Z Z)<|.a Z Z<|.az Z<|?_
   refine y7 Z (.cons (.tmp Z) (.cons (.tmp Z) .nil)) rfl λW s=>⟨DN (by unfold rfN;rw [bH];(try simp only [bC,aE,aD,reduceCtorEq,dA,cR,dB,cQ,bP,aI]);omega) (by unfold rfF;rw [bH];(try simp only [bC,aE,aD,reduceCtorEq,dA,cR,dB,cQ,bP,aI]);omega),s.ext⟩
  try simp only [df] at h13
  refine .gG<|.gG<|.gy (.pickF Z Z)<|.yw (.pickF Z Z)<|.mv Z<|.yw (.eql Z Z)<|.mv Z<|.b2 (λh20=>?_) (λh20=>?_)
  ·try simp only [dt] at h20
   refine .gG<|.gG<|.yw (.pickT Z Z)<|.mv Z<|.gG<|.gG<|.yw (.pickT Z Z)<|.a Z Z<|.az Z<|?_
   refine y7 Z (.cons (.tmp Z) (.cons (.tmp Z) .nil)) rfl λW s=>⟨DN (by unfold rfN;rw [bH];(try simp only [bC,aE,aD,reduceCtorEq,dA,cR,dB,cQ,bP,aI]);omega) (by unfold rfF;rw [bH];(try simp only [bC,aE,aD,reduceCtorEq,dA,cR,dB,cQ,bP,aI]);omega),s.ext⟩
  try simp only [df] at h20
  refine .gy (.move Z)<|.gy (.eql Z Z)<|.yw (.pickF Z Z)<|.mv Z<|.b2 (λh24=>?_) (λh24=>?_)
  ·try simp only [dt] at h24
   refine .gG<|.gG<|.yw (.pickT Z Z)<|.a Z Z<|.az Z<|?_
   refine y7 Z (.cons (.tmp Z) (.cons (.tmp Z) .nil)) rfl λW s=>⟨DN (by unfold rfN;rw [bH];(try simp only [bC,aE,aD,reduceCtorEq,dA,cR,dB,cQ,bP,aI]);omega) (by unfold rfF;rw [bH];(try simp only [bC,aE,aD,reduceCtorEq,dA,cR,dB,cQ,bP,aI]);omega),s.ext⟩
  try simp only [df] at h24
  refine .gy (.move Z)<|.gy (.eql Z Z)<|.yw (.pickF Z Z)<|.a Z Z<|.az Z<|?_
  refine y7 Z (.cons (.tmp Z) (.cons (.tmp Z) .nil)) rfl λW s=>⟨DN (by unfold rfN;rw [bH];(try simp only [bC,aE,aD,reduceCtorEq,dA,cR,dB,cQ,bP,aI]);omega) (by unfold rfF;rw [bH];(try simp only [bC,aE,aD,reduceCtorEq,dA,cR,dB,cQ,bP,aI]);omega),s.ext⟩
 refine .gG<|.gG<|.yw (.pickF Z Z)<|.mv Z<|.gy (.move Z)<|.gy (.geq Z Z)<|.gy (.move Z)<|.b2 (λh13=>?_) (λh13=>?_)
 ·try simp only [dt] at h13
  refine .gy (.move Z)<|.gy (.leq Z Z)<|.gy (.pickT Z Z)<|.yw (.pickF Z Z)<|.mv Z<|.yw (.eql Z Z)<|.mv Z<|.b2 (λh20=>?_) (λh20=>?_)
  ·try simp only [dt] at h20
   refine .gG<|.gG<|.yw (.pickT Z Z)<|.mv Z<|.gG<|.gG<|.yw (.pickT Z Z)<|.a Z Z<|.az Z<|?_
   refine y7 Z (.cons (.tmp Z) (.cons (.tmp Z) .nil)) rfl λW s=>⟨DN (by unfold rfN;rw [bH];(try simp only [bC,aE,aD,reduceCtorEq,dA,cR,dB,cQ,bP,aI]);omega) (by unfold rfF;rw [bH];(try simp only [bC,aE,aD,reduceCtorEq,dA,cR,dB,cQ,bP,aI]);omega),s.ext⟩
  try simp only [df] at h20
  refine .gy (.move Z)<|.gy (.eql Z Z)<|.yw (.pickF Z Z)<|.mv Z<|.b2 (λh24=>?_) (λh24=>?_)
  ·try simp only [dt] at h24
   refine .gG<|.gG<|.yw (.pickT Z Z)<|.a Z Z<|.az Z<|?_
   refine y7 Z (.cons (.tmp Z) (.cons (.tmp Z) .nil)) rfl λW s=>⟨DN (by unfold rfN;rw [bH];(try simp only [bC,aE,aD,reduceCtorEq,dA,cR,dB,cQ,bP,aI]);omega) (by unfold rfF;rw [bH];(try simp only [bC,aE,aD,reduceCtorEq,dA,cR,dB,cQ,bP,aI]);omega),s.ext⟩
  try simp only [df] at h24
  refine .gy (.move Z)<|.gy (.eql Z Z)<|.yw (.pickF Z Z)<|.a Z Z<|.az Z<|?_
  refine y7 Z (.cons (.tmp Z) (.cons (.tmp Z) .nil)) rfl λW s=>⟨DN (by unfold rfN;rw [bH];(try simp only [bC,aE,aD,reduceCtorEq,dA,cR,dB,cQ,bP,aI]);omega) (by unfold rfF;rw [bH];(try simp only [bC,aE,aD,reduceCtorEq,dA,cR,dB,cQ,bP,aI]);omega),s.ext⟩
 try simp only [df] at h13
 refine .gG<|.gG<|.gy (.pickF Z Z)<|.yw (.pickF Z Z)<|.mv Z<|.yw (.eql Z Z)<|.mv Z<|.b2 (λh20=>?_) (λh20=>?_)
 ·try simp only [dt] at h20
  refine .gG<|.gG<|.yw (.pickT Z Z)<|.mv Z<|.gG<|.gG<|.yw (.pickT Z Z)<|.a Z Z<|.az Z<|?_
  refine y7 Z (.cons (.tmp Z) (.cons (.tmp Z) .nil)) rfl λW s=>⟨DN (by unfold rfN;rw [bH];(try simp only [bC,aE,aD,reduceCtorEq,dA,cR,dB,cQ,bP,aI]);omega) (by unfold rfF;rw [bH];(try simp only [bC,aE,aD,reduceCtorEq,dA,cR,dB,cQ,bP,aI]);omega),s.ext⟩
 try simp only [df] at h20
 refine .gy (.move Z)<|.gy (.eql Z Z)<|.yw (.pickF Z Z)<|.mv Z<|.b2 (λh24=>?_) (λh24=>?_)
 ·try simp only [dt] at h24
  refine .gG<|.gG<|.yw (.pickT Z Z)<|.a Z Z<|.az Z<|?_
  refine y7 Z (.cons (.tmp Z) (.cons (.tmp Z) .nil)) rfl λW s=>⟨DN (by unfold rfN;rw [bH];(try simp only [bC,aE,aD,reduceCtorEq,dA,cR,dB,cQ,bP,aI]);omega) (by unfold rfF;rw [bH];(try simp only [bC,aE,aD,reduceCtorEq,dA,cR,dB,cQ,bP,aI]);omega),s.ext⟩
 try simp only [df] at h24
 refine .gy (.move Z)<|.gy (.eql Z Z)<|.yw (.pickF Z Z)<|.a Z Z<|.az Z<|?_
 refine y7 Z (.cons (.tmp Z) (.cons (.tmp Z) .nil)) rfl λW s=>⟨DN (by unfold rfN;rw [bH];(try simp only [bC,aE,aD,reduceCtorEq,dA,cR,dB,cQ,bP,aI]);omega) (by unfold rfF;rw [bH];(try simp only [bC,aE,aD,reduceCtorEq,dA,cR,dB,cQ,bP,aI]);omega),s.ext⟩
def opI (k:Nat):Int:=if k<1\/18<k then -1 else if k<=7 then 0 else if (9<=k/\k<=11)\/k=15 then 2 else 1
theorem ID {a b:Int} (h:a=b):Ending.returned (.int .i64 a)=.returned (.int .i64 b):=by rw [h]
theorem aE6 (H:Hp) (k:Nat) (w:World) (hA:Agr H w):Calls prg 70 #[iN k] w λr w'=>r=.returned (.int .i64 (opI k))/\Ext w w':=by
 refine Sx.enter (H:=H) func70 rfl ntmps70 rfl hA ?_;refine .sr<|.aq Z<|.sq<|.bk<|.sm Z<|.yw (.lss Z Z)<|.mv Z<|.e2 (λh6=>?_) (λh6=>?_)
 ·refine .gG<|.gG<|.yw (.pickT Z Z)<|.aq Z<|.cT Z<|.sr<|.az Z<|.bR<|.tR<|?_
  refine y9 Z Z λW s=>⟨ID ?_,s.ext⟩;unfold opI
  repeat' split
  all_goals omega
 refine .gy (.move Z)<|.gy (.gtr Z Z)<|.yw (.pickF Z Z)<|.aq Z<|.ce Z (λh3=>?_) (λh3=>?_)
 ·refine .sr<|.az Z<|.bR<|.tR<|?_
  refine y9 Z Z λW s=>⟨ID ?_,s.ext⟩;unfold opI
  repeat' split
  all_goals omega
 refine .sm Z<|.yw (.leq Z Z)<|.aq Z<|.ce Z (λh10=>?_) (λh10=>?_)
 ·refine .sr<|.az Z<|.bR<|.tR<|?_
  refine y9 Z Z λW s=>⟨ID ?_,s.ext⟩;unfold opI
  repeat' split
  all_goals omega
 refine .sm Z<|.yw (.geq Z Z)<|.mv Z<|.e2 (λh16=>?_) (λh16=>?_)
 ·refine .gy (.move Z)<|.gy (.leq Z Z)<|.yw (.pickT Z Z)<|.mv Z<|.e2 (λh20=>?_) (λh20=>?_)
  ·refine .gG<|.gG<|.yw (.pickT Z Z)<|.aq Z<|.cT Z<|.sr<|.az Z<|.bR<|.tR<|?_
   refine y9 Z Z λW s=>⟨ID ?_,s.ext⟩;unfold opI
   repeat' split
   all_goals omega
  refine .gy (.move Z)<|.gy (.eql Z Z)<|.yw (.pickF Z Z)<|.aq Z<|.cd Z (λh13=>?_) (λh13=>?_)
  ·try simp only [dt] at h13
   refine .sr<|.az Z<|.bR<|.tR<|?_
   refine y9 Z Z λW s=>⟨ID ?_,s.ext⟩;unfold opI
   repeat' split
   all_goals omega
  try simp only [df] at h13
  refine .sk<|.bN<|.tN<|.sr<|.az Z<|?_
  refine y9 Z Z λW s=>⟨ID ?_,s.ext⟩;unfold opI
  repeat' split
  all_goals omega
 refine .gG<|.gG<|.yw (.pickF Z Z)<|.mv Z<|.gy (.move Z)<|.gy (.eql Z Z)<|.yw (.pickF Z Z)<|.aq Z<|.cd Z (λh13=>?_) (λh13=>?_)
 ·try simp only [dt] at h13
  refine .sr<|.az Z<|.bR<|.tR<|?_
  refine y9 Z Z λW s=>⟨ID ?_,s.ext⟩;unfold opI
  repeat' split
  all_goals omega
 try simp only [df] at h13
 refine .sk<|.bN<|.tN<|.sr<|.az Z<|?_
 refine y9 Z Z λW s=>⟨ID ?_,s.ext⟩;unfold opI
 repeat' split
 all_goals omega
variable {n:Nat}
theorem bW8 (h:n<256):IntKind.i64.wrap (n:Int)=(Int64.ofNat n).toInt:=by
 rw [fU (by omega)];exact w64 (by omega) (by omega)
theorem bW0 {e:Ex} (h:BD 1 e):gdE e=true:=by
 unfold gdE;rw [aR (show e.depth<=34 by have:=h.1;omega),h.2];rfl
theorem bV8 {e:Ex} (h:BD 1 e):BD 1 (prE e):=⟨by rw [aE3];exact h.1,by rw [WW];exact h.2⟩
theorem bV9 {e:Ex} (h:BD 1 e):gdE e=true:=bW0 h
theorem cA7 {op:UInt8} {n:Int64} {e:Ex} (h:BD 1 e):gdE (.mk op [] 0 [e,.mk 1 [] n []])=true:=by
 unfold gdE;have h1:=h.1;rw [nT,tV,Ex.alls,Ex.alls,Ex.alls,h.2,tD,Ex.deeps,Ex.deeps,Ex.deeps,tD,Ex.deeps,aE,aD];exact ⟨by omega,Z⟩
def cB4 (x:Nf) (cs:List Value) (H:Hp):Prop:=∃ (op:UInt8) (nm fd:Str) (a b:Int64) (ex:List Ex) (p:Option Addr) (c:Nat),cs=[.int .i64 op.toNat,cH nm,cH fd,.int .i64 a.toInt,.int .i64 b.toInt,.slice p ex.length c,.slice none 0 0]/\Rep H (.seq 4 (ex.map (dEx .i64))) [.slice p ex.length c]/\op.toNat=x.op.toNat % 19/\nm.length<=13/\fd.length<=13/\ex.length<=4/\(∀ e∈ex,gdE e=true)/\Ex.counts ex<=800
set_option maxHeartbeats 2000000 in
theorem bF2 (H:Hp) (x:Nf) (cs:List Value) (h:Rep H (dNf x) cs) (w:World) (hA:Agr H w) :
 Calls prg 69 #[.agg cs.toArray] w λr w'=>∃ (y:List Value) (H':Hp),cB4 x y H'/\r=.returned (.agg y.toArray)/\xF H w H' w':=by
 obtain ⟨p,c,rfl,hts⟩:=ZM h;have hcap:=hts.cap;obtain ⟨op,hop⟩:∃ op:UInt8,op.toNat=x.op.toNat % 19:=⟨UInt8.ofNat (x.op.toNat % 19),by simp [mC];omega⟩;have hct:=x.ct.toNat_lt;have hfdl:=x.fd.toNat_lt;refine Sx.enter (H:=H) func69 rfl ntmps69 rfl hA ?_;refine .sr<|.bx Z Z Z λb1=>.al sL Z λb2=>.ns<|.fA Z ND<|.lD Z iP cP Z<|.yw (.rem Z Z (by decide) (c:=((x.op.toNat % 19:Nat):Int)) (by rw [cY (by omega)];omega))<|.yw (.conv Z kU lI (c:=((op.toNat:Nat):Int)) ((w6 (by omega)).trans (by rw [hop])))<|.yw (.build Z (EL _))<|.al sL Z λb3=>.sX .head Z Z pD Z<|.ns<|.fA Z qT<|.lD Z cS Hm Z<|.yw (.call aJ2 Z (λW s=>XQ H op.toNat W s.agr))<|.mv Z<|.yw (.extract Z Z)<|.yw (.extract Z Z)<|.a Z Z<|.aq Z<|.cu (X:=Str) [(1,_),(2,_),(3,_),(5,_)] ⟨Z,Z,Z,Z,Jt⟩ (λnm=>[]) (λnm=>H) (λnm=>[.box b3 [.int .i64 op.toNat,cH nm,cH [],.int .i64 ((0:Int64)).toInt,.int .i64 ((0:Int64)).toInt,.slice none 0 0,.slice none 0 0] 27,.box b2 [.int .i64 0,.string ⟨#[]⟩,.string ⟨#[]⟩,.int .i64 0,.int .i64 0,.slice none 0 0,.slice none 0 0] 27,.box b1 [.int .u8 x.op.toNat,.int .u8 x.nm.toNat,.int .u8 x.fd.toNat,.int .u8 x.ct.toNat,.bool x.odd,.int .i64 x.a.toInt,.int .i64 x.b.toInt,.slice p x.ts.length c] 151]) (λnm=>nm.length<=13) ?_ λnm hC=>?_
 ·
  refine .sm Z<|.nt<|.cd Z (λh19=>?_) (λh19=>?_)
  ·exact .rg<|.fA Z DJ<|.lD Z iP lR Z<|.yw (.call jM Z (λW s=>lP _ x.nm W s.agr))<|.fA Z AB<|.st .head Z Z fP Z (nb Z) Z<|.nt<|.me (nJ x.nm) trivial ⟨Z,Z,Z,Z,Jt⟩ (λ_ s=>s) (eN _)
  exact .sk<|.tN<|.me [] trivial ⟨Z,Z,Z,Z,Jt⟩ (λ_ s=>s) (by decide)
 have hnm:=hC;refine .cu (X:=Str) [(1,_),(2,_),(3,_)] ⟨Z,Z,Z,Jt⟩ (λfd=>[]) (λfd=>H) (λfd=>[.box b3 [.int .i64 op.toNat,cH nm,cH fd,.int .i64 ((0:Int64)).toInt,.int .i64 ((0:Int64)).toInt,.slice none 0 0,.slice none 0 0] 27,.box b2 [.int .i64 0,.string ⟨#[]⟩,.string ⟨#[]⟩,.int .i64 0,.int .i64 0,.slice none 0 0,.slice none 0 0] 27,.box b1 [.int .u8 x.op.toNat,.int .u8 x.nm.toNat,.int .u8 x.fd.toNat,.int .u8 x.ct.toNat,.bool x.odd,.int .i64 x.a.toInt,.int .i64 x.b.toInt,.slice p x.ts.length c] 151]) (λfd=>fd.length<=13) ?_ λfd hC=>?_
 ·
  refine .sm Z<|.nt<|.cd Z (λh24=>?_) (λh24=>?_)
  ·exact .rg<|.fA Z yC<|.lD Z iP lR Z<|.yw (.call jM Z (λW s=>lP _ x.fd W s.agr))<|.fA Z AA<|.st .head Z Z fP Z (nb Z) Z<|.nt<|.me (nJ x.fd) trivial ⟨Z,Z,Z,Jt⟩ (λ_ s=>s) (eN _)
  exact .sk<|.tN<|.me [] trivial ⟨Z,Z,Z,Jt⟩ (λ_ s=>s) (by decide)
 have hfd:=hC;refine .cu (X:=Int64 × Int64) [(1,_),(2,_),(3,_)] ⟨Z,Z,Z,Jt⟩ (λab=>[]) (λab=>H) (λab=>[.box b3 [.int .i64 op.toNat,cH nm,cH fd,.int .i64 ((ab.1:Int64)).toInt,.int .i64 ((ab.2:Int64)).toInt,.slice none 0 0,.slice none 0 0] 27,.box b2 [.int .i64 0,.string ⟨#[]⟩,.string ⟨#[]⟩,.int .i64 0,.int .i64 0,.slice none 0 0,.slice none 0 0] 27,.box b1 [.int .u8 x.op.toNat,.int .u8 x.nm.toNat,.int .u8 x.fd.toNat,.int .u8 x.ct.toNat,.bool x.odd,.int .i64 x.a.toInt,.int .i64 x.b.toInt,.slice p x.ts.length c] 151]) (λab=>True) ?_ λab hC=>?_
 ·
  refine .sr<|.fA Z qT<|.lD Z cS Hm Z<|.yw (.geq Z Z)<|.mv Z<|.e2 (λh32=>?_) (λh32=>?_)
  ·refine .gy (.fieldAddr Z qT)<|.gy (.load Z cS Hm Z)<|.gy (.neq Z Z)<|.yw (.pickT Z Z)<|.nt<|.ce Z (λh36=>?_) (λh36=>?_)
   ·exact .fL 7 [(0,0),(1,0),(2,0),(3,0),(4,0),(5,3),(6,0)]<|.fA Z DH<|.lD Z cS lR Z<|.fA Z yB<|.lD Z cS lR Z<|.fA Z zZ<|.st .head Z Z iH Z Z Z ((.dn<|.yv (.load Z cS lR Z)<|.yv (.fieldAddr Z yB)<|.d2<|.nl))<|.fA Z zY<|.fn (tl:=[_]) Z<|.st .head Z Z iH Z (nb Z) Z<|.nt<|.me (x.a,x.b) trivial ⟨Z,Z,Z,Jt⟩ (λ_ s=>s) trivial
   exact .sk<|.tN<|.me (0,0) trivial ⟨Z,Z,Z,Jt⟩ (λ_ s=>s) trivial
  exact .gG<|.gG<|.gG<|.yw (.pickF Z Z)<|.nt<|.cF Z<|.sk<|.tN<|.me (0,0) trivial ⟨Z,Z,Z,Jt⟩ (λ_ s=>s) trivial
 obtain ⟨a,b⟩:=ab;dsimp only;refine .sr<|.fA Z DG<|.lD Z PB lR Z<|.ct (X:=List Value) LZ Z (λW s=>LQ H x.ts _ hts W s.agr) Z λx1 H1 hx1 u1=>?_
 obtain ⟨e0,rx,hg0,h13,hcn⟩:=hx1;obtain ⟨op1,nm1,n1,gZ,rfl⟩:=OA e0;obtain ⟨p1,c1,rfl,hs1,_⟩:=iM rx;refine .ct (X:=List Value) MA Z (λW s=>aE5 _ h13 hg0.2 H1 _ W rx s.agr) Z λx2 H2 hx2 u2=>?_;have hg2:=bV8 hg0;have hcn2:=aE4 (.mk op1 nm1 n1 gZ);obtain ⟨op2,nm2,n2,oD,hx⟩:=OA (prE (.mk op1 nm1 n1 gZ));rw [hx] at hx2 hg2 hcn2;obtain ⟨p2,c2,rfl,hs2,hnm2⟩:=iM hx2;refine .al pC Z λb6=>.sX .head Z Z lO Z<|.nt<|.cu (X:=Hp × Value × List Ex × List Value) [(1,_),(2,_),(3,_)] ⟨Z,Z,Z,Jt⟩ (λz=>[]) (λz=>z.1) (λz=>[.row 83 4 z.2.1 z.2.2.1.length z.2.2.2,.box b3 [.int .i64 op.toNat,cH nm,cH fd,.int .i64 ((a:Int64)).toInt,.int .i64 ((b:Int64)).toInt,z.2.1,.slice none 0 0] 27,.box b2 [.int .i64 0,.string ⟨#[]⟩,.string ⟨#[]⟩,.int .i64 0,.int .i64 0,.slice none 0 0,.slice none 0 0] 27,.box b1 [.int .u8 x.op.toNat,.int .u8 x.nm.toNat,.int .u8 x.fd.toNat,.int .u8 x.ct.toNat,.bool x.odd,.int .i64 x.a.toInt,.int .i64 x.b.toInt,.slice p x.ts.length c] 151]) (λz=>HUp w H z.1/\eD z.1 4 (z.2.2.1.map (dEx .i64)) z.2.2.2/\z.2.2.1.length<=3/\(∀ e∈z.2.2.1,gdE e=true)/\Ex.counts z.2.2.1<=600) ?_ λz hC=>?_
 ·
  refine .sq<|?_
  refine Sx.row0 83 4 ?_;refine .rg<|.fA Z qT<|.lD Z cS lR Z<|.nt<|.bk<|.sr<|.yw (.eql Z Z)<|.aq Z<|.ce Z (λh49=>?_) (λh49=>?_)
  ·refine .rg<|.fA Z pG<|.lD Z iP uZ Z<|.yw (.rem Z Z (by decide) (c:=((x.ct.toNat % 6:Nat):Int)) (by rw [cY (by omega)];omega))<|.yw (.conv Z kU lI (c:=((x.ct.toNat % 6:Nat):Int)) (w6 (by omega)))<|.yw (.add Z Z (c:=(((UInt8.ofNat (16+x.ct.toNat % 6)).toNat:Nat):Int)) (by rw [dW (by show 16+x.ct.toNat % 6<256;omega)];exact (w6 (by omega)).trans (by omega)))<|.yw (.loadW Z jZ cP Z)<|.fA Z yC<|.lD Z iP uZ Z<|.yw (.conv Z kU RY (c:=(Int64.ofNat (x.fd.toNat)).toInt) (bW8 (by omega)))<|.yw (.build Z (AE _ _))<|.bl Z (YT _ _ _ _ _ _ _ _) Z λb61=>?_
   refine Sx.freezeBoxN λH3 u3 m3=>?_;exact .yw (.build Z (SA _ _ _ _))<|.blR (z:=4) Z (sF _ _ _ _) Z Z (by simp [maxLen]) λb63=>.fA Z mV<|.st mP Z Z tY Z (nb Z) Z<|.nl<|.bN<|.tN<|.me (H3,.slice (some ⟨b63,0,none⟩) 1 1,[(Ex.mk (UInt8.ofNat (16+x.ct.toNat % 6)) [] 0 [(Ex.mk op2 nm2 n2 oD),.mk 1 [] (Int64.ofNat x.fd.toNat) []])],[.int .i64 (UInt8.ofNat (16+x.ct.toNat % 6)).toNat,.string ⟨#[]⟩,.int .i64 0,.slice (some ⟨b61,0,none⟩) 2 2]) trivial ⟨Z,Z,Z,Jt⟩ (λ_ s=>s.pick [0,3,4,5] [_,_,_,_] Z Z) ⟨(u1.trans u2).trans u3,eD.single (qP (by decide) (Rep.mk (n:=2) (c:=2) (ds:=[dEx .i64 (Ex.mk op2 nm2 n2 oD),dEx .i64 (.mk 1 [] (Int64.ofNat x.fd.toNat) [])]) m3 (eD.app (eD.single (qP hnm2 (hs2.up u3.up)) Z) (eD.single (qP (by decide) (Rep.empty (by decide))) Z)) Z (aX _) (by decide))) Z,(by decide:1<=3),λe he=>by rw [bQ.1 he];exact cA7 hg2,by dsimp only;simp only [Ex.counts,lU] at hcn2 hcn|-;omega⟩
  refine .sr<|.yw (.eql Z Z)<|.aq Z<|.ce Z (λh65=>?_) (λh65=>?_)
  ·exact .rg<|.yw (.loadW Z jZ cP Z)<|.blR (z:=4) Z (sF _ _ _ _) Z Z (by simp [maxLen]) λb68=>.fA Z mV<|.st mP Z Z tY Z (nb Z) Z<|.nl<|.bN<|.tN<|.me (H2,.slice (some ⟨b68,0,none⟩) 1 1,[(Ex.mk op2 nm2 n2 oD)],[.int .i64 op2.toNat,cH nm2,.int .i64 n2.toInt,.slice p2 oD.length c2]) trivial ⟨Z,Z,Z,Jt⟩ (λ_ s=>s.pick [0,3,4,5] [_,_,_,_] Z Z) ⟨u1.trans u2,eD.single (qP hnm2 hs2) Z,(by decide:1<=3),λe he=>by rw [bQ.1 he];exact bV9 hg2,by dsimp only;simp only [Ex.counts];omega⟩
  refine .sr<|.yw (.eql Z Z)<|.aq Z<|.ce Z (λh70=>?_) (λh70=>?_)
  ·refine .sr<|.aq Z<|.bk<|.pm [1,0,2,3,4] [_,_,_,_,_] Z Z<|.lp (X:=Nat × Value × List Ex × List Value × Ex × Option Addr × Nat) [(1,_),(2,_),(3,_),(6,_)] ⟨Z,Z,Z,Z,Jt⟩ [_,_] (λz=>[(7,iN z.1)]) (λz=>H2) (λz=>[.box b6 [.int .i64 (z.2.2.2.2.1.op).toNat,cH z.2.2.2.2.1.nm,.int .i64 (z.2.2.2.2.1.n).toInt,.slice z.2.2.2.2.2.1 z.2.2.2.2.1.args.length z.2.2.2.2.2.2] 83,.row 83 4 z.2.1 z.1 z.2.2.2.1,.box b3 [.int .i64 op.toNat,cH nm,cH fd,.int .i64 ((a:Int64)).toInt,.int .i64 ((b:Int64)).toInt,z.2.1,.slice none 0 0] 27]) (λz=>(z.1<=x.ct.toNat % 4/\z.2.2.1.length=z.1)/\eD H2 4 (z.2.2.1.map (dEx .i64)) z.2.2.2.1/\(∀ e∈z.2.2.1,gdE e=true)/\Ex.counts z.2.2.1<=181 * z.1/\Rep H2 (dEx .i64 z.2.2.2.2.1) [.int .i64 (z.2.2.2.2.1.op).toNat,cH z.2.2.2.2.1.nm,.int .i64 (z.2.2.2.2.1.n).toInt,.slice z.2.2.2.2.2.1 z.2.2.2.2.1.args.length z.2.2.2.2.2.2]/\gdE z.2.2.2.2.1=true/\z.2.2.2.2.1.count<=181) (λz=>x.ct.toNat % 4 - z.1) (0,.slice none 0 0,[],[],(Ex.mk op2 nm2 n2 oD),p2,c2) (λ_ s=>s) ⟨Z,Jt⟩ ⟨⟨aO _,Z⟩,eD.nil,λe he=>(by cases he),by rw [Ex.counts];exact aO _,hx2,bV9 hg2,by dsimp only;omega⟩ λz hC=>?_
   obtain ⟨k,r,ex,xs,te,tp,tc⟩:=z;obtain ⟨⟨hk0,hkl⟩,hz,hge,hxc,rt,gt,ct⟩:=hC;dsimp only at hk0 hkl hz hge hxc rt gt ct|-;obtain ⟨top,tnm,tn,targs,rfl⟩:=OA te;dsimp only [Ex.op,Ex.nm,Ex.n,Ex.args] at rt|-;refine .sq<|.sm Z<|.fA Z pG<|.lD Z iP uZ Z<|.yw (.rem Z Z (by decide) (c:=((x.ct.toNat % 4:Nat):Int)) (by rw [cY (by omega)];omega))<|.yw (.conv Z kU lI (c:=((x.ct.toNat % 4:Nat):Int)) (w6 (by omega)))<|.yw (.lss Z Z)<|.nt<|.ce Z (λh77=>?_) (λh77=>?_)
   ·have hk:k<x.ct.toNat % 4:=by omega
    refine .sk<|.tN<|.sq<|.bk<|.sr<|.fA Z mV<|.lD Z yV lR Z<|.yw (.loadW Z jZ Hm Z)<|.bl Z (sF _ _ _ _) Z λb83=>.ap (news:=[.int .i64 top.toNat,cH tnm,.int .i64 tn.toInt,.slice tp targs.length tc]) GJ Z (λ_=>mD) Z (.box Hm z0) Z (by simp [Value.oneCell',cH]) (by simp [maxLen];omega) (by omega) Z λr84 _=>?_
    refine At.ra lR λp84 c84 e84=>?_;subst e84;exact .fA Z mV<|.st mP Z Z tY Z (nb Z) Z<|.nt<|.rg<|.yw (.build Z bA5)<|.sX kP Z Z lO Z<|.nl<|.bN<|.tN<|.rg<|.mv Z<|.yw (.add Z Z w7)<|.aq Z<|.ag (x:=(k,r,ex,xs,.mk top tnm tn targs,tp,tc)) (k+1,.slice p84 (k+1) c84,ex++[Ex.mk top tnm tn targs],xs++[.int .i64 top.toNat,cH tnm,.int .i64 tn.toInt,.slice tp targs.length tc],Ex.mk 0 [] 0 [],none,0) ⟨Z,Jt⟩ ⟨Z,Z,Z,Z,Jt⟩ (λ_ s=>(s.pick [1,2,3,4,5] _ Z Z)) ⟨⟨by dsimp only;omega,by dsimp only;rw [aF];simp only [aJ,aM];omega⟩,by dsimp only;rw [bV];exact hz.snoc rt Z,λe he=>by rcases cC.1 he with h | h;exact hge e h;rw [bQ.1 h];exact gt,by dsimp only;rw [oZ,Ex.counts,Ex.counts];omega,qP (by decide) (Rep.empty (aO _)),Z,by dsimp only;simp only [Ex.counts,lU];omega⟩ (by dsimp only;omega)
   have hke:k=x.ct.toNat % 4:=by omega
   subst hkl;refine At.ra (.tail _ Hm) λp84 c84 e84=>?_;subst e84;have hkl3:ex.length<=3:=by omega
   exact .ex<|.tE<|.tE<|.bE<|.bN<|.tN<|.me (H2,.slice p84 ex.length c84,ex,xs) trivial ⟨Z,Z,Z,Jt⟩ (λ_ s=>s.pick [1,2,3,4] [_,_,_,_] Z Z) ⟨u1.trans u2,hz,hkl3,hge,(show Ex.counts ex<=600 by omega)⟩
  refine .sr<|.yw (.eql Z Z)<|.aq Z<|.ce Z (λh87=>?_) (λh87=>?_)
  ·exact .rg<|.fA Z pG<|.lD Z iP uZ Z<|.yw (.rem Z Z (by decide) (c:=((x.ct.toNat % 40:Nat):Int)) (by rw [cY (by omega)];omega))<|.yw (.conv Z kU RY (c:=(Int64.ofNat (x.ct.toNat % 40)).toInt) (bW8 (by omega)))<|.yw (.build Z (AE _ _))<|.blR (z:=4) Z (sF _ _ _ _) Z Z (by simp [maxLen]) λb94=>.fA Z mV<|.st mP Z Z tY Z (nb Z) Z<|.nl<|.bN<|.tN<|.me (H2,.slice (some ⟨b94,0,none⟩) 1 1,[(Ex.mk 1 [] (Int64.ofNat (x.ct.toNat % 40)) [])],[.int .i64 1,.string ⟨#[]⟩,.int .i64 (Int64.ofNat (x.ct.toNat % 40)).toInt,.slice none 0 0]) trivial ⟨Z,Z,Z,Jt⟩ (λ_ s=>s.pick [0,3,4,5] [_,_,_,_] Z Z) ⟨u1.trans u2,eD.single (qP (by decide) (Rep.empty (by decide))) Z,(by decide:1<=3),λe he=>by rw [bQ.1 he];rfl,by dsimp only;simp only [Ex.counts,lU];omega⟩
  exact .sk<|.bN<|.tN<|.me (H2,.slice none 0 0,[],[]) trivial ⟨Z,Z,Z,Jt⟩ (λ_ s=>s.pick [0,2,3,4] [_,_,_,_] Z Z) ⟨u1.trans u2,eD.nil,aO _,λe he=>(by cases he),by rw [Ex.counts];omega⟩
 obtain ⟨H3,r,ex,xs⟩:=z;obtain ⟨u3,hz,hxl,hge,hxc⟩:=hC;dsimp only at u3 hz hxl hge hxc|-;refine At.ra Hm λpr cr er=>?_;subst er;have hts3:=hts.up u3.up;refine .cu (X:=Str × Str × Int64 × Int64 × Hp × Value × List Ex × List Value) [(2,_),(3,_)] ⟨Z,Z,Jt⟩ (λz=>[]) (λz=>z.2.2.2.2.1) (λz=>[.row 83 4 z.2.2.2.2.2.1 z.2.2.2.2.2.2.1.length z.2.2.2.2.2.2.2,.box b3 [.int .i64 op.toNat,cH z.1,cH z.2.1,.int .i64 ((z.2.2.1:Int64)).toInt,.int .i64 ((z.2.2.2.1:Int64)).toInt,z.2.2.2.2.2.1,.slice none 0 0] 27,.box b2 [.int .i64 0,.string ⟨#[]⟩,.string ⟨#[]⟩,.int .i64 0,.int .i64 0,.slice none 0 0,.slice none 0 0] 27,.box b1 [.int .u8 x.op.toNat,.int .u8 x.nm.toNat,.int .u8 x.fd.toNat,.int .u8 x.ct.toNat,.bool x.odd,.int .i64 x.a.toInt,.int .i64 x.b.toInt,.slice p x.ts.length c] 151]) (λz=>(z.1.length<=13/\z.2.1.length<=13)/\HUp w H z.2.2.2.2.1/\eD z.2.2.2.2.1 4 (z.2.2.2.2.2.2.1.map (dEx .i64)) z.2.2.2.2.2.2.2/\z.2.2.2.2.2.2.1.length<=4/\(∀ e∈z.2.2.2.2.2.2.1,gdE e=true)/\Ex.counts z.2.2.2.2.2.2.1<=800) ?_ λz hC=>?_
 ·
  refine .sr<|.fA Z DI<|.lD Z jI pY Z<|.nt<|.cd Z (λh97=>?_) (λh97=>?_)
  ·try simp only [dt] at h97
   refine .sr<|.fA Z pG<|.lD Z iP pY Z<|.yw (.rem Z Z (by decide) (c:=((x.ct.toNat % 6:Nat):Int)) (by rw [cY (by omega)];omega))<|.nt<|.bk<|.sr<|.yw (.eql Z Z)<|.aq Z<|.ce Z (λh101=>?_) (λh101=>?_)
   ·exact .rg<|.fA Z DJ<|.lD Z iP pY Z<|.yw (.call jM Z (λW s=>lP _ x.nm W s.agr))<|.fA Z AB<|.st kP Z Z fP Z (nb Z) Z<|.nl<|.bN<|.tN<|.me ((nJ x.nm),fd,a,b,H3,.slice pr ex.length cr,ex,xs) trivial ⟨Z,Z,Jt⟩ (λ_ s=>s) ⟨⟨by first | exact hnm | exact eN _,by first | exact hfd | exact eN _⟩,u3,hz,(show ex.length<=4 by omega),hge,(show Ex.counts ex<=800 by omega)⟩
   refine .sr<|.yw (.eql Z Z)<|.aq Z<|.ce Z (λh107=>?_) (λh107=>?_)
   ·exact .rg<|.fA Z yC<|.lD Z iP pY Z<|.yw (.call jM Z (λW s=>lP _ x.fd W s.agr))<|.fA Z AA<|.st kP Z Z fP Z (nb Z) Z<|.nl<|.bN<|.tN<|.me (nm,(nJ x.fd),a,b,H3,.slice pr ex.length cr,ex,xs) trivial ⟨Z,Z,Jt⟩ (λ_ s=>s) ⟨⟨by first | exact hnm | exact eN _,by first | exact hfd | exact eN _⟩,u3,hz,(show ex.length<=4 by omega),hge,(show Ex.counts ex<=800 by omega)⟩
   refine .sr<|.yw (.eql Z Z)<|.aq Z<|.ce Z (λh113=>?_) (λh113=>?_)
   ·refine .fL 6 [(0,0),(1,0),(2,0),(3,0),(4,1),(5,1)]<|.fA Z mV<|.lD Z yV cP Z<|.fA Z DG<|.lD Z PB pY Z<|.ct (X:=List Value) LZ Z (λW s=>LQ H3 x.ts _ hts3 W s.agr) Z λx9 H4 hx9 u4=>?_
    obtain ⟨e9,rx9,hg9,_,hcn9⟩:=hx9;obtain ⟨op9,nm9,n9,args9,rfl⟩:=OA e9;obtain ⟨p9,c9,rfl,hs9,_⟩:=iM rx9;refine .bl Z (sF _ _ _ _) Z λb120=>.fn (tl:=[_,_,_]) Z<|.ap (news:=[.int .i64 op9.toNat,cH nm9,.int .i64 n9.toInt,.slice p9 args9.length c9]) GJ Z (λ_=>kP) Z (.box Hm z0) Z (by simp [Value.oneCell',cH]) (by simp [maxLen];omega) (by omega) Z λr121 _=>?_
    rw [show ex.length+1=(ex++[Ex.mk op9 nm9 n9 args9]).length by simp];refine At.ra cP λp121 c121 e121=>?_;subst e121;exact .fA Z mV<|.st mD Z Z tY Z (nb Z) Z<|.nl<|.bN<|.tN<|.me (nm,fd,a,b,H4,.slice p121 (ex++[Ex.mk op9 nm9 n9 args9]).length c121,ex++[Ex.mk op9 nm9 n9 args9],xs++[.int .i64 op9.toNat,cH nm9,.int .i64 n9.toInt,.slice p9 args9.length c9]) trivial ⟨Z,Z,Jt⟩ (λ_ s=>s.pick [1,2,3,4] [_,_,_,_] Z Z) ⟨⟨hnm,hfd⟩,u3.trans u4,by dsimp only;rw [bV];exact (hz.up u4.up).snoc rx9 Z,by dsimp only;rw [aF];simp only [aJ,aM];omega,λe he=>by rcases cC.1 he with h | h;exact hge e h;rw [bQ.1 h];exact bW0 hg9,by dsimp only;rw [oZ,Ex.counts,Ex.counts];omega⟩
   refine .sr<|.yw (.eql Z Z)<|.aq Z<|.ce Z (λh123=>?_) (λh123=>?_)
   ·exact .rg<|.fA Z DH<|.lD Z cS pY Z<|.fA Z zZ<|.st kP Z Z iH Z (nb Z) Z<|.nl<|.bN<|.tN<|.me (nm,fd,x.a,b,H3,.slice pr ex.length cr,ex,xs) trivial ⟨Z,Z,Jt⟩ (λ_ s=>s) ⟨⟨by first | exact hnm | exact eN _,by first | exact hfd | exact eN _⟩,u3,hz,(show ex.length<=4 by omega),hge,(show Ex.counts ex<=800 by omega)⟩
   refine .sr<|.yw (.eql Z Z)<|.aq Z<|.ce Z (λh128=>?_) (λh128=>?_)
   ·exact .rg<|.fA Z yB<|.lD Z cS pY Z<|.fA Z zY<|.st kP Z Z iH Z (nb Z) Z<|.nl<|.bN<|.tN<|.me (nm,fd,a,x.b,H3,.slice pr ex.length cr,ex,xs) trivial ⟨Z,Z,Jt⟩ (λ_ s=>s) ⟨⟨by first | exact hnm | exact eN _,by first | exact hfd | exact eN _⟩,u3,hz,(show ex.length<=4 by omega),hge,(show Ex.counts ex<=800 by omega)⟩
   exact .sk<|.bN<|.tN<|.me (nm,fd,a,b,H3,.slice pr ex.length cr,ex,xs) trivial ⟨Z,Z,Jt⟩ (λ_ s=>s) ⟨⟨by first | exact hnm | exact eN _,by first | exact hfd | exact eN _⟩,u3,hz,(show ex.length<=4 by omega),hge,(show Ex.counts ex<=800 by omega)⟩
  try simp only [df] at h97
  exact .sk<|.tN<|.me (nm,fd,a,b,H3,.slice pr ex.length cr,ex,xs) trivial ⟨Z,Z,Jt⟩ (λ_ s=>s) ⟨⟨by first | exact hnm | exact eN _,by first | exact hfd | exact eN _⟩,u3,hz,(show ex.length<=4 by omega),hge,(show Ex.counts ex<=800 by omega)⟩
 obtain ⟨nm,fd,a,b,H5,r,ex,xs⟩:=z;obtain ⟨⟨hnm,hfd⟩,u5,hz,hxl,hge,hxc⟩:=hC;dsimp only at hnm hfd u5 hz hxl hge hxc|-;refine At.ra Hm λp5 c5 e5=>?_;subst e5;refine .sr<|.yw (.loadW Z qJ cP Z)<|.sX mD Z Z pD Z<|.nt<|.rt<|?_
 refine At.pm [0,2] [_,_] rfl rfl ?_;refine mM (ds:=ex.map (dEx .i64)) (bJ ..) hz λH6 p6 c6 u6 hr6 hs6=>?_;refine y8 Z (.cell Z qJ Hm rfl) λW s=>⟨_,H6,⟨op,nm,fd,a,b,ex,p5,c5,Z,hs6,hop,hnm,hfd,hxl,hge,hxc⟩,Z,(u5.trans u6).grow s⟩
theorem bY6 (h:n<256):IntKind.u8.wrap (n:Int)=(n:Int):=by
 have key:∀ i∈List.range 256,IntKind.u8.wrap (i:Int)=(i:Int):=by decide +kernel
 exact key n (bY.2 h)
theorem ZL (k:Nat):-1<=opI k/\opI k<=2:=by unfold opI;split <;> (try split) <;> (try split) <;> omega
theorem VH:∀ (f d:Nat),d+f=13->∀ (H:Hp) (l:List Nf) (v:Value) (w:World),Rep H (.seq 8 (l.map dNf)) [v]->Agr H w ->
 Calls prg 33 #[v,iN d] w λr w'=>∃ (y:List Value × Value) (H':Hp),(∃ (g:Fm) (rest:List Nf),Rep H' (dFm .i64 g) y.1/\gdF g=true/\g.count+1010 * rest.length<=1010 * l.length+1/\Rep H' (.seq 8 (rest.map dNf)) [y.2])/\r=.returned (.tuple #[.agg y.1.toArray,y.2])/\xF H w H' w':=by
 intro f;induction f using Nat.strongRecOn with
 | _ f ih =>
  intro d hd H l v w h hA;obtain ⟨p,c,e,_⟩:=h.sl;simp only [fT,oH] at e;subst e;obtain ⟨n,hn⟩:∃ n,n=(l.map dNf).length:=⟨_,Z⟩;rw [<-hn] at h|-;have hnl:n=l.length:=by simpa using hn
  have hcap:=h.cap;refine Sx.enter (H:=H) func33 rfl ntmps33 rfl hA ?_;refine .sr<|.al sL Z λb4=>.aq Z<|.sq<|.sm Z<|.yw (.lenSl GI Z)<|.yw (.eql Z Z)<|.mv Z<|.e2 (λh15=>?_) (λh15=>?_)
  ·refine .gG<|.gG<|.yw (.pickT Z Z)<|.nt<|.cT Z<|.sr<|.yw (.build Z (EL _))<|.mv Z<|.sW .head Z Z pD (by simp [Value.oneCell',cH,cNf]) Z<|.az Z<|.tR<|?_
   exact y7 Z (.cons (.cell Z qJ Hm rfl) (.cons (.tmp Z) .nil)) rfl λW s=>⟨(_,_),H,⟨.mk 1 [] [] 0 0 [] [],l,CB (k:=.i64) (by decide) (by decide) (Rep.empty (by decide)) (Rep.empty (by decide)),Z,(by simp only [Fm.count,Ex.counts,Fm.counts];omega),h⟩,Z,.pure hA s.ext⟩
  refine .gy (.move Z)<|.gy (.gtr Z Z)<|.yw (.pickF Z Z)<|.nt<|.ce Z (λh18=>?_) (λh18=>?_)
  ·refine .sr<|.yw (.build Z (EL _))<|.mv Z<|.sW .head Z Z pD (by simp [Value.oneCell',cH,cNf]) Z<|.az Z<|.tR<|?_
   exact y7 Z (.cons (.cell Z qJ Hm rfl) (.cons (.tmp Z) .nil)) rfl λW s=>⟨(_,_),H,⟨.mk 1 [] [] 0 0 [] [],l,CB (k:=.i64) (by decide) (by decide) (Rep.empty (by decide)) (Rep.empty (by decide)),Z,(by simp only [Fm.count,Ex.counts,Fm.counts];omega),h⟩,Z,.pure hA s.ext⟩
  have hn0:0<n:=by omega
  obtain ⟨bE,oE,cE,hpE,rE,lE,mE⟩:=h.elem (kN (f:=dNf) (show 0<l.length by omega));subst hpE;generalize hx:l[0]=x at rE;obtain ⟨pN,cN,rfl,hsN⟩:=ZM rE;have hct:=x.ct.toNat_lt;refine .sk<|.tN<|.sm Z<|.yw (.indexSl GI Z Z (i:=0) Z (by omega) (q:=oE+0 * 8) (by omega))<|.yw (.loadMW Z PA mE Z)<|.al YB Z λb6=>.sW .head Z Z YD (by simp [Value.oneCell',cH,cNf]) Z<|.ns<|.mv Z<|.yw (.cutLo GI Z Z (lo:=1) Z (by omega) h.len.2.1)<|.a Z Z<|.ns<|.yw (.loadW Z PA Hm Z)<|.ct (X:=List Value) aJ7 Z (λW s=>bF2 H x _ rE W s.agr) Z λy27 H0 hy27 u0=>?_
  obtain ⟨op,nm,fd,a,b,ex,pX,cX,rfl,hsX,hop,hnm,hfd,hexl,hge,hexc⟩:=hy27;obtain ⟨m0,hm0,hm2⟩:∃ m0:Nat,max (opI op.toNat) 0=(m0:Int)/\m0<=2:=⟨(max (opI op.toNat) 0).toNat,by have:=ZL op.toNat;omega,by have:=ZL op.toNat;omega⟩;refine .al sL Z λb7=>.sW .head Z Z pD (by simp [Value.oneCell',cH,cNf]) Z<|.ns<|.fA Z qT<|.lD Z cS Hm Z<|.yw (.call aJ6 Z (λW s=>aE6 _ op.toNat W s.agr))<|.yw (.max2 Z Z (c:=((m0:Nat):Int)) hm0)<|.aq Z<|.cu (X:=Nat) [(0,_),(1,_),(4,_),(7,_)] ⟨Z,Z,Z,Z,Jt⟩ (λm=>[(8,iN m)]) (λm=>H0) (λm=>[.box b7 [.int .i64 op.toNat,cH nm,cH fd,.int .i64 a.toInt,.int .i64 b.toInt,.slice pX ex.length cX,.slice none 0 0] 27,.box b6 [.int .u8 x.op.toNat,.int .u8 x.nm.toNat,.int .u8 x.fd.toNat,.int .u8 x.ct.toNat,.bool x.odd,.int .i64 x.a.toInt,.int .i64 x.b.toInt,.slice pN x.ts.length cN] 151,.box b4 [.int .i64 0,.string ⟨#[]⟩,.string ⟨#[]⟩,.int .i64 0,.int .i64 0,.slice none 0 0,.slice none 0 0] 27]) (λm=>m<=3) ?_ λm hC=>?_
  ·
   refine .sr<|.fA Z DI<|.lD Z jI cP Z<|.mv Z<|.b2 (λh34=>?_) (λh34=>?_)
   ·try simp only [dt] at h34
    refine .gy (.fieldAddr Z pG)<|.gy (.load Z iP cP Z)<|.gy (.rem Z Z (by decide) (c:=((x.ct.toNat % 6:Nat):Int)) (by rw [cY (by omega)];omega))<|.gy (.eql Z Z)<|.yw (.pickT Z Z)<|.nt<|.ce Z (λh39=>?_) (λh39=>?_)
    ·exact .rg<|.fA Z pG<|.lD Z iP cP Z<|.yw (.quo Z Z (by decide) (c:=((x.ct.toNat / 6:Nat):Int)) (by rw [oI (by omega),show ((x.ct.toNat:Nat):Int) / 6=((x.ct.toNat / 6:Nat):Int) by omega];exact bY6 (by omega)))<|.yw (.conv Z kU lI (c:=((x.ct.toNat / 6:Nat):Int)) (w6 (by omega)))<|.yw (.rem Z Z (by decide) (c:=((x.ct.toNat / 6 % 4:Nat):Int)) (by rw [cY (by omega)];omega))<|.aq Z<|.me (x.ct.toNat / 6 % 4) ⟨Z,Jt⟩ ⟨Z,Z,Z,Z,Jt⟩ (λ_ s=>s) (by omega)
    exact .sk<|.tN<|.me m0 ⟨Z,Jt⟩ ⟨Z,Z,Z,Z,Jt⟩ (λ_ s=>s) (by omega)
   try simp only [df] at h34
   exact .gG<|.gG<|.gG<|.gG<|.yw (.pickF Z Z)<|.nt<|.cF Z<|.sk<|.tN<|.me m0 ⟨Z,Jt⟩ ⟨Z,Z,Z,Z,Jt⟩ (λ_ s=>s) (by omega)
  have hm3:=hC;refine Sx.row0 27 7 ?_;refine .sq<|.sr<|.aq Z<|.bk<|.lp (X:=Nat × Hp × Value × List Value × Value) [(1,_),(4,_),(7,_),(8,_)] ⟨Z,Z,Z,Z,Jt⟩ [_,_] (λz=>[(9,iN z.1),(0,z.2.2.2.2)]) (λz=>z.2.1) (λz=>[.row 27 7 z.2.2.1 z.1 z.2.2.2.1,.box b7 [.int .i64 op.toNat,cH nm,cH fd,.int .i64 a.toInt,.int .i64 b.toInt,.slice pX ex.length cX,z.2.2.1] 27]) (λz=>z.1<=m/\HUp w H0 z.2.1/\∃ (gs:List Fm) (rest:List Nf),gs.length=z.1/\eD z.2.1 7 (gs.map (dFm .i64)) z.2.2.2.1/\(∀ g∈gs,gdF g=true)/\Fm.counts gs+1010 * rest.length+1010<=1010 * l.length+gs.length/\Rep z.2.1 (.seq 8 (rest.map dNf)) [z.2.2.2.2]) (λz=>m - z.1) (0,H0,.slice none 0 0,[],_) (λ_ s=>s) ⟨Z,Z,Jt⟩ ⟨by simp,.refl,[],l.drop 1,Z,eD.nil,(λg hg=>by cases hg),(by rw [Fm.counts,cW,aM];omega),(by have h5:=TB h (lo:=1) (by omega);rw [<-yY] at h5;exact h5.up u0.up)⟩ λz hC=>?_
  obtain ⟨k,H1,r,xs,rv⟩:=z;dsimp only at hC|-;obtain ⟨hk0,u1,gs,rest,hlen,hz,hgs,hcn,hrs⟩:=hC;refine .sq<|.sm Z<|.mv Z<|.yw (.lss Z Z)<|.nt<|.ce Z (λh47=>?_) (λh47=>?_)
  ·have hk:k<m:=by omega
   refine .sk<|.tN<|.sq<|.bk<|.sm Z<|.mv Z<|.yw (.add Z Z w7)<|.ct (X:=List Value × Value) OX Z (λW s=>ih (f - 1) (by omega) (d+1) (by omega) H1 _ _ W hrs s.agr) Z λy2 H2 hc2 u2=>?_
   obtain ⟨x2,y2⟩:=y2;obtain ⟨g2,rest2,hc2,hg2,hcn2,hrs2⟩:=hc2;dsimp only at hc2 hrs2|-;obtain ⟨op2,nm2,fd2,a2,b2,ex2,as2⟩:=g2;obtain ⟨p2,c2,q2,d2,rfl,_,_,_,_⟩:=iB hc2;refine .mv Z<|.yw (.extract Z Z)<|.yw (.extract Z Z)<|.al sL Z λb10=>.sW .head Z Z pD (by simp [Value.oneCell',cH,cNf]) Z<|.aq Z<|.rg<|.fA Z zX<|.lD Z VV lR Z<|.yw (.loadW Z qJ Hm Z)<|.bl Z (YS _ _ _ _ _ _ _) Z λb60=>.ap (news:=[.int .i64 op2.toNat,cH nm2,cH fd2,.int .i64 a2.toInt,.int .i64 b2.toInt,.slice p2 ex2.length c2,.slice q2 as2.length d2]) bA4 Z (λ_=>mD) Z (.box Hm z0) Z (by simp [Value.oneCell',cH]) (by simp [maxLen];omega) (by omega) Z λr61 _=>?_
   refine At.ra (by first | exact .tail _ (.tail _ Hm) | exact .tail _ (.tail _ (.tail _ Hm))) λp61 c61 e61=>?_;exact .mv Z<|.fA Z zX<|.st mP Z Z aI6 (by rw [e61];rfl) (nb Z) Z<|.a Z Z<|.nl<|.bN<|.tN<|.rg<|.mv Z<|.yw (.add Z Z w7)<|.aq Z<|.ag (x:=(k,H1,r,xs,rv)) (k+1,H2,r61,xs++[.int .i64 op2.toNat,cH nm2,cH fd2,.int .i64 a2.toInt,.int .i64 b2.toInt,.slice p2 ex2.length c2,.slice q2 as2.length d2],y2) ⟨Z,Z,Jt⟩ ⟨Z,Z,Z,Z,Jt⟩ (λ_ s=>(s.pick [2,3,4,5] _ Z Z)) ⟨by dsimp only;omega,u1.trans u2,gs++[.mk op2 nm2 fd2 a2 b2 ex2 as2],rest2,by simp;omega,by rw [bV];exact (hz.up u2.up).snoc hc2 Z,(λg hg=>by rcases cC.1 hg with h | h;exact hgs g h;rw [bQ.1 h];exact hg2),(by rw [fD,Fm.counts,Fm.counts,aF];simp only [aJ,aM];omega),hrs2⟩ (by dsimp only;omega)
  obtain rfl:k=m:=by omega
  refine At.ra Hm λp61 c61 e61=>?_;subst e61;refine .ex<|.eb<|.sr<|.yw (.loadW Z qJ cP Z)<|.mv Z<|.sW mP Z Z pD (by simp [Value.oneCell',cH,cNf]) Z<|.az Z<|?_
  refine At.pm [0,3] [_,_] rfl rfl ?_;refine mM (ds:=gs.map (dFm .i64)) (by simp;omega) hz λH3 p3 c3 u3 hr3 hs3=>?_;refine y7 Z (.cons (.cell Z qJ Hm rfl) (.cons (.tmp Z) .nil)) rfl λW s=>⟨(_,_),H3,⟨.mk op nm fd a b ex gs,rest,CB (k:=.i64) (by omega) (by omega) ((hsX.up u1.up).up u3.up) hs3,?_,?_,hrs.up u3.up⟩,Z,((u0.trans u1).trans u3).grow s⟩
  ·exact XJ.2 ⟨⟨by omega,hexl,by omega,hge⟩,hgs⟩
  ·rw [nS];omega
def bT2 (x:List Value) (H':Hp):Prop:=∃ g:Fm,Rep H' (dFm .i64 g) x/\gdF g=true/\g.count<=40000
theorem GD (H:Hp) (l:List Nf) (v:Value) (h0:Rep H (.seq 8 (l.map dNf)) [v]) (w:World) (hA:Agr H w) :
 Calls prg 14 #[v] w λr w'=>∃ (x:List Value) (H':Hp),bT2 x H'/\r=.returned (.agg x.toArray)/\xF H w H' w':=by
 obtain ⟨p,c,e,_⟩:=h0.sl;simp only [fT,oH,bJ] at e;subst e;have h:=h0;have hcap:=h.cap;refine Sx.enter (H:=H) func14 rfl ntmps14 rfl hA ?_;refine .sr<|.al sL Z λb2=>.ns<|.mv Z<|.mv Z<|.yw (.lenSl GI Z)<|.yw (.min2 Z Z (c:=((min l.length 30:Nat):Int)) (by omega))<|.yw (.cutHi2 GI Z Z (h:=min l.length 30) Z (by have:=h.len.2.1;omega))<|.ct (X:=List Value × Value) OX Z (λW s=>VH 12 1 Z H (l.take (min l.length 30)) _ W (by rw [yX];exact NM h (by omega)) s.agr) Z λy H1 hc u1=>?_
 obtain ⟨x,y⟩:=y;obtain ⟨e,rest,hx,hg,hcn,_⟩:=hc;dsimp only at hx;rw [fI] at hcn;refine .mv Z<|.yw (.extract Z Z)<|.yw (.extract Z Z)<|.al sL Z λb3=>.sV .head Z Z pD (pO hx) hx.one Z<|.a Z Z<|.ns<|.yw (.loadW Z qJ Hm (pO hx))<|.sV kP Z Z pD (pO hx) hx.one Z<|.nt<|.rt<|?_
 exact y8 Z (.cell Z qJ cP (pO hx)) λW t=>⟨x,H1,⟨e,hx,hg,by omega⟩,Z,u1.grow t⟩
theorem ZW {e:Ex} (h:gdE e=true):Ex.all uY e=true:=by
 unfold gdE at h;rw [aE] at h;exact h.2
variable {k:Nat}
theorem WM {l:List Fm} (h:k<l.length):l.take (k+1)=l.take k++[l[k]]:=by rw [List.take_succ,List.getElem?_eq_getElem h];rfl
theorem bW4 (f:Fm):∃ o n d a b e r,f=.mk o n d a b e r:=by
 obtain ⟨o,n,d,a,b,e,r⟩:=f;exact ⟨o,n,d,a,b,e,r,Z⟩
def bS9 (g:Fm):Prop:=gdF g=true->∀ (H:Hp) (cs:List Value) (w:World),Rep H (dFm .i64 g) cs->Agr H w ->
 Calls prg 16 #[.agg cs.toArray] w λr w'=>∃ x H',Rep H' (dFm .u8 g) x/\r=.returned (.agg x.toArray)/\xF H w H' w'
set_option maxHeartbeats 1000000 in
theorem UU (g:Fm):bS9 g:=by
 induction g using Fm.ind with | _ op nm fd a b ex args ih
 intro hgd H cs w h hA;obtain ⟨⟨hop,hexl,hal,hge⟩,hga⟩:=XJ.1 hgd;obtain ⟨p1,c1,p2,c2,rfl,hs1,hs2,hnm,hfd⟩:=iB h;have hcap1:=hs1.cap;have hcap2:=hs2.cap;refine Sx.enter (H:=H) func16 rfl ntmps16 rfl hA ?_;refine .sr<|.bx Z Z Z λb1=>.al dX Z λb2=>.ns<|.fA Z qT<|.lD Z cS cP Z<|.yw (.conv Z lI VP (c:=(op.toNat:Nat)) (by have:=op.toNat_lt;simp only [IntKind.wrap,IntKind.signed,IntKind.bits];simp;omega))<|.fA Z AB<|.lD Z cZ cP Z<|.fA Z AA<|.lD Z cZ cP Z<|.fA Z zZ<|.lD Z cS cP Z<|.fA Z zY<|.lD Z cS cP Z<|.yw (.build Z (EK _ _ _ _ _))<|.al dX Z λb3=>.sX .head Z Z cV Z<|.nt<|.sq<|.sq<|?_
 refine Sx.row0 76 4 ?_;refine .rg<|.fA Z mV<|.lD Z yV pY Z<|.yw (.lenSl CH Z)<|.mv Z<|.nt<|.bk<|.pm [1,0,2,3] [_,_,_,_] Z Z<|.lp (X:=Nat × Hp × Value × List Value) [(1,_),(2,_),(3,_),(21,_),(22,_)] ⟨Z,Z,Z,Z,Z,Jt⟩ [_,_] (λz=>[(23,iN z.1)]) (λz=>z.2.1) (λz=>[.box b3 [.int .u8 op.toNat,cH nm,cH fd,.int .i64 a.toInt,.int .i64 b.toInt,z.2.2.1,.slice none 0 0] 35,.row 76 4 z.2.2.1 z.1 z.2.2.2]) (λz=>z.1<=ex.length/\HUp w H z.2.1/\eD z.2.1 4 ((ex.take z.1).map (dEx .u8)) z.2.2.2) (λz=>ex.length - z.1) (0,H,.slice none 0 0,[]) (λ_ s=>s) ⟨Z,Jt⟩ ⟨by simp,.refl,eD.nil⟩ λz hC=>?_
 obtain ⟨k,H1,r,xs⟩:=z;dsimp only at hC|-;obtain ⟨hk0,u1,hz⟩:=hC;refine .sr<|.yw (.lss Z Z)<|.nt<|.sq<|.ce Z (λh24=>?_) (λh24=>?_)
 ·have hk:k<ex.length:=by omega
  obtain ⟨bE,oE,cE,hpE,rE,lE,mE⟩:=(hs1.up u1.up).elem (kN (f:=dEx .i64) hk);cases hpE;have hnr:=ZW (hge _ (bU hk));refine .sk<|.tN<|.sq<|.bk<|.sr<|.yw (.indexSl CH Z Z Z (by omega) (q:=oE+k * 4) Z)<|.yw (.loadMW Z jZ mE lE)<|.al pC Z λb5=>.sV .head Z Z lO lE rE.one Z<|.nt<|.fL 5 [(0,0),(1,0),(2,0),(3,1),(4,1)]<|.fA Z cK<|.lD Z dE cP Z<|.yw (.loadW Z jZ Hm lE)<|.ct (X:=List Value) OV Z (λW s=>aW5 _ hnr H1 cE W rE s.agr) Z λx2 H2 hc2 u2=>?_
  obtain ⟨op2,nm2,n2,oD,hx⟩:=OA (ex[k]);rw [hx] at hc2;obtain ⟨p2,c2,rfl,hs2,hnm2⟩:=iM hc2;refine .bl Z (nE _ _ _ _) Z λb31=>.fn (tl:=[_,_,_]) Z<|.ap (news:=[.int .u8 op2.toNat,cH nm2,.int .i64 n2.toInt,.slice p2 oD.length c2]) uS Z (λ_=>mP) Z (.box Hm z0) Z (by simp [Value.oneCell',cH]) (by simp [maxLen];omega) (by omega) Z λr32 _=>?_
  refine At.ra pY λp32 c32 e32=>?_;exact .fA Z cK<|.st mD Z Z mO (by rw [e32];rfl) (nb Z) Z<|.nl<|.bN<|.tN<|.rg<|.yw (.add Z Z w7)<|.mv Z<|.nt<|.ag (x:=(k,H1,r,xs)) (k+1,H2,r32,xs++[.int .u8 op2.toNat,cH nm2,.int .i64 n2.toInt,.slice p2 oD.length c2]) ⟨Z,Jt⟩ ⟨Z,Z,Z,Z,Z,Jt⟩ (λ_ s=>(s.pick [2,3,4,5] _ Z Z)) ⟨by dsimp only;omega,u1.trans u2,by dsimp only;rw [tT hk,bV,hx];exact (hz.up u2.up).snoc hc2 Z⟩ (by dsimp only;omega)
 obtain rfl:k=ex.length:=by omega
 rw [dD] at hz;refine At.ra (.tail _ Hm) λp32 c32 e32=>?_;subst e32;obtain ⟨HX,hHX⟩:∃ h,h=H1:=⟨_,Z⟩;rw [<-hHX] at u1 hz|-;have uX:=u1;have hzX:=hz;clear u1 hz hHX;refine .ex<|.eb<|.sq<|.sq<|?_
 refine Sx.row0 35 7 ?_;refine .rg<|.fA Z zX<|.lD Z VV uZ Z<|.yw (.lenSl aC2 Z)<|.mv Z<|.nt<|.bk<|.pm [1,0,2,3,4] [_,_,_,_,_] Z Z<|.lp (X:=Nat × Hp × Value × List Value) [(2,_),(3,_),(36,_),(37,_)] ⟨Z,Z,Z,Z,Jt⟩ [_,_,_] (λz=>[(38,iN z.1)]) (λz=>z.2.1) (λz=>[.box b3 [.int .u8 op.toNat,cH nm,cH fd,.int .i64 a.toInt,.int .i64 b.toInt,.slice p32 ex.length c32,z.2.2.1] 35,.row 35 7 z.2.2.1 z.1 z.2.2.2]) (λz=>z.1<=args.length/\HUp w HX z.2.1/\eD z.2.1 7 ((args.take z.1).map (dFm .u8)) z.2.2.2) (λz=>args.length - z.1) (0,HX,.slice none 0 0,[]) (λ_ s=>s) ⟨Z,Jt⟩ ⟨by simp,.refl,eD.nil⟩ λz hC=>?_
 obtain ⟨k,H1,r,xs2⟩:=z;dsimp only at hC|-;obtain ⟨hk0,u1,hz⟩:=hC;refine .sr<|.yw (.lss Z Z)<|.nt<|.sq<|.ce Z (λh39=>?_) (λh39=>?_)
 ·have hk:k<args.length:=by omega
  obtain ⟨bE,oE,cE,hpE,rE,lE,mE⟩:=((hs2.up uX.up).up u1.up).elem (kN (f:=dFm .i64) hk);cases hpE;refine .sk<|.tN<|.sq<|.bk<|.sr<|.yw (.indexSl aC2 Z Z Z (by omega) (q:=oE+k * 7) Z)<|.yw (.loadMW Z qJ mE lE)<|.al sL Z λb7=>.sV .head Z Z pD lE rE.one Z<|.nt<|.fL 5 [(0,0),(1,0),(2,0),(3,1),(4,1)]<|.fA Z cU<|.lD Z eU cP Z<|.yw (.loadW Z qJ Hm lE)<|.ct (X:=List Value) HU Z (λW s=>ih _ (bU hk) (hga _ (bU hk)) H1 cE W rE s.agr) Z λx2 H2 hc2 u2=>?_
  obtain ⟨op2,nm2,fd2,a2,b2x,ex2,as2,hx⟩:=bW4 (args[k]);rw [hx] at hc2;obtain ⟨p2,c2,q2,d2,rfl,_,_,_,_⟩:=iB hc2;refine .bl Z (qH _ _ _ _ _ _ _) Z λb46=>.fn (tl:=[_,_,_]) Z<|.ap (news:=[.int .u8 op2.toNat,cH nm2,cH fd2,.int .i64 a2.toInt,.int .i64 b2x.toInt,.slice p2 ex2.length c2,.slice q2 as2.length d2]) rW Z (λ_=>mP) Z (.box Hm z0) Z (by simp [Value.oneCell',cH]) (by simp [maxLen];omega) (by omega) Z λr47 _=>?_
  refine At.ra pY λp47 c47 e47=>?_;exact .fA Z cU<|.st mD Z Z CJ (by rw [e47];rfl) (nb Z) Z<|.nl<|.bN<|.tN<|.rg<|.yw (.add Z Z w7)<|.mv Z<|.nt<|.ag (x:=(k,H1,r,xs2)) (k+1,H2,r47,xs2++[.int .u8 op2.toNat,cH nm2,cH fd2,.int .i64 a2.toInt,.int .i64 b2x.toInt,.slice p2 ex2.length c2,.slice q2 as2.length d2]) ⟨Z,Jt⟩ ⟨Z,Z,Z,Z,Jt⟩ (λ_ s=>(s.pick [2,3,4,5,6] _ Z Z)) ⟨by dsimp only;omega,u1.trans u2,by dsimp only;rw [WM hk,bV,hx];exact (hz.up u2.up).snoc hc2 Z⟩ (by dsimp only;omega)
 obtain rfl:k=args.length:=by omega
 rw [dD] at hz;refine At.ra (.tail _ Hm) λp47 c47 e47=>?_;subst e47;refine .ex<|.eb<|.sr<|.yw (.loadW Z bZ Hm Z)<|.sX mP Z Z cV Z<|.nt<|.rt<|?_
 refine At.pm [2,1,3] [_,_,_] rfl rfl ?_;refine mM (ds:=ex.map (dEx .u8)) (bJ ..) (hzX.up u1.up) λH3 p3 c3 u3 hr3 hs3=>?_;refine mM (ds:=args.map (dFm .u8)) (bJ ..) (hz.up u3.up) λH4 p4 c4 u4 hr4 hs4=>?_;refine y8 Z (.cell Z bZ Hm rfl) λW s=>⟨_,H4,CB hnm hfd (hs3.up u4.up) hs4,Z,(((uX.trans u1).trans u3).trans u4).grow s⟩
end Go.Proofs.YtidclioghdbphaaGreatDoor
namespace Go.Proofs.YtidclioghdbphaaGreatDoor
open Go.RowKit Go.Par Go.Sx _root_.Go.Proofs.Tryz
variable {N:Nat}
theorem bQ6 (hN:3<=N) (e:Ex) (h:Ex.all uY e=true):blE N e=true:=by
 induction e using Ex.ind with | _ op nm n args ih
 rw [nT,tV,aE,aD,mN,aW] at h;exact BN.2 ⟨by omega,λa ha=>ih a ha (h.2 a ha)⟩
theorem BG (hN:4<=N) (f:Fm) (h:gdF f=true):blF N f=true:=by
 induction f using Fm.ind with | _ op nm fd a b ex args ih
 obtain ⟨⟨_,h1,h2,h3⟩,h4⟩:=XJ.1 h;exact vD.2 ⟨⟨by omega,by omega,λe he=>bQ6 (by omega) e (ZW (h3 e he))⟩,λg hg=>ih g hg (h4 g hg)⟩
theorem BZ (H:Hp) (f:Fm) (hb:blF 4 f=true) (hc:f.count<=1000000) (cs:List Value) (w:World) (h:Rep H (dFm .u8 f) cs) (hA:Agr H w):Calls prg 22 #[.agg cs.toArray] w λr w'=>r=.returned (iN f.count)/\Ext w w':=by
 obtain ⟨op,nm,fd,a,b,ex,args⟩:=f;obtain ⟨p1,c1,p2,c2,rfl,hs1,hs2,hnm,hfd⟩:=iB h;have hcap1:=hs1.cap;have hcap2:=hs2.cap;refine Sx.enter (H:=H) func22 rfl ntmps22 rfl hA ?_;refine .sr<|.bx Z Z Z λb1=>.a Z Z<|.ns<|.yw (.loadW Z bZ Hm Z)<|.yw (.call OW Z (λW s=>OD H (.mk op nm fd a b ex args) 9223372036854775807 4 (by decide) hb (.inl (by omega)) (.inr (by omega)) (by decide) _ W h s.agr))<|.az Z<|?_
 exact y9 Z Z λW s=>⟨by rw [show min (Fm.count (.mk op nm fd a b ex args)) (9223372036854775807+1)=Fm.count (.mk op nm fd a b ex args) by omega],s.ext⟩
structure Jw where
 o:UInt8
 a:Int64
 b:Int64
def jws:List Jw:=[⟨9,0,0⟩,⟨10,0,0⟩,⟨11,0,0⟩,⟨15,0,-1⟩,⟨15,1,4⟩]
def Jw.f (j:Jw) (f g:Fm):Fm:=.mk j.o [] [] j.a j.b [] [f,g]
def Jw.t (j:Jw):Str:=gA j.o++rO (.mk j.o [] [] j.a j.b [] [])
def Jw.q (j:Jw):List Kt:=(2,gA j.o)::uV (.mk j.o [] [] j.a j.b [] [])
theorem UG {j:Jw} (h:j∈jws):(j.o=9\/j.o=10\/j.o=11)/\j.a=0/\j.b=0\/j.o=15/\bnW j.a j.b:=by
 simp only [jws,bM,List.not_mem_nil,or_false] at h;rcases h with rfl | rfl | rfl | rfl | rfl
 ·exact .inl ⟨.inl Z,Z,Z⟩
 ·exact .inl ⟨.inr (.inl Z),Z,Z⟩
 ·exact .inl ⟨.inr (.inr Z),Z,Z⟩
 ·exact .inr ⟨Z,.inl ⟨Z,Z⟩⟩
 ·exact .inr ⟨Z,.inr (by decide)⟩
def LR (j:Jw) (f g:Fm):Str:=[40,40]++(fmT f++([41,41,32]++(j.t++([32,40]++(fmT g++[41])))))
def bJ8 (j:Jw) (f g:Fm):List Kt:=(4,[40])::((4,[40])::(tqF f++[(4,[41])])++[(4,[41])])++(j.q++((4,[40])::(tqF g++[(4,[41])])))
variable {r:Str} {ks:List Kt}
theorem bP1 {j:Jw} (h:j∈jws) (hr:rH r) (hk:Lx r ks):Lx (rO (.mk j.o [] [] j.a j.b [] [])++r) (uV (.mk j.o [] [] j.a j.b [] [])++ks)/\rH (rO (.mk j.o [] [] j.a j.b [] [])++r):=by
 rcases UG h with ⟨ho,_,_⟩ | ⟨_,hw⟩
 ·have e:(cJ j.o).wn=false:=by rcases ho with e | e | e <;> rw [e] <;> rfl
  have e1:rO (.mk j.o [] [] j.a j.b [] [])=[]:=by unfold rO;exact aL (by show (!(cJ j.o).wn || _)=true;rw [e];rfl)
  have e2:uV (.mk j.o [] [] j.a j.b [] [])=[]:=by unfold uV;exact aL (by show (!(cJ j.o).wn || _)=true;rw [e];rfl)
  rw [e1,e2];exact ⟨hk,hr⟩
 ·exact XD hw hr hk
theorem bJ6 {j:Jw} (h:j∈jws) {f g:Fm} (hf:fN f=0) (hg:fN g=0):(wM (LR j f g)).map kt=bJ8 j f g:=by
 obtain ⟨_,_,fn,ff⟩:=oY hf;obtain ⟨_,_,gn,gf⟩:=oY hg;obtain ⟨k1,k2⟩:=bL3 g gf gn [41] [(4,[41])] BM (.sy (by decide) (λc e=>(by cases e)) .nil);have k3:Lx (32::40::(fmT g++[41])) ((4,[40])::(tqF g++[(4,[41])])):=.sp (.sy (by decide) k2 k1);obtain ⟨k4,k5⟩:=bP1 h iE k3
 have hw:gA j.o∈words:=by
  rcases UG h with ⟨ho,_,_⟩ | ⟨ho,_⟩
  ·rcases ho with e | e | e <;> rw [e] <;> decide
  ·rw [ho];decide
 have k6:=Lx.kw hw k5 k4
 have k7:Lx (41::41::32::(gA j.o++(rO (.mk j.o [] [] j.a j.b [] [])++(32::40::(fmT g++[41]))))) ((4,[41])::(4,[41])::(2,gA j.o)::(uV (.mk j.o [] [] j.a j.b [] [])++(4,[40])::(tqF g++[(4,[41])]))) :=
  .sy (by decide) (fC (by decide)) (.sy (by decide) iE.hd (.sp k6))
 obtain ⟨k8,k9⟩:=bL3 f ff fn _ _ BM k7;have k10:Lx (40::40::(fmT f++(41::41::32::(gA j.o++(rO (.mk j.o [] [] j.a j.b [] [])++(32::40::(fmT g++[41]))))))) _:=.sy (by decide) (fC (by decide)) (.sy (by decide) k9 k8)
 have e1:LR j f g=40::40::(fmT f++(41::41::32::(gA j.o++(rO (.mk j.o [] [] j.a j.b [] [])++(32::40::(fmT g++[41])))))):=by
  unfold LR Jw.t;simp only [aZ,aT,bW]
 have e2:bJ8 j f g=(4,[40])::(4,[40])::(tqF f++((4,[41])::(4,[41])::(2,gA j.o)::(uV (.mk j.o [] [] j.a j.b [] [])++(4,[40])::(tqF g++[(4,[41])])))):=by
  unfold bJ8 Jw.q;simp only [aZ,aT,bW]
 rw [e1,e2];exact k10.lex
theorem bV2 {j:Jw} (h:j∈jws):(1<=(cJ j.o).lv/\(cJ j.o).lv<=4)/\joW (cJ j.o).lv=gA j.o/\¬ j.o=4/\∀ x∈cuL,(cJ j.o).lv+1<=x.1->¬ gA j.o=x.2:=by
 rcases UG h with ⟨ho,_,_⟩ | ⟨ho,_⟩
 ·rcases ho with e | e | e <;> rw [e] <;> decide
 ·rw [ho];decide
section
variable {l:Tks} {r r' ra m:Rq}
theorem bE9 {f:Fm} (hf:Fm.all jX f=true) (hn:Fm.all tM f=true) (s:Sps l r ((4,[40])::((4,[40])::(tqF f++[(4,[41])])++[(4,[41])])) r'):Rl l 10 r (ndF f) r' :=
 KM s λm sm hm=>(KM sm λm' sm' hm'=>aV3 hf hn (aX 1) (aV2 hf) sm' hm').at (oK sm).2 (aX 1) (by decide) (by decide) hm
theorem bS3 {j:Jw} (h:j∈jws) {f g:Fm} (hf:fN f=0) (hg:fN g=0) (s:Sps l r (bJ8 j f g) r') (hx:Nx l 1 r'):Gd l (.lev 1) r (ndF (j.f f g)) false r':=by
 obtain ⟨_,_,fn,ff⟩:=oY hf;obtain ⟨_,_,gn,gf⟩:=oY hg;obtain ⟨⟨l1,l4⟩,hw,h4,hcu⟩:=bV2 h;obtain ⟨ra,s1,s2⟩:=lC s;obtain ⟨t0,s2⟩:=s2;obtain ⟨rb,s3,s4⟩:=lC s2;have hxa:Nx l ((cJ j.o).lv+1) ra:=.tok t0 hcu;have A:=(bE9 ff fn s1).to t0.1 l1 (by omega) (aX _) hxa (λ_=>hxa.up (by omega));have B0:=KM s4 λm sm hm=>aV3 gf gn (aX 1) (aV2 gf) sm hm;have B:=B0.at (oK s4).2 (j:=(cJ j.o).lv+1) (by omega) (by omega) (aX _) (hx.up (by omega));have t1:rb.er=0/\kt (tkf l rb.i)=(4,[40]):=s4.1
 have key:ra.jnS l (cJ j.o).lv=rb/\ra.jnF l (cJ j.o).lv=.mk j.o [] [] j.a j.b [] []:=by
  rcases UG h with ⟨ho,ha,hb⟩ | ⟨ho,hwn⟩
  ·have e3:¬ (cJ j.o).lv=4/\UInt8.ofNat (12 - (cJ j.o).lv)=j.o/\(cJ j.o).wn=false:=by rcases ho with e | e | e <;> rw [e] <;> decide
   have e2:uV (.mk j.o [] [] j.a j.b [] [])=[]:=by unfold uV;exact aL (by show (!(cJ j.o).wn || _)=true;rw [e3.2.2];rfl)
   rw [e2] at s3;obtain ⟨_,rfl⟩:=s3;unfold Rq.jnS Rq.jnF;rw [aG e3.1,aG e3.1,e3.2.1,ha,hb];exact ⟨Z,Z⟩
  ·have e3:(cJ j.o).lv=4/\(cJ j.o).wn=true:=by rw [ho];decide
   obtain ⟨w1,w2,w3⟩:=VZ hwn e3.2 s3 (λe=>by rw [e];exact bA1 t1 (by decide));unfold Rq.jnS Rq.jnF Rq.wiV;rw [aL e3.1,aL e3.1,w1,w2,w3,ho];exact ⟨Z,Z⟩
 exact (aT2 ⟨l1,l4⟩ A (by rw [hw];exact t0) key.2 (by rw [key.1];exact B) h4).at (oK s4).2 (aX 1) l1 (by omega) hx
end
theorem bP2 {j:Jw} (h:j∈jws) {f g:Fm} (hf:fN f=0) (hg:fN g=0):fN (j.f f g)=if 60<f.count+g.count+1 then 3 else 0:=by
 obtain ⟨_,fs,fn,ff⟩:=oY hf;obtain ⟨_,gs,gn,gf⟩:=oY hg
 have e1:(j.f f g).count=f.count+g.count+1:=by
  unfold Jw.f;rw [nS,Fm.counts,Fm.counts,Fm.counts,Ex.counts];omega
 have e2:Fm.all uM (j.f f g)=true:=by
  unfold Jw.f;rw [oN,eE,eE,fs,gs];rfl
 have e3:Fm.all tM (j.f f g)=true:=by
  unfold Jw.f;rw [oN,eE,eE,fn,gn]
  have:tM (.mk j.o [] [] j.a j.b [] [f,g])=true:=by
   show (!((cJ j.o).nm && _ || (cJ j.o).fd && _) && _)=true;rcases UG h with ⟨ho,_,_⟩ | ⟨ho,_⟩
   ·rcases ho with e | e | e <;> rw [e] <;> rfl
   ·rw [ho];rfl
  rw [this];rfl
 have e4:Fm.all jX (j.f f g)=true:=by
  unfold Jw.f;rw [oN,eE,eE,ff,gf]
  have:jX (.mk j.o [] [] j.a j.b [] [f,g])=true:=by
   obtain ⟨o,a,b⟩:=j;simp only [jws,bM,List.not_mem_nil,or_false] at h;rcases h with h | h | h | h | h <;> (cases h;rfl)
  rw [this];rfl
 unfold fN;rw [e1,e2,e3,e4]
 by_cases hc:60<f.count+g.count+1
 ·rw [aL (.inl hc),aL hc]
 ·rw [aG (by rintro (e | e);exact hc e;cases e),aG hc];rfl
theorem bJ5 {j:Jw} (h:j∈jws) {f g:Fm} (hf:fN f=0) (hg:fN g=0):AO (nN (LR j f g))=if 60<f.count+g.count+1 then (zF,0,3) else (j.f f g,0,0):=by
 have hk:=bJ6 h hf hg;obtain ⟨s,e⟩:=YZ hk;have gd:=bS3 h hf hg s (.fin e);rw [bE7 hk gd,(CX _).1,(CX _).2,aG (by decide),bP2 h hf hg]
 split
 ·rw [aL (by decide)]
 ·rw [aG (by decide)]
def jwT:List Str:=[[97,110,100],[111,114],[105,109,112,108,105,101,115],[115,105,110,99,101],[115,105,110,99,101,91,49,44,32,52,93]]
theorem bP3:∀ i,i<5->jwT.getD i []=(jws.getD i ⟨0,0,0⟩).t/\jws.getD i ⟨0,0,0⟩∈jws
 | 0,_=>⟨by kernel_rfl,by simp [jws]⟩
 | 1,_=>⟨by kernel_rfl,by simp [jws]⟩
 | 2,_=>⟨by kernel_rfl,by simp [jws]⟩
 | 3,_=>⟨by kernel_rfl,by simp [jws]⟩
 | 4,_=>⟨by kernel_rfl,by simp [jws]⟩
 | n+5,h=>by omega
theorem YP (x0 x1 x2 x3 x4:ByteArray):yA prg 71 5 [(0,.string x0),(1,.string x1),(2,.string x2),(3,.string x3),(4,.string x4)]=some (9,[.string x0,.string x1,.string x2,.string x3,.string x4]):=by kernel_rfl
variable {i:Nat}
theorem aS8 (h:i<5):(jwT.map cH)[i]? = some (cH (jwT.getD i [])):=zI (f:=cH) (l:=jwT) h []
theorem bG6 (h:i<5):(jwT.getD i []).length<=20:=PQ (l:=jwT) (by decide) _
theorem bJ7 {j:Jw} {f g:Fm} (h1:(fmT f).length<=24000) (h2:(fmT g).length<=24000) (h3:j.t.length<=20):(LR j f g).length<=400000:=by
 unfold LR;simp only [aF,aJ,aM];omega
theorem aY1 {j:Jw} {f g g0:Fm} {o e:Nat} (h:(if 60<f.count+g.count+1 then (zF,0,3) else (j.f f g,0,0))=(g0,o,e)) (he:¬ e=0):60<f.count+g.count+1/\o=0/\e=3:=by
 split at h
 ·rename_i k;cases h;exact ⟨k,Z,Z⟩
 ·cases h;exact absurd rfl he
theorem aY2 {j:Jw} {f g:Fm} {op0:UInt8} {nm0 fd0:Str} {a0 b0:Int64} {ex0:List Ex} {args0:List Fm} {o e:Nat} (h:(if 60<f.count+g.count+1 then (zF,0,3) else (j.f f g,0,0))=(Fm.mk op0 nm0 fd0 a0 b0 ex0 args0,o,e)) (he:e=0):args0=[f,g]:=by
 split at h
 ·injection h with h1 h2
  injection h2 with h3 h4
  omega
 ·injection h with h1 h2
  unfold Jw.f at h1;injection h1 with i1 i2 i3 i4 i5 i6 i7
  exact i7.symm
set_option maxHeartbeats 4000000 in
theorem CS (H:Hp) (GL:Gl H) (G:Gf H) (gq:Gq H) (l m:List Nf) (op:UInt8) (v u:Value) (h:Rep H (.seq 8 (l.map dNf)) [v]) (k:Rep H (.seq 8 (m.map dNf)) [u]) (w:World) (hA:Agr H w) :
 Calls prg 12 #[v,u,.int .u8 op.toNat] w λr w'=>r=.returned (.bool true)/\Ext w w':=by
 refine Sx.enter (H:=H) func12 rfl ntmps12 rfl hA ?_;refine .sr<|.aq Z<|.sq<|.sr<|.yw (.call aK5 Z (λW s=>aH6 H GL G gq W s.agr))<|.yw (.not Z)<|.nt<|.cF Z<|.sk<|.tN<|.sm Z<|.ct (X:=List Value) OZ Z (λW s=>GD H l v h W s.agr) Z λx1 H1 hx1 u1=>?_
 obtain ⟨f1,r1,hg1,hct1⟩:=hx1;have k1:=k.up u1.up;refine .ct (X:=List Value) HU Z (λW s=>UU f1 hg1 H1 _ W r1 s.agr) Z λx2 H2 hx2 uH2=>?_;have k2:=k1.up uH2.up;refine .mv Z<|.ct (X:=List Value) OZ Z (λW s=>GD H2 m u k2 W s.agr) Z λx3 H3 hx3 uH3=>?_
 obtain ⟨f2,r3,hg2,hct2⟩:=hx3;refine .ct (X:=List Value) HU Z (λW s=>UU f2 hg2 H3 _ W r3 s.agr) Z λx4 H4 hx4 uH4=>?_;replace hx2:=hx2.up (uH3.trans uH4).up;refine .al dX Z λb7=>.al dX Z λb8=>.sV kP Z Z cV (pO hx2) hx2.one Z<|.sV .head Z Z cV (pO hx4) hx4.one Z<|.nt<|.sq<|.sr<|.yw (.loadW Z bZ cP (pO hx2))<|.yw (.call yS Z (λW s=>wS H4 ((((GL.up u1.up).up uH2.up).up uH3.up).up uH4.up) ((((G.up u1.up).up uH2.up).up uH3.up).up uH4.up) f1 (BG (by decide) f1 hg1) _ W hx2 s.agr))<|.yw (.neq Z Z)<|.mv Z<|.b2 (λh24=>?_) (λh24=>?_)
 ·refine .gG<|.gG<|.gG<|.yw (.pickT Z Z)<|.nt<|.cT Z<|.sr<|.az Z<|.tR<|?_
  exact y9 Z Z λW s=>⟨Z,((((u1.trans uH2).trans uH3).trans uH4).grow s).ext⟩
 have hc1:fN f1=0:=by have:=aN h24;omega
 refine .gy (.loadW Z bZ Hm (pO hx4))<|.gy (.call yS Z (λW s=>wS H4 ((((GL.up u1.up).up uH2.up).up uH3.up).up uH4.up) ((((G.up u1.up).up uH2.up).up uH3.up).up uH4.up) f2 (BG (by decide) f2 hg2) _ W hx4 s.agr))<|.gy (.neq Z Z)<|.yw (.pickF Z Z)<|.nt<|.cd Z (λh28=>?_) (λh28=>?_)
 ·refine .sr<|.az Z<|.tR<|?_
  exact y9 Z Z λW s=>⟨Z,((((u1.trans uH2).trans uH3).trans uH4).grow s).ext⟩
 have hc2:fN f2=0:=by have:=aN h28;omega
 have hn1:=(oY hc1).1;have hn2:=(oY hc2).1;have hs1:=LE hc1;have hs2:=LE hc2;have hm5:op.toNat % 5<5:=uK _ (by omega);obtain ⟨hjt,hjm⟩:=bP3 _ hm5;have hwl:=bG6 hm5;rw [hjt] at hwl;have hbl:=bJ7 (f:=f1) (g:=f2) hs1 hs2 hwl;obtain ⟨g0,o0,e0,hp⟩:∃ g o e,AO (nN (LR (jws.getD (op.toNat % 5) ⟨0,0,0⟩) f1 f2))=(g,o,e):=⟨_,_,_,Z⟩;have hbp:=(bJ5 hjm hc1 hc2).symm.trans hp;refine .sk<|.tN<|.sr<|.bl Z (YP _ _ _ _ _) Z λb29=>?_
 refine CA λH5 u5 m5=>?_;have hx2a:=hx2.up u5.up;have hx4a:=hx4.up u5.up;refine .mv Z<|.yw (.rem Z Z (by decide) (c:=((op.toNat % 5:Nat):Int)) (by rw [cY (by omega)];omega))<|.yw (.indexSl aC1 Z Z (i:=op.toNat % 5) Z hm5 (q:=op.toNat % 5) (by omega))<|.yw (.loadM Z cZ m5 (k:=op.toNat % 5) (v:=cH (Jw.t (jws.getD (op.toNat % 5) ⟨0,0,0⟩))) (by omega) ((aS8 hm5).trans (by rw [hjt])))<|.aq Z<|.sq<|.ft (p:=.light _ _ (.light _ _ (.light _ _ (.light _ _ (.light _ _ (.light _ _ (.light _ _ (.light _ _ (.light _ _ (.light _ _ (.light _ _ (.alt _ _ _ (.light _ _ (.light _ _ (.light _ _ (.light _ _ (.alt _ _ _ (.alt _ _ _ (.light _ _ (.done)) (.no)) (.no)))))) (.alt _ _ _ (.alt _ _ _ (.light _ _ (.light _ _ (.light _ _ (.light _ _ (.alt _ _ _ (.light _ _ (.done)) (.no)))))) (.no)) (.no)))))))))))))) 19 (.light 0 (.light 1 (.light 2 (.light 3 (.light 4 (.light 5 (.light 6 (.light 7 (.light 8 (.light 9 (.light 10 (.alt 11 0 (.light 12 (.light 13 (.light 14 (.light 15 (.alt 16 0 (.alt 17 2 (.light 18 (.done)) (.no)) (.no)))))) (.alt 16 0 (.alt 11 0 (.light 12 (.light 13 (.light 14 (.light 15 (.alt 17 2 (.light 18 (.done)) (.no)))))) (.no)) (.no)))))))))))))) (by kernel_rfl) (by kernel_rfl) Z<|.yw (.loadW Z bZ cP (pO hx2))<|.yw (.cast (.call HT Z (λW s=>HF H5 (((((GL.up u1.up).up uH2.up).up uH3.up).up uH4.up).up u5.up) (((((G.up u1.up).up uH2.up).up uH3.up).up uH4.up).up u5.up) (((((gq.up u1.up).up uH2.up).up uH3.up).up uH4.up).up u5.up) f1 (BG (by decide) f1 hg1) _ W hx2a s.agr)) (congrArg cH (SR hc1)))<|.yw (.cast (v':=cH (([40,40]:Str)++fmT f1)) (.app (a:=([40,40]:Str)) Z Z (by simp only [aF,aJ,aM];omega)) Z)<|.yw (.cast (v':=cH ((([40,40]:Str)++fmT f1)++([41,41,32]:Str))) (.app (b:=([41,41,32]:Str)) Z Z (by simp only [aF,aJ,aM];omega)) Z)<|.mv Z<|.yw (.app Z Z (by simp only [aF,aJ,aM];omega))<|.yw (.cast (v':=cH (((([40,40]:Str)++fmT f1)++([41,41,32]:Str))++Jw.t (jws.getD (op.toNat % 5) ⟨0,0,0⟩)++([32,40]:Str))) (.app (b:=([32,40]:Str)) Z Z (by simp only [aF,aJ,aM];omega)) Z)<|.yw (.loadW Z bZ Hm (pO hx4))<|.yw (.cast (.call HT Z (λW s=>HF H5 (((((GL.up u1.up).up uH2.up).up uH3.up).up uH4.up).up u5.up) (((((G.up u1.up).up uH2.up).up uH3.up).up uH4.up).up u5.up) (((((gq.up u1.up).up uH2.up).up uH3.up).up uH4.up).up u5.up) f2 (BG (by decide) f2 hg2) _ W hx4a s.agr)) (congrArg cH (SR hc2)))<|.yw (.app Z Z (by simp only [aF,aJ,aM];omega))<|.yw (.cast (v':=cH (LR (jws.getD (op.toNat % 5) ⟨0,0,0⟩) f1 f2)) (.app (b:=([41]:Str)) Z Z (by simp only [aF,aJ,aM];omega)) (by unfold LR;simp only [aZ];rfl))<|.h ?_ (.h ?_ .nn)
 ·
  refine .ct (X:=List Value) CO Z (λW s=>NX H5 (((((GL.up u1.up).up uH2.up).up uH3.up).up uH4.up).up u5.up) (((((G.up u1.up).up uH2.up).up uH3.up).up uH4.up).up u5.up) (LR (jws.getD (op.toNat % 5) ⟨0,0,0⟩) f1 f2) g0 o0 e0 hbl hp W s.agr) Z λx6 H6 hx6 uH6=>?_;have hx2b:=hx2a.up uH6.up;have hx4b:=hx4a.up uH6.up;obtain ⟨op0,nm0,fd0,a0,b0,ex0,args0⟩:=g0;obtain ⟨p5,c5,p6,c6,rfl,hs5,hs6,_,_⟩:=iB hx6;refine .mv Z<|.yw (.extract Z Z)<|.yw (.extract Z Z)<|.yw (.extract Z Z)<|.h1<|.al dX Z λb10=>.h1<|.sW .head Z Z cV (Rep.one hx6) Z ((.yv (.extract Z Z)<|.yv (.extract Z Z)<|.d4<|.d4<|.d3<|.d2<|.nl))<|.a Z Z<|.fn (tl:=[_]) Z<|.aq Z<|.sq<|.sm Z<|.yw (.neq Z Z)<|.nt<|.cd Z (λh51=>?_) (λh51=>?_)
  ·have he:¬ e0=0:=λe=>aH h51 (by rw [e];rfl);obtain ⟨hbig,ho,he3⟩:=aY1 hbp he;refine .sq<|.fL 14 [(0,0),(1,0),(2,0),(3,0),(4,0),(5,0),(6,0),(7,0),(8,0),(9,0),(10,0),(11,0),(12,0),(13,0)]<|.mv Z<|.yw (.cast (.eql Z Z) (congrArg Value.bool (aR (by rw [he3];rfl))))<|.mv Z<|.yg Z Z (.move Z) Z<|.yg Z Z (.cast (.eql Z Z) (congrArg Value.bool (aR (by rw [ho];rfl)))) Z<|.yw (.pickT Z Z)<|.mv Z<|.yg Z Z (.loadW Z bZ lR (pO hx2)) Z<|.yg Z Z (.call CQ Z (λW s=>BZ H6 f1 (BG (by decide) f1 hg1) (by omega) _ W hx2b s.agr)) Z<|.yg Z Z (.loadW Z bZ cP (pO hx4)) Z<|.yg Z Z (.call CQ Z (λW s=>BZ H6 f2 (BG (by decide) f2 hg2) (by omega) _ W hx4b s.agr)) Z<|.yg Z Z (.add Z Z (w6 (by omega))) Z<|.yg Z Z (.cast (.geq Z Z) (congrArg Value.bool (aR (by omega)))) Z<|.yw (.pickT Z Z)<|.fn (tl:=[_]) Z<|.az Z<|.tR<|?_
   exact y9 Z Z λW s=>⟨Z,((((((u1.trans uH2).trans uH3).trans uH4).trans u5).trans uH6).grow s).ext⟩
  have he:e0=0:=by have:=aN h51;omega
  obtain rfl:=aY2 hbp he;obtain ⟨bE,oE,cE,hpE,rE,lE,mE⟩:=hs6.elem (i:=0) (d:=dFm .u8 f1) rfl;cases hpE;obtain ⟨bF,oF,cF,hpF,rF,lF,mF⟩:=hs6.elem (i:=1) (d:=dFm .u8 f2) rfl;cases hpF;refine .sk<|.tN<|.sq<|.fL 20 [(0,0),(1,0),(2,0),(3,0),(4,0),(5,0),(6,0),(7,0),(8,0),(9,0),(10,0),(11,0),(12,0),(13,0),(14,0),(15,0),(16,0),(17,0),(18,0),(19,0)]<|.fA Z cU<|.lD Z eU Hm Z<|.yw (.lenSl eG Z)<|.yw (.cast (.eql Z Z) (congrArg Value.bool (aR Z)))<|.mv Z<|.yg Z Z (.fieldAddr Z cU) Z<|.yg Z Z (.load Z eU Hm Z) Z<|.yg Z Z (.indexSl eG Z Z (i:=0) Z (Nat.succ_pos _) (q:=oE+0 * 7) Z) Z<|.yg Z Z (.loadMW Z bZ mE lE) Z<|.yg Z Z (.loadW Z bZ lR (pO hx2)) Z<|.yg Z Z (.cast (.call CP Z (λW s=>zP H6 f1 f1 4 (RO hc1) (by omega) (by decide) _ _ W rE hx2b s.agr)) (congrArg Value.bool (aS.2 Z))) Z<|.yw (.pickT Z Z)<|.mv Z<|.yg Z Z (.fieldAddr Z cU) Z<|.yg Z Z (.load Z eU Hm Z) Z<|.yg Z Z (.indexSl eG Z Z (i:=1) Z (cO 1) (q:=oE+1 * 7) Z) Z<|.yg Z Z (.loadMW Z bZ mF lF) Z<|.yg Z Z (.loadW Z bZ cP (pO hx4)) Z<|.yg Z Z (.cast (.call CP Z (λW s=>zP H6 f2 f2 4 (RO hc2) (by omega) (by decide) _ _ W rF hx4b s.agr)) (congrArg Value.bool (aS.2 Z))) Z<|.yw (.pickT Z Z)<|.fn (tl:=[_]) Z<|.az Z<|?_
  exact y9 Z Z λW s=>⟨Z,((((((u1.trans uH2).trans uH3).trans uH4).trans u5).trans uH6).grow s).ext⟩
 refine .al dX Z λb10=>.h1<|.ct (X:=List Value) CO Z (λW s=>NX H5 (((((GL.up u1.up).up uH2.up).up uH3.up).up uH4.up).up u5.up) (((((G.up u1.up).up uH2.up).up uH3.up).up uH4.up).up u5.up) (LR (jws.getD (op.toNat % 5) ⟨0,0,0⟩) f1 f2) g0 o0 e0 hbl hp W s.agr) Z λx6 H6 hx6 uH6=>?_
 have hx2b:=hx2a.up uH6.up;have hx4b:=hx4a.up uH6.up;obtain ⟨op0,nm0,fd0,a0,b0,ex0,args0⟩:=g0;obtain ⟨p5,c5,p6,c6,rfl,hs5,hs6,_,_⟩:=iB hx6;refine .mv Z<|.yw (.extract Z Z)<|.yw (.extract Z Z)<|.yw (.extract Z Z)<|.h1<|.sW .head Z Z cV (Rep.one hx6) Z ((.yv (.extract Z Z)<|.yv (.extract Z Z)<|.d4<|.d4<|.d3<|.d2<|.nl))<|.a Z Z<|.fn (tl:=[_]) Z<|.aq Z<|.sq<|.sm Z<|.yw (.neq Z Z)<|.nt<|.cd Z (λh51=>?_) (λh51=>?_)
 ·have he:¬ e0=0:=λe=>aH h51 (by rw [e];rfl);obtain ⟨hbig,ho,he3⟩:=aY1 hbp he;refine .sq<|.fL 14 [(0,0),(1,0),(2,0),(3,0),(4,0),(5,0),(6,0),(7,0),(8,0),(9,0),(10,0),(11,0),(12,0),(13,0)]<|.mv Z<|.yw (.cast (.eql Z Z) (congrArg Value.bool (aR (by rw [he3];rfl))))<|.mv Z<|.yg Z Z (.move Z) Z<|.yg Z Z (.cast (.eql Z Z) (congrArg Value.bool (aR (by rw [ho];rfl)))) Z<|.yw (.pickT Z Z)<|.mv Z<|.yg Z Z (.loadW Z bZ lR (pO hx2)) Z<|.yg Z Z (.call CQ Z (λW s=>BZ H6 f1 (BG (by decide) f1 hg1) (by omega) _ W hx2b s.agr)) Z<|.yg Z Z (.loadW Z bZ cP (pO hx4)) Z<|.yg Z Z (.call CQ Z (λW s=>BZ H6 f2 (BG (by decide) f2 hg2) (by omega) _ W hx4b s.agr)) Z<|.yg Z Z (.add Z Z (w6 (by omega))) Z<|.yg Z Z (.cast (.geq Z Z) (congrArg Value.bool (aR (by omega)))) Z<|.yw (.pickT Z Z)<|.fn (tl:=[_]) Z<|.az Z<|.tR<|?_
  exact y9 Z Z λW s=>⟨Z,((((((u1.trans uH2).trans uH3).trans uH4).trans u5).trans uH6).grow s).ext⟩
 have he:e0=0:=by have:=aN h51;omega
 obtain rfl:=aY2 hbp he;obtain ⟨bE,oE,cE,hpE,rE,lE,mE⟩:=hs6.elem (i:=0) (d:=dFm .u8 f1) rfl;cases hpE;obtain ⟨bF,oF,cF,hpF,rF,lF,mF⟩:=hs6.elem (i:=1) (d:=dFm .u8 f2) rfl;cases hpF;refine .sk<|.tN<|.sq<|.fL 20 [(0,0),(1,0),(2,0),(3,0),(4,0),(5,0),(6,0),(7,0),(8,0),(9,0),(10,0),(11,0),(12,0),(13,0),(14,0),(15,0),(16,0),(17,0),(18,0),(19,0)]<|.fA Z cU<|.lD Z eU Hm Z<|.yw (.lenSl eG Z)<|.yw (.cast (.eql Z Z) (congrArg Value.bool (aR Z)))<|.mv Z<|.yg Z Z (.fieldAddr Z cU) Z<|.yg Z Z (.load Z eU Hm Z) Z<|.yg Z Z (.indexSl eG Z Z (i:=0) Z (Nat.succ_pos _) (q:=oE+0 * 7) Z) Z<|.yg Z Z (.loadMW Z bZ mE lE) Z<|.yg Z Z (.loadW Z bZ lR (pO hx2)) Z<|.yg Z Z (.cast (.call CP Z (λW s=>zP H6 f1 f1 4 (RO hc1) (by omega) (by decide) _ _ W rE hx2b s.agr)) (congrArg Value.bool (aS.2 Z))) Z<|.yw (.pickT Z Z)<|.mv Z<|.yg Z Z (.fieldAddr Z cU) Z<|.yg Z Z (.load Z eU Hm Z) Z<|.yg Z Z (.indexSl eG Z Z (i:=1) Z (cO 1) (q:=oE+1 * 7) Z) Z<|.yg Z Z (.loadMW Z bZ mF lF) Z<|.yg Z Z (.loadW Z bZ cP (pO hx4)) Z<|.yg Z Z (.cast (.call CP Z (λW s=>zP H6 f2 f2 4 (RO hc2) (by omega) (by decide) _ _ W rF hx4b s.agr)) (congrArg Value.bool (aS.2 Z))) Z<|.yw (.pickT Z Z)<|.fn (tl:=[_]) Z<|.az Z<|?_
 exact y9 Z Z λW s=>⟨Z,((((((u1.trans uH2).trans uH3).trans uH4).trans u5).trans uH6).grow s).ext⟩
variable {H:Type} {enc:TypeId × Value->H}
theorem wrap {a:Assume} {C:Checked} {os:Os} {f:FuncId} {fn:Func} {s:ChangeSpec} {conds:List PathCond} {apart fresh handsOn aZ8:Bool} {X:World->Array Value->Prop} 
 (hX:∀ (w w':World) (args:Array Value),w.heap=w'.heap->X w args->X w' args)
 (own:ownKnob C.prog.godebug=none) (started:os.Started) (noInit:C.prog.inits.idxOf? f=none) (hfn:C.prog.funcs[f]? = some fn)
 (witness:∃ (w:World) (tape:Tape) (i:Input),w.os=os/\(w.forCall tape i).Shaped C.prog/\i.vars=[]/\Input.okWide C.prog (w.forCall tape i) .any w.heap.size f i /\
  ((s.pre enc C.prog fn conds apart (w.forCall tape i).memory i.args/\X (w.forCall tape i).memory i.args)/\sizedMet enc C.prog fn (OpenSpec.ofChange s) apart (w.forCall tape i).memory i.args)/\a.holds C.prog (lone (Frame.enter C.prog f i.args .normal) [] (w.forCall tape i)))
 (contract:∀ (W:World) (base:Nat) (args:Array Value) (ds gs:List (DataW H)) (before:List MemPlace),
  (∀ (j:Nat) t v,fn.params[j]? = some t->args[j]? = some v->Value.okWide C.prog W .any base t v) ->
  DataW.Whole enc C.prog fn.params.toList s.vars apart W args.toList ds gs before ->
  X W args->W.ShapedOpen C.prog ->
  Calls C.prog f args W λe W'=>∃ v,e=.returned v/\s.post enc C.prog fn apart fresh handsOn aZ8 W args v W') :
 ReturnsInHanded a C os f .any (λw args=>(s.pre enc C.prog fn conds apart w args/\X w args)/\sizedMet enc C.prog fn (OpenSpec.ofChange s) apart w args) (s.post enc C.prog fn apart fresh handsOn aZ8):=by
 refine returnsInHanded_of_calls own started noInit witness ?_;intro w tape i _ hsh _ hok hpre _;obtain ⟨_,_,_,fn',hfn',_,_,_,_,hval⟩:=hok;have e:fn'=fn:=bK (hfn'.symm.trans hfn);subst e;obtain ⟨⟨⟨ds,gs,before,hw,_⟩,hx⟩,_⟩:=hpre;have hw':=DataW.Whole.of_heap (w':=w.forCall tape i) (by rfl) hw;refine (contract (w.forCall tape i) w.heap.size i.args ds gs before hval hw' (hX _ _ _ (by rfl) hx) hsh).mono λe W' ⟨v,he,hp⟩=>?_;subst he;exact ChangeSpec.post_blind hp

theorem own:ownKnob prg.godebug=none:=by kernel_rfl
def DA:List (String × DataW Unit):=[("math/bits.deBruijn32tab",Rows.laid_math_bits_deBruijn32tab),("math/bits.deBruijn64tab",Rows.laid_math_bits_deBruijn64tab),("internal/strconv.uint64pow10",Rows.laid_internal_strconv_uint64pow10),("rootcause/lexer.words",Rows.laid_rootcause_lexer_words),("rootcause/lexer.symbols",Rows.laid_rootcause_lexer_symbols),("rootcause/formula.shapes",Rows.laid_rootcause_formula_shapes),("rootcause/formula.symbols",Rows.laid_rootcause_formula_symbols),("rootcause/formula.words",Rows.laid_rootcause_formula_words)]
theorem bW2:prg.globalNamed "internal/strconv.uint64pow10" = some 6:=by kernel_rfl
theorem bW1:(prg.globals[6]?).map (·.type)=some 257:=by kernel_rfl
theorem aX9:prg.cellsOf 257=20:=by kernel_rfl
theorem aH1:prg.cellsOf 242=1:=by kernel_rfl
theorem bT9:(Rows.laid_internal_strconv_uint64pow10:DataW Unit)=Lib.tabData .u64 Lib.pow10Tab:=by kernel_rfl
variable {W:World}
theorem bV5 (h:laidMet prg DA W):Gq (MV W):=by
 intro W' hA;have h1:Lib.TabIs prg W "internal/strconv.uint64pow10" .u64 Lib.pow10Tab:=Lib.tabIs_of_head bW2 bW1 Tryz.underlying257 Tryz.underlying242 aH1 aX9 (bT9 ▸ h.tail.tail);unfold Lib.TabIs World.var? at *;rw [bW2] at *;simp only [iD] at *
 split at h1
 ·rename_i cs T m hb;rw [hA 6 _ hb];exact h1
 ·cases h1
theorem bV6 (h:laidMet prg DA W):Gl (MV W) :=
 ⟨BB (t:=235) (.arr 39 .strg) _ (by kernel_rfl) (by kernel_rfl) (by kernel_rfl) (by kernel_rfl) (by kernel_rfl) h.tail.tail.tail,
  BB (t:=217) (.arr 25 .strg) _ (by kernel_rfl) (by kernel_rfl) (by kernel_rfl) (by kernel_rfl) (by kernel_rfl) h.tail.tail.tail.tail⟩
theorem bV7 (h:laidMet prg DA W):Gf (MV W) :=
 ⟨BB (t:=163) (.arr 19 .strg) _ (by kernel_rfl) (by kernel_rfl) (by kernel_rfl) (by kernel_rfl) (by kernel_rfl) h.tail.tail.tail.tail.tail.tail.tail,
  BB (t:=165) (.arr 22 .strg) _ (by kernel_rfl) (by kernel_rfl) (by kernel_rfl) (by kernel_rfl) (by kernel_rfl) h.tail.tail.tail.tail.tail.tail,
  BB (t:=200) (.arr 19 (.str [.int .u8,.bool,.bool,.bool,.bool,.int .u8,.int .u8])) _ (by kernel_rfl) (by kernel_rfl) (by kernel_rfl) (by kernel_rfl) (by kernel_rfl) h.tail.tail.tail.tail.tail⟩
theorem aS5 (os:Os) (args:Array Value):laidMet prg DA ((World.laidAll prg os DA).forCall (λ_ _=>0) ⟨#[],args,[]⟩).memory :=
 laidMet_laidAll _ (by kernel_rfl) (by kernel_rfl)
theorem UC (os:Os) (args:Array Value):((World.laidAll prg os DA).forCall (λ_ _=>0) ⟨#[],args,[]⟩).Shaped prg :=
 World.shaped_of_ZipB (by kernel_rfl) (by kernel_rfl)
variable {W':World}
theorem aW2 (h:Ext W W'):∀ may,W.keptBut W' may:=λmay=>(Ext.below h).frame may
theorem RA:laidOutB prg=true:=by kernel_rfl
end Go.Proofs.YtidclioghdbphaaGreatDoor
/- The walk lifted: for every input, rootcauselaw34.FormulaBrackets returns true, and its arguments read as they did (the tied card FormulaBracketsCardSaid). Conditions: the card's own (the listed package variables read as the program's initialisers lay them, tied to the text), and no others. -/
namespace Go.Proofs.YtidclioghdbphaaGreatDoor
open Go.RowKit Go.Par Go.Sx
theorem bF8 {x:D} (h:Ty.has (.str [.int .u8,.int .u8,.int .u8,.bool,.int .i64]) x):∃ y:Nd,x=dNd y:=by
 simp only [Ty.has,Ty.hasL] at h;obtain ⟨_,rfl,_,_,rfl,⟨a,rfl,ha⟩,_,_,rfl,⟨b,rfl,hb⟩,_,_,rfl,⟨c,rfl,hc⟩,_,_,rfl,⟨o,rfl⟩,_,_,rfl,⟨n,rfl,hn⟩,rfl⟩:=h;obtain ⟨a,rfl⟩:=LC ha;obtain ⟨b,rfl⟩:=LC hb;obtain ⟨c,rfl⟩:=LC hc;obtain ⟨n,rfl⟩:=ZV hn;exact ⟨⟨a,b,c,o,n⟩,Z⟩
theorem PI {x:D} (h:Ty.has (.int .u8) x):∃ y:UInt8,x=.val (.int .u8 y.toNat):=by
 simp only [Ty.has] at h;obtain ⟨n,rfl,hn⟩:=h;obtain ⟨a,rfl⟩:=LC hn;exact ⟨a,Z⟩
theorem aT6 {x:D} (h:Ty.has (.int .i64) x):∃ y:Int64,x=.val (.int .i64 y.toInt):=by
 simp only [Ty.has] at h;obtain ⟨n,rfl,hn⟩:=h;obtain ⟨a,rfl⟩:=ZV hn;exact ⟨a,Z⟩
theorem aO9 {α:Type} {f:α->D} {τ:Ty} {x:D} (k:∀ y,Ty.has τ y->∃ z,y=f z) (h:Ty.has (.seq τ) x):∃ l:List α,x=.seq τ.cells (l.map f):=by
 unfold Ty.has at h;obtain ⟨ds,rfl,h1⟩:=h;obtain ⟨l,rfl⟩:=ZQ (f:=f) λx hx=>k x (h1 x hx);exact ⟨l,Z⟩
theorem bV0 {x:D} (h:Ty.has (.str [.int .u8,.int .u8,.int .u8,.int .u8,.bool,.int .i64,.int .i64,.seq (.str [.int .u8,.int .u8,.int .u8,.bool,.int .i64])]) x):∃ y:Nf,x=dNf y:=by
 rw [Ty.has] at h;obtain ⟨ds,rfl,h⟩:=h;simp only [Ty.hasL] at h;obtain ⟨_,_,rfl,h1,_,_,rfl,h2,_,_,rfl,h3,_,_,rfl,h4,_,_,rfl,h5,_,_,rfl,h6,_,_,rfl,h7,_,_,rfl,h8,rfl⟩:=h;obtain ⟨a,rfl⟩:=PI h1;obtain ⟨b,rfl⟩:=PI h2;obtain ⟨c,rfl⟩:=PI h3;obtain ⟨d,rfl⟩:=PI h4;simp only [Ty.has] at h5;obtain ⟨o,rfl⟩:=h5;obtain ⟨m,rfl⟩:=aT6 h6;obtain ⟨n,rfl⟩:=aT6 h7;obtain ⟨l,rfl⟩:=aO9 (f:=dNd) (λ_=>bF8) h8;exact ⟨⟨a,b,c,d,o,m,n,l⟩,Z⟩
variable {W:World} {b:Nat} {v:Value}
theorem KO {H:Type} {enc:TypeId × Value->H} {base:Nat} {sp:Nat->Bool} {held:Bool} {d:DataW H} {p:List MemPlace} (hv:Value.okWide prg W .any b 22 v) (h:DataW.Trod enc prg W base sp held 22 v d p) :
 ∃ l:List Nf,Rep (MV W) (.seq 8 (l.map dNf)) [v]:=by
 obtain ⟨a0,n0,c0,rfl⟩:=Go.WideShapes.okWide_slice Tryz.underlying22 hv;obtain ⟨fuel,hf⟩:=h;obtain ⟨d,hd,hr⟩:=Ty.opens W (.seq (.str [.int .u8,.int .u8,.int .u8,.int .u8,.bool,.int .i64,.int .i64,.seq (.str [.int .u8,.int .u8,.int .u8,.bool,.int .i64])])) 22 fuel _ _ (by kernel_rfl) (by kernel_rfl) hf;obtain ⟨l,rfl⟩:=aO9 (f:=dNf) (λ_=>bV0) hd;exact ⟨l,hr⟩
theorem bF0 {H:Type} {enc:TypeId × Value->H} {base:Nat} {sp:Nat->Bool} {held:Bool} {d:DataW H} {p:List MemPlace} (hv:Value.okWide prg W .any b 5 v) (h:DataW.Trod enc prg W base sp held 5 v d p) :
 ∃ n:UInt8,v=.int .u8 n.toNat:=by
 obtain ⟨fuel,hf⟩:=h;obtain ⟨d,hd,hr⟩:=Ty.opens W (.int .u8) 5 fuel _ _ (by kernel_rfl) (by kernel_rfl) hf;simp only [Ty.has] at hd;obtain ⟨n,rfl,hn⟩:=hd;obtain ⟨n,rfl⟩:=LC hn;have hc:=aP1 hr;have hs:=Go.WideShapes.okWide_int Tryz.underlying5 hv;obtain ⟨z,rfl,_⟩:=hs;exact ⟨n,(List.cons.inj hc).1⟩
namespace formulaBrackets
open Go.ChangeShapes Go.WideShapes Go.ChangeAt Go.RowKit
open Go.ChangeMaps (open_string shut_string)
theorem lifted (os:Os) (started:os.Started) (H:Type) (enc:TypeId × Value->H) :
 ReturnsInHanded {} Tryz.checked os 12 .any (λw args=>(Rows.formulaBracketsSpec.pre enc prg Tryz.f12 [] false w args/\laidMet prg DA w)/\sizedMet enc prg Tryz.f12 (OpenSpec.ofChange Rows.formulaBracketsSpec) false w args)
  (Rows.formulaBracketsSpec.post enc prg Tryz.f12 false true false false):=by
 refine wrap (C:=Tryz.checked) (X:=λw _=>laidMet prg DA w) (λ_ _ _ hh h=>h.of_heap hh) own started (by kernel_rfl) Tryz.func12
  (ChangeSpec.witness_shaped (enc:=enc) (C:=Tryz.checked) (os:=os) (X:=λw _=>laidMet prg DA w) false (World.laidAll prg os DA) #[.slice none 0 0,.slice none 0 0,.int .u8 0] 8 (World.laidAll_os _ _ _) (UC os _) (by kernel_rfl) (by kernel_rfl) (by kernel_rfl) (aS5 os _)) ?_
 intro W base args ds gs before hval0 hW hL hS;have GL:=bV6 hL;have G:=bV7 hL;have gq:=bV5 hL;have hval:∀ (j:Nat) t v,Tryz.f12.params[j]? = some t->args[j]? = some v->Value.okWide prg W .any base t v:=hval0;have hW':=hW;obtain ⟨p,q,hA0,hV,rfl,hfz,hnd⟩:=hW;have hA:DataW.TrodAll enc prg W 0 (λ_=>true) true Tryz.f12.params.toList args.toList ds p:=hA0;rw [Tryz.params12] at hA hval;obtain ⟨v0,v1,v2,d0,d1,d2,p0,p1,p2,rfl,rfl,rfl,h0,h1,h2⟩:=trodAll_three hA;obtain ⟨rfl,rfl⟩:=trodVars_none hV;have k0:=h0;have hlt0:∀ x∈p0,x.block<W.heap.size:=λx hx=>hW'.lt x (by simp [hx]);have k1:=h1;have hlt1:∀ x∈p1,x.block<W.heap.size:=λx hx=>hW'.lt x (by simp [hx]);have k2:=h2;have hlt2:∀ x∈p2,x.block<W.heap.size:=λx hx=>hW'.lt x (by simp [hx]);obtain ⟨l0,hr0⟩:=KO (hval 0 22 v0 rfl rfl) h0;obtain ⟨l1,hr1⟩:=KO (hval 1 22 v1 rfl rfl) h1;obtain ⟨l2,e2⟩:=bF0 (hval 2 5 v2 rfl rfl) h2;subst e2;clear hA0 hval0;simp only [eK,aZ] at hW';refine (CS (MV W) GL G gq l0 l1 l2 v0 v1 hr0 hr1 W (aZ7 W)).mono λe W' ⟨he,hg⟩=>?_;subst he;refine ⟨_,Z,_,_,_,[],(p0++(p1++p2)),[],hW',?_,?_,Z,aW2 hg _,λh=>by cases h⟩
 ·exact trodAll_mk1 (shut_bool Tryz.underlying4 _)
 ·exact trodAll_mk3 (Below.trod RA (by kernel_rfl) (aH (by kernel_rfl)) k0 hg.below hlt0) (Below.trod RA (by kernel_rfl) (aH (by kernel_rfl)) k1 hg.below hlt1) (Below.trod RA (by kernel_rfl) (aH (by kernel_rfl)) k2 hg.below hlt2)
end formulaBrackets
end Go.Proofs.YtidclioghdbphaaGreatDoor
