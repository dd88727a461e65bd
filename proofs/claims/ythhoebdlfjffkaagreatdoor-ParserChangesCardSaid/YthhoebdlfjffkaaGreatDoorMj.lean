/- Texts of the proof, one behind the other. -/
import Derived.Test.YthhoebdlfjffkaaGreatDoorMi
import Derived.Test.YthhoebdlfjffkaaGreatDoorTie
import Derived.ProofKit
import Derived.OpenShut
import Derived.ShutString
import Derived.Lay
import Derived.Stop.LaidErr
import Derived.Stop.Joined
import Derived.Shelf.Vars
import Derived.Lib.LaidTab
import Derived.Lib.SmallJoins
import Derived.SevenTiedAt
set_option linter.all false
set_option maxRecDepth 100000
namespace Go.Proofs.YthhoebdlfjffkaaGreatDoor
open Go.RowKit Go.Par Go.Sx
structure Chg where
 wh:UInt16
 dd:UInt8
 tx:Str
def aP1 (c:Chg):D:=.str [.val (.int .u16 c.wh.toNat),.val (.int .u8 c.dd.toNat),.any (cJ c.tx)]
variable {H:Hp}
theorem cG2 {c:Chg} {cs:List Value} (h:Rep H (aP1 c) cs):cs=[.int .u16 c.wh.toNat,.int .u8 c.dd.toNat,cJ c.tx]:=by
 rw [aP1,AS] at h;obtain ⟨_,rfl,_,_,h⟩:=eW.1 h;obtain ⟨_,rfl,_,_,h⟩:=eW.1 h;unfold wT at h;obtain ⟨x,y,rfl,h1,h2⟩:=h;unfold Rep at h1;unfold wT at h2;obtain ⟨rfl,_⟩:=h1;subst h2
 rfl
variable {c n:Nat}
theorem bL1 {V:List Str} {p:Option Addr} (h:Rep H (.seq 1 (V.map lU)) [.slice p n c]):∀ x∈V,x.length<=1000000:=by
 intro x hx;obtain ⟨i,hi,rfl⟩:=List.getElem_of_mem hx;obtain ⟨b,o,cs,_,hr,_⟩:=h.elem (eL (f:=lU) hi);exact (tL hr).2
set_option maxHeartbeats 4000000 in
theorem MG (H:Hp) (G:Gl H) (g:Gt H) (p:Pln) (l:List Chg) (cs:List Value) (v0:Value) (h:Rep H (aX1 p) cs) (hl:Rep H (.seq 3 (l.map aP1)) [v0]) (w:World) (hA:Agr H w) :
 Calls prg 7 #[.agg cs.toArray,v0] w λr w'=>r=.returned (.bool true)/\Ext w w':=by
 have hbl:=TW p;obtain ⟨pl,cl,el,_⟩:=hl.sl;simp only [aT,bV,aJ] at el;subst el;have hcap:=hl.cap;obtain ⟨p1,c1,p2,c2,rfl,_,_⟩:=SR h;refine Sx.enter (H:=H) Tryz.func7 rfl Tryz.ntmps7 rfl hA ?_;refine .sr<|.bx Z Z Z λb2=>.aq Z<|.sq<|.sr<|.yw (.call cI5 Z (λW s=>bO8 H G W s.agr))<|.yw (.not Z)<|.nt<|.cF Z<|.sk<|.tN<|.sr<|.yw (.loadW Z aT3 Hm Z)<|.ct (X:=List Value) bU2 Z (λW t=>aU6 H G g p _ h W t.agr) Z λx1 H1 hx1 u1=>?_
 obtain ⟨z2,z3,z4,rfl⟩:=IS hx1;refine .mv Z<|.yw (.extract Z Z)<|.yw (.extract Z Z)<|.al vW Z λb6=>.a Z Z<|.sW .head Z Z sJ (Rep.one hx1) Z<|.ns<|.mv Z<|.ct (X:=Value) bU1 Z (λW t=>aU2 H1 (G.up u1.up) (ftT (mX p)) (by omega) (aH2 (HN p)) W t.agr) Z λv2 H2 hv2 u2=>?_
 have hwl:=aT6 (mX p);have hl2:=hl.up (u1.trans u2).up;refine .aq Z<|.sq<|.sm Z<|.yw (.lenSl bI7 Z)<|.mv Z<|.nt<|.bk<|.lp (X:=Nat × List Str × Value × Hp) [(24,_),(25,_)] ⟨Z,Z,Jt⟩ [_,_] (λz=>[(26,iN z.1),(7,z.2.2.1)]) (λz=>z.2.2.2) (λz=>[]) (λz=>z.1<=3/\z.1<=l.length/\z.2.1.length<=100000000000+2 * z.1/\HUp w H2 z.2.2.2/\Rep z.2.2.2 (.seq 1 (z.2.1.map lU)) [z.2.2.1]) (λz=>l.length - z.1) (0,(aT7 (mX p)),v2,H2) (λ_ s=>s) ⟨Z,Z,Jt⟩ ⟨cM _,cM _,by dsimp only;omega,.refl,hv2⟩ λz hC=>?_
 obtain ⟨k,V,v,H3⟩:=z;obtain ⟨hk3,hkl,hV,u3,hv⟩:=hC;dsimp only at hk3 hkl hV u3 hv|-;obtain ⟨p7,c7,e7,_⟩:=hv.sl;simp only [aT,bV,aJ] at e7;subst e7;have hVsh:=bL1 hv;refine .sr<|.yw (.lss Z Z)<|.nt<|.sq<|.cd Z (λh27=>?_) (λh27=>?_)
 ·try simp only [dt] at h27
  have hk:k<l.length:=by omega
  obtain ⟨bC,oC,cC,hpC,rC,lC,mC⟩:=(hl2.up u3.up).elem (eL (f:=aP1) hk);cases hpC;generalize hx:l[k]=x at rC;obtain rfl:=cG2 rC;refine .sk<|.tN<|.sq<|.bk<|.sm Z<|.yw (.indexSl bI7 Z Z Z (by omega) (q:=oC+k * 3) Z)<|.yw (.loadMW Z cI8 mC Z)<|.al bP4 Z λb9=>.a Z Z<|.sX .head Z Z bP9 Z<|.nt<|.sq<|.sm Z<|.yw (.eql Z Z)<|.mv Z<|.b2 (λh33=>?_) (λh33=>?_)
  ·refine .gG<|.gG<|.gG<|.yw (.pickT Z Z)<|.nt<|.cT Z<|.ex<|.tE<|.bO Z<|.eb<|.sr<|.aq Z<|.sq<|.sm Z<|.yw (.lenSl dR Z)<|.mv Z<|.nt<|.bk<|.lp (X:=Nat) [(94,_),(95,_)] ⟨Z,Z,Jt⟩ [_,_,_] (λk2=>[(96,iN k2),(12,cJ (EO (V.take k2)))]) (λk2=>H3) (λk2=>[]) (λk2=>k2<=V.length) (λk2=>V.length - k2) 0 (λ_ s=>s) ⟨Z,Z,Jt⟩ (cM _) λk2 hC=>?_
   have htl:=NW (V.take k2) (λx hx=>hVsh x (sN hx));rw [dJ,iA hC] at htl;refine .sr<|.yw (.lss Z Z)<|.nt<|.sq<|.cd Z (λh97=>?_) (λh97=>?_)
   ·try simp only [dt] at h97
    have hk2:k2<V.length:=by omega
    obtain ⟨bL,oL,cL,hpL,rL,lL,mL⟩:=hv.elem (eL (f:=lU) hk2);cases hpL;obtain ⟨rfl,hwk2⟩:=tL rL;exact .sk<|.tN<|.sq<|.bk<|.sr<|.yw (.indexSl dR Z Z Z (by omega) (q:=oL+k2 * 1) Z)<|.yw (.loadM Z bZ mL (k:=0) Z Z)<|.aq Z<|.rg<|.mv Z<|.mv Z<|.yw (.cast (v':=cJ (V[k2]++[32])) (.app Z Z (by simp only [aH,aS];omega)) Z)<|.yw (.cast (v':=cJ (EO (V.take k2)++(V[k2]++[32]))) (.app Z Z (by simp only [aD,aH,aS];omega)) Z)<|.a Z Z<|.nl<|.bN<|.tN<|.rg<|.yw (.add Z Z w7)<|.mv Z<|.nt<|.ag (x:=k2) (k2+1) ⟨Z,by rw [show EO (V.take (k2+1))=EO (V.take k2)++(V[k2]++[32]) by rw [gC hk2,IE]];rfl,Jt⟩ ⟨Z,Z,Jt⟩ (λ_ s=>s) (by show k2+1<=_;omega) (by show V.length - (k2+1)<V.length - k2;omega)
   try simp only [df] at h97
   obtain rfl:k2=V.length:=by omega
   rw [aI] at htl|-;refine .ex<|.eb<|.sm Z<|.yw (.call PP Z (λW s=>KT H3 (((G.up u1.up).up u2.up).up u3.up) _ (by omega) W s.agr))<|.az Z<|?_
   exact y9 Z Z λW s=>⟨Z,s.ext⟩
  try simp only [df] at h33
  have hk3':k≠3:=by omega
  refine .gy (.move Z)<|.gy (.lenSl dR Z)<|.gy (.eql Z Z)<|.yw (.pickF Z Z)<|.nt<|.cd Z (λh37=>?_) (λh37=>?_)
  ·refine .ex<|.tE<|.bO Z<|.eb<|.sr<|.aq Z<|.sq<|.sm Z<|.yw (.lenSl dR Z)<|.mv Z<|.nt<|.bk<|.lp (X:=Nat) [(94,_),(95,_)] ⟨Z,Z,Jt⟩ [_,_,_] (λk2=>[(96,iN k2),(12,cJ (EO (V.take k2)))]) (λk2=>H3) (λk2=>[]) (λk2=>k2<=V.length) (λk2=>V.length - k2) 0 (λ_ s=>s) ⟨Z,Z,Jt⟩ (cM _) λk2 hC=>?_
   have htl:=NW (V.take k2) (λx hx=>hVsh x (sN hx));rw [dJ,iA hC] at htl;refine .sr<|.yw (.lss Z Z)<|.nt<|.sq<|.cd Z (λh97=>?_) (λh97=>?_)
   ·try simp only [dt] at h97
    have hk2:k2<V.length:=by omega
    obtain ⟨bL,oL,cL,hpL,rL,lL,mL⟩:=hv.elem (eL (f:=lU) hk2);cases hpL;obtain ⟨rfl,hwk2⟩:=tL rL;exact .sk<|.tN<|.sq<|.bk<|.sr<|.yw (.indexSl dR Z Z Z (by omega) (q:=oL+k2 * 1) Z)<|.yw (.loadM Z bZ mL (k:=0) Z Z)<|.aq Z<|.rg<|.mv Z<|.mv Z<|.yw (.cast (v':=cJ (V[k2]++[32])) (.app Z Z (by simp only [aH,aS];omega)) Z)<|.yw (.cast (v':=cJ (EO (V.take k2)++(V[k2]++[32]))) (.app Z Z (by simp only [aD,aH,aS];omega)) Z)<|.a Z Z<|.nl<|.bN<|.tN<|.rg<|.yw (.add Z Z w7)<|.mv Z<|.nt<|.ag (x:=k2) (k2+1) ⟨Z,by rw [show EO (V.take (k2+1))=EO (V.take k2)++(V[k2]++[32]) by rw [gC hk2,IE]];rfl,Jt⟩ ⟨Z,Z,Jt⟩ (λ_ s=>s) (by show k2+1<=_;omega) (by show V.length - (k2+1)<V.length - k2;omega)
   try simp only [df] at h97
   obtain rfl:k2=V.length:=by omega
   rw [aI] at htl|-;refine .ex<|.eb<|.sm Z<|.yw (.call PP Z (λW s=>KT H3 (((G.up u1.up).up u2.up).up u3.up) _ (by omega) W s.agr))<|.az Z<|?_
   exact y9 Z Z λW s=>⟨Z,s.ext⟩
  try simp only [df] at h37
  have hV0:0<V.length:=by omega
  refine .sk<|.tN<|.sr<|.fA Z NH<|.lD Z aT2 Hm Z<|.yw (.conv Z aQ9 tD (c:=((x.wh.toNat:Nat):Int)) (w64 (by have:=x.wh.toNat_lt;omega) (by have:=x.wh.toNat_lt;omega)))<|.mv Z<|.yw (.lenSl dR Z)<|.yw (.rem Z Z (by omega) (c:=((x.wh.toNat % V.length:Nat):Int)) (by rw [dV (by omega)];omega))<|?_
  have hmw:=xH x.wh.toNat hV0;have ej:x.wh.toNat % V.length=x.wh.toNat % V.length:=rfl;generalize x.wh.toNat % V.length=j at hmw|-;obtain ⟨bE,oE,cE,hpE,rE,lE,mE⟩:=hv.elem (eL (f:=lU) hmw);cases hpE;obtain ⟨rfl,hwk⟩:=tL rE;have htx:(x.tx.take 5000).length<=1000000:=by rw [dJ];omega
  refine .a Z Z<|.ns<|.a Z Z<|?_
  refine Sx.row0 9 1 ?_;refine .ns<|.mv Z<|.mv Z<|.mv Z<|.yw (.cutHi2 dR Z Z (h:=j) Z (by have:=hv.len.2.1;omega))<|?_
  have hw4:=ET hv (xR hmw);rw [<-qE] at hw4;generalize (if c7=0 then (some ⟨bE,oE,none⟩:Option Addr) else (some ⟨bE,oE,none⟩:Option Addr).map λq=>q.add 0)=p4 at hw4|-;refine .apD qJ Z (λ_ _=>.head) Z hw4 (by simp only [maxLen];omega) (by omega) Z λxs48 r48 hz48=>.aq Z<|.sq<|.sr<|.fA Z aG2<|.lD Z xP dN Z<|.yw (.rem Z Z (by decide) (c:=((x.dd.toNat % 4:Nat):Int)) (by rw [dV (by omega)];omega))<|.nt<|.bk<|.sr<|.yw (.eql Z Z)<|.aq Z<|.cd Z (λh52=>?_) (λh52=>?_)
  ·refine .rg<|.mv Z<|.fA Z NG<|.lD Z bZ dN Z<|.yw (.call ZY Z (λW s=>XG x.tx W))<|.bl Z (jY _) Z λb58=>?_
   refine dD λH5 u5 m5=>?_;refine .apD qJ Z (λ_ _=>.head) Z (Rep.mk (n:=1) (c:=1) (ds:=[lU (x.tx.take 5000)]) m5 (.single (vU htx) Z) Z (aK _) (by decide)) (by simp only [maxLen];omega) (by omega) Z λxs59 r59 hz59=>.a Z Z<|.nl<|.bN<|.tN<|.rg<|.mv Z<|.mv Z<|.mv Z<|.yw (.add Z Z (c:=((j+1:Nat):Int)) ((w6 (by omega)).trans (by omega)))<|.yw (.cutLo dR Z Z (lo:=j+1) Z (by omega) (by have:=hv.len.2.1;omega))<|?_
   have hw5:=GV hv (lo:=j+1) (by omega);rw [<-wD] at hw5;refine .apD qJ Z (λ_ _=>.head) Z (hw5.up u5.up) (by simp only [maxLen];omega) (by omega) Z λxs92 r92 hz92=>.a Z Z<|?_
   refine At.pm [0,1,2,3] [_,_,_,_] rfl rfl ?_;refine dC (ds:=((V.take j).map lU++[(x.tx.take 5000)].map lU)++(V.drop (j+1)).map lU) (by simp;omega) (((hz48.up u5.up).app hz59).app hz92) λH6 p6 c6 u6 e6 h6=>?_;rw [<-aV,<-aV] at h6;exact .nl<|.bN<|.tN<|.rg<|.yw (.add Z Z w7)<|.mv Z<|.nt<|.ag (x:=(k,V,.slice (some ⟨bE,oE,none⟩) V.length c7,H3)) (k+1,(V.take j++[(x.tx.take 5000)])++V.drop (j+1),r92,H6) ⟨Z,Z,Jt⟩ ⟨Z,Z,Jt⟩ (λ_ s=>s.pick [1,2] [_,_] Z Z) ⟨by show k+1<=3;omega,by show k+1<=_;omega,by show ((V.take j++[(x.tx.take 5000)])++V.drop (j+1)).length<=_;simp;omega,u3.trans (u5.trans u6),h6⟩ (by show l.length - (k+1)<l.length - k;omega)
  refine .sr<|.yw (.eql Z Z)<|.aq Z<|.cd Z (λh60=>?_) (λh60=>?_)
  ·refine .fL 10 [(0,0),(1,0),(2,0),(3,0),(4,0),(5,0),(6,0),(7,0),(8,1),(9,3)]<|.mv Z<|.fA Z NG<|.lD Z bZ dN Z<|.yw (.call ZY Z (λW s=>XG x.tx W))<|.mv Z<|.mv Z<|.yw (.indexSl dR Z Z (i:=j) Z hmw (q:=oE+j * 1) Z)<|.yw (.loadM Z bZ mE (k:=0) Z Z)<|.blF Z (zX _ _) Z λb70 H5 u5 m5=>.apD qJ Z (λ_ _=>.head) Z (Rep.mk (n:=2) (c:=2) (ds:=[lU (x.tx.take 5000),lU V[j]]) m5 (dA.app (dA.single (vU htx) Z) (dA.single (vU hwk) Z)) Z (aK _) (by decide)) (by simp only [maxLen];omega) (by omega) Z (λ_ _=>(.d4<|.d4<|.nl)) λxs71 r71 c71 hz71=>.fn (tl:=[_]) Z<|.a Z Z<|.nl<|.bN<|.tN<|.rg<|.mv Z<|.mv Z<|.mv Z<|.yw (.add Z Z (c:=((j+1:Nat):Int)) ((w6 (by omega)).trans (by omega)))<|.yw (.cutLo dR Z Z (lo:=j+1) Z (by omega) (by have:=hv.len.2.1;omega))<|?_
   have hw5:=GV hv (lo:=j+1) (by omega);rw [<-wD] at hw5;refine .apD qJ Z (λ_ _=>.head) Z (hw5.up u5.up) (by simp only [maxLen];omega) (by omega) Z λxs92 r92 hz92=>.a Z Z<|?_
   refine At.pm [0,1,2,3] [_,_,_,_] rfl rfl ?_;refine dC (ds:=((V.take j).map lU++[x.tx.take 5000,V[j]].map lU)++(V.drop (j+1)).map lU) (by simp;omega) (((hz48.up u5.up).app hz71).app hz92) λH6 p6 c6 u6 e6 h6=>?_;rw [<-aV,<-aV] at h6;exact .nl<|.bN<|.tN<|.rg<|.yw (.add Z Z w7)<|.mv Z<|.nt<|.ag (x:=(k,V,.slice (some ⟨bE,oE,none⟩) V.length c7,H3)) (k+1,(V.take j++[x.tx.take 5000,V[j]])++V.drop (j+1),r92,H6) ⟨Z,Z,Jt⟩ ⟨Z,Z,Jt⟩ (λ_ s=>s.pick [1,2] [_,_] Z Z) ⟨by show k+1<=3;omega,by show k+1<=_;omega,by show ((V.take j++[x.tx.take 5000,V[j]])++V.drop (j+1)).length<=_;simp;omega,u3.trans (u5.trans u6),h6⟩ (by show l.length - (k+1)<l.length - k;omega)
  refine .sr<|.yw (.eql Z Z)<|.aq Z<|.cd Z (λh72=>?_) (λh72=>?_)
  ·refine .rg<|.mv Z<|.mv Z<|.fA Z NH<|.lD Z aT2 dN Z<|.yw (.quo Z Z (by decide) (c:=((x.wh.toNat / 7:Nat):Int)) (by have:=x.wh.toNat_lt;rw [lO (by omega)];simp only [IntKind.wrap,IntKind.signed,IntKind.bits];simp;omega))<|.yw (.conv Z aQ9 tD (c:=((x.wh.toNat / 7:Nat):Int)) (w64 (by have:=x.wh.toNat_lt;omega) (by have:=x.wh.toNat_lt;omega)))<|.mv Z<|.yw (.lenSl dR Z)<|.yw (.rem Z Z (by omega) (c:=((x.wh.toNat / 7 % V.length:Nat):Int)) (by rw [dV (by omega)];omega))<|?_
   have hm2:=xH (x.wh.toNat / 7) hV0;generalize x.wh.toNat / 7 % V.length=j2 at hm2|-;obtain ⟨bF,oF,cF,hpF,rF,lF,mF⟩:=hv.elem (eL (f:=lU) hm2);cases hpF;obtain ⟨rfl,hwf⟩:=tL rF;refine .yw (.indexSl dR Z Z (i:=j2) Z hm2 Z)<|.yw (.loadM Z bZ mF (k:=0) Z Z)<|.bl Z (jY _) Z λb85=>?_
   refine dD λH5 u5 m5=>?_;refine .apD qJ Z (λ_ _=>.head) Z (Rep.mk (n:=1) (c:=1) (ds:=[lU V[j2]]) m5 (.single (vU hwf) Z) Z (aK _) (by decide)) (by simp only [maxLen];omega) (by omega) Z λxs86 r86 hz86=>.a Z Z<|.nl<|.bN<|.tN<|.rg<|.mv Z<|.mv Z<|.mv Z<|.yw (.add Z Z (c:=((j+1:Nat):Int)) ((w6 (by omega)).trans (by omega)))<|.yw (.cutLo dR Z Z (lo:=j+1) Z (by omega) (by have:=hv.len.2.1;omega))<|?_
   have hw5:=GV hv (lo:=j+1) (by omega);rw [<-wD] at hw5;refine .apD qJ Z (λ_ _=>.head) Z (hw5.up u5.up) (by simp only [maxLen];omega) (by omega) Z λxs92 r92 hz92=>.a Z Z<|?_
   refine At.pm [0,1,2,3] [_,_,_,_] rfl rfl ?_;refine dC (ds:=((V.take j).map lU++[V[j2]].map lU)++(V.drop (j+1)).map lU) (by simp;omega) (((hz48.up u5.up).app hz86).app hz92) λH6 p6 c6 u6 e6 h6=>?_;rw [<-aV,<-aV] at h6;exact .nl<|.bN<|.tN<|.rg<|.yw (.add Z Z w7)<|.mv Z<|.nt<|.ag (x:=(k,V,.slice (some ⟨bE,oE,none⟩) V.length c7,H3)) (k+1,(V.take j++[V[j2]])++V.drop (j+1),r92,H6) ⟨Z,Z,Jt⟩ ⟨Z,Z,Jt⟩ (λ_ s=>s.pick [1,2] [_,_] Z Z) ⟨by show k+1<=3;omega,by show k+1<=_;omega,by show ((V.take j++[V[j2]])++V.drop (j+1)).length<=_;simp;omega,u3.trans (u5.trans u6),h6⟩ (by show l.length - (k+1)<l.length - k;omega)
  refine .sk<|.bN<|.tN<|.rg<|.mv Z<|.mv Z<|.mv Z<|.yw (.add Z Z (c:=((j+1:Nat):Int)) ((w6 (by omega)).trans (by omega)))<|.yw (.cutLo dR Z Z (lo:=j+1) Z (by omega) (by have:=hv.len.2.1;omega))<|?_
  have hw5:=GV hv (lo:=j+1) (by omega);rw [<-wD] at hw5;refine .apD qJ Z (λ_ _=>.head) Z hw5 (by simp only [maxLen];omega) (by omega) Z λxs92 r92 hz92=>.a Z Z<|?_
  refine At.pm [0,1,2,3] [_,_,_,_] rfl rfl ?_;refine dC (ds:=((V.take j).map lU)++(V.drop (j+1)).map lU) (by simp;omega) (hz48.app hz92) λH6 p6 c6 u6 e6 h6=>?_;rw [<-aV] at h6;exact .nl<|.bN<|.tN<|.rg<|.yw (.add Z Z w7)<|.mv Z<|.nt<|.ag (x:=(k,V,.slice (some ⟨bE,oE,none⟩) V.length c7,H3)) (k+1,V.take j++V.drop (j+1),r92,H6) ⟨Z,Z,Jt⟩ ⟨Z,Z,Jt⟩ (λ_ s=>s.pick [1,2] [_,_] Z Z) ⟨by show k+1<=3;omega,by show k+1<=_;omega,by show (V.take j++V.drop (j+1)).length<=_;simp;omega,u3.trans u6,h6⟩ (by show l.length - (k+1)<l.length - k;omega)
 refine .ex<|.eb<|.sr<|.aq Z<|.sq<|.sm Z<|.yw (.lenSl dR Z)<|.mv Z<|.nt<|.bk<|.lp (X:=Nat) [(94,_),(95,_)] ⟨Z,Z,Jt⟩ [_,_] (λk2=>[(96,iN k2),(12,cJ (EO (V.take k2)))]) (λk2=>H3) (λk2=>[]) (λk2=>k2<=V.length) (λk2=>V.length - k2) 0 (λ_ s=>s) ⟨Z,Z,Jt⟩ (cM _) λk2 hC=>?_
 have htl:=NW (V.take k2) (λx hx=>hVsh x (sN hx));rw [dJ,iA hC] at htl;refine .sr<|.yw (.lss Z Z)<|.nt<|.sq<|.cd Z (λh97=>?_) (λh97=>?_)
 ·try simp only [dt] at h97
  have hk2:k2<V.length:=by omega
  obtain ⟨bL,oL,cL,hpL,rL,lL,mL⟩:=hv.elem (eL (f:=lU) hk2);cases hpL;obtain ⟨rfl,hwk2⟩:=tL rL;exact .sk<|.tN<|.sq<|.bk<|.sr<|.yw (.indexSl dR Z Z Z (by omega) (q:=oL+k2 * 1) Z)<|.yw (.loadM Z bZ mL (k:=0) Z Z)<|.aq Z<|.rg<|.mv Z<|.mv Z<|.yw (.cast (v':=cJ (V[k2]++[32])) (.app Z Z (by simp only [aH,aS];omega)) Z)<|.yw (.cast (v':=cJ (EO (V.take k2)++(V[k2]++[32]))) (.app Z Z (by simp only [aD,aH,aS];omega)) Z)<|.a Z Z<|.nl<|.bN<|.tN<|.rg<|.yw (.add Z Z w7)<|.mv Z<|.nt<|.ag (x:=k2) (k2+1) ⟨Z,by rw [show EO (V.take (k2+1))=EO (V.take k2)++(V[k2]++[32]) by rw [gC hk2,IE]];rfl,Jt⟩ ⟨Z,Z,Jt⟩ (λ_ s=>s) (by show k2+1<=_;omega) (by show V.length - (k2+1)<V.length - k2;omega)
 try simp only [df] at h97
 obtain rfl:k2=V.length:=by omega
 rw [aI] at htl|-;refine .ex<|.eb<|.sm Z<|.yw (.call PP Z (λW s=>KT H3 (((G.up u1.up).up u2.up).up u3.up) _ (by omega) W s.agr))<|.az Z<|?_
 exact y9 Z Z λW s=>⟨Z,s.ext⟩
variable {H:Type} {enc:TypeId × Value->H}
variable {f:FuncId}
theorem wrap {a:Assume} {C:Checked} {os:Os} {fn:Func} {s:ChangeSpec} {conds:List PathCond} {apart fresh handsOn cH4:Bool} {X:World->Array Value->Prop} 
 (hX:∀ (w w':World) (args:Array Value),w.heap=w'.heap->X w args->X w' args)
 (own:ownKnob C.prog.godebug=none) (started:os.Started) (noInit:C.prog.inits.idxOf? f=none) (hfn:C.prog.funcs[f]? = some fn)
 (witness:∃ (w:World) (tape:Tape) (i:Input),w.os=os/\(w.forCall tape i).Shaped C.prog/\i.vars=[]/\Input.okWide C.prog (w.forCall tape i) .any w.heap.size f i /\
  ((s.pre enc C.prog fn conds apart (w.forCall tape i).memory i.args/\X (w.forCall tape i).memory i.args)/\sizedMet enc C.prog fn (OpenSpec.ofChange s) apart (w.forCall tape i).memory i.args)/\a.holds C.prog (lone (Frame.enter C.prog f i.args .normal) [] (w.forCall tape i)))
 (contract:∀ (W:World) (base:Nat) (args:Array Value) (ds gs:List (DataW H)) (before:List MemPlace),
  (∀ (j:Nat) t v,fn.params[j]? = some t->args[j]? = some v->Value.okWide C.prog W .any base t v) ->
  DataW.Whole enc C.prog fn.params.toList s.vars apart W args.toList ds gs before ->
  X W args->W.ShapedOpen C.prog ->
  Calls C.prog f args W λe W'=>∃ v,e=.returned v/\s.post enc C.prog fn apart fresh handsOn cH4 W args v W') :
 ReturnsInHanded a C os f .any (λw args=>(s.pre enc C.prog fn conds apart w args/\X w args)/\sizedMet enc C.prog fn (OpenSpec.ofChange s) apart w args) (s.post enc C.prog fn apart fresh handsOn cH4):=by
 refine returnsInHanded_of_calls own started noInit witness ?_;intro w tape i _ hsh _ hok hpre _;obtain ⟨_,_,_,fn',hfn',_,_,_,_,hval⟩:=hok;have e:fn'=fn:=aW (hfn'.symm.trans hfn);subst e;obtain ⟨⟨⟨ds,gs,before,hw,_⟩,hx⟩,_⟩:=hpre;have hw':=DataW.Whole.of_heap (w':=w.forCall tape i) (by rfl) hw;refine (contract (w.forCall tape i) w.heap.size i.args ds gs before hval hw' (hX _ _ _ (by rfl) hx) hsh).mono λe W' ⟨v,he,hp⟩=>?_;subst he;exact ChangeSpec.post_blind hp

theorem own:ownKnob prg.godebug=none:=by kernel_rfl
def MO:List (String × DataW Unit):=[("math/bits.deBruijn32tab",Rows.laid_math_bits_deBruijn32tab),("math/bits.deBruijn64tab",Rows.laid_math_bits_deBruijn64tab),("internal/strconv.uint64pow10",Rows.laid_internal_strconv_uint64pow10),("rootcause/lexer.words",Rows.laid_rootcause_lexer_words),("rootcause/lexer.symbols",Rows.laid_rootcause_lexer_symbols),("rootcause/syntax.shapes",Rows.laid_rootcause_syntax_shapes),("rootcause/syntax.forms",Rows.laid_rootcause_syntax_forms)]
theorem dD5:prg.globalNamed "internal/strconv.uint64pow10" = some 4:=by kernel_rfl
theorem dD4:(prg.globals[4]?).map (·.type)=some 261:=by kernel_rfl
theorem cG3:prg.cellsOf 261=20:=by kernel_rfl
theorem bO6:prg.cellsOf 250=1:=by kernel_rfl
theorem dA3:(Rows.laid_internal_strconv_uint64pow10:DataW Unit)=Lib.tabData .u64 Lib.pow10Tab:=by kernel_rfl
variable {W:World}
theorem dD0 (h:laidMet prg MO W):Gt (WD W):=by
 intro W' hA;have h1:Lib.TabIs prg W "internal/strconv.uint64pow10" .u64 Lib.pow10Tab:=Lib.tabIs_of_head dD5 dD4 Tryz.underlying261 Tryz.underlying250 bO6 cG3 (dA3 ▸ h.tail.tail);unfold Lib.TabIs World.var? at *;rw [dD5] at *;simp only [kJ] at *
 split at h1
 ·rename_i cs T m hb;rw [hA 4 _ hb];exact h1
 ·cases h1
theorem dD3 (h:laidMet prg MO W):Gl (WD W) :=
 ⟨MP (t:=201) (.arr 24 (.str [.int .i64,.bool,.int .i64,.strg])) _ (by kernel_rfl) (by kernel_rfl) (by kernel_rfl) (by kernel_rfl) (by kernel_rfl) h.tail.tail.tail.tail.tail,
  MP (t:=257) (.arr 11 (.str [.bool,.bool,.int .i64,.int .i64,.bool,.bool])) _ (by kernel_rfl) (by kernel_rfl) (by kernel_rfl) (by kernel_rfl) (by kernel_rfl) h.tail.tail.tail.tail.tail.tail,
  MP (t:=242) (.arr 39 .strg) _ (by kernel_rfl) (by kernel_rfl) (by kernel_rfl) (by kernel_rfl) (by kernel_rfl) h.tail.tail.tail,
  MP (t:=220) (.arr 25 .strg) _ (by kernel_rfl) (by kernel_rfl) (by kernel_rfl) (by kernel_rfl) (by kernel_rfl) h.tail.tail.tail.tail⟩
theorem cC5 (os:Os) (args:Array Value):laidMet prg MO ((World.laidAll prg os MO).forCall (λ_ _=>0) ⟨#[],args,[]⟩).memory :=
 laidMet_laidAll _ (by kernel_rfl) (by kernel_rfl)
theorem aM8 (os:Os) (args:Array Value):((World.laidAll prg os MO).forCall (λ_ _=>0) ⟨#[],args,[]⟩).Shaped prg :=
 World.shaped_of_ZipB (by kernel_rfl) (by kernel_rfl)
variable {W':World}
theorem cF0 (h:Ext W W'):∀ may,W.keptBut W' may:=λmay=>(Ext.below h).frame may
theorem bG6:laidOutB prg=true:=by kernel_rfl
end Go.Proofs.YthhoebdlfjffkaaGreatDoor
