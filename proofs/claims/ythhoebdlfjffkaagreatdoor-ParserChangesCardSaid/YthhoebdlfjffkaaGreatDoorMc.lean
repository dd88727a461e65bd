/- Texts of the proof, one behind the other. -/
import Derived.Test.YthhoebdlfjffkaaGreatDoorMb
import Derived.Shelf.Strings.Builder1
import Derived.Shelf.Strings.Builder2
import Derived.Shelf.Strings.OnBuilder
import Derived.Shelf.Small.Wraps
import Derived.Shelf.Strings.BuilderF
import Derived.Shelf.Strings.BuilderK
import Derived.Shelf.Strings.Builder2Cap
import Derived.Shelf.Strconv.Itoa0
import Derived.Shelf.Strconv.Itoa1
import Derived.Shelf.LaysM
import Derived.Shelf.Strconv.Itoa2
import Derived.Shelf.Strconv.Itoa3
import Derived.Shelf.Strconv.Itoa4
import Derived.Shelf.Strings.Prefix
import Derived.Shelf.Strings.BuilderCap
import Derived.Test.YthhoebdlfjffkaaGreatDoorProg
set_option linter.all false
set_option maxRecDepth 100000
namespace Go.Proofs.YthhoebdlfjffkaaGreatDoor
open Go.RowKit Go.Par Go.Sx Tryz
theorem TC (c:UInt8) (w:World):Calls prg 114 #[kF c] w λr w'=>r=.returned (.bool (rV c))/\Ext w w':=by
 refine y6 func114 Z ntmps114 Z ?_;refine .sr<|.a Z Z<|.ns<|.mv Z<|.yw (.geq Z Z)<|.mv Z<|.e2 (λh5=>?_) (λh5=>?_)
 ·refine .gy (.move Z)<|.gy (.leq Z Z)<|.yw (.pickT Z Z)<|.mv Z<|.e2 (λh9=>?_) (λh9=>?_)
  ·refine .gG<|.gG<|.gG<|.gV<|.gV<|.gG<|.yw (.pickT Z Z)<|.az Z<|?_
   exact y9 Z Z λW s=>⟨fP (by simp only [rV,cO,aF,aB,reduceCtorEq,iY,hU,iZ,hG,fC,dX,aC];try omega),s.ext⟩
  refine .gy (.move Z)<|.gy (.geq Z Z)<|.gy (.move Z)<|.b2 (λh12=>?_) (λh12=>?_)
  ·try simp only [dt] at h12
   refine .gy (.move Z)<|.gy (.leq Z Z)<|.gy (.pickT Z Z)<|.yw (.pickF Z Z)<|.az Z<|?_
   exact y9 Z Z λW s=>⟨fP (by simp only [rV,cO,aF,aB,reduceCtorEq,iY,hU,iZ,hG,fC,dX,aC];try omega),s.ext⟩
  try simp only [df] at h12
  refine .gG<|.gG<|.gy (.pickF Z Z)<|.yw (.pickF Z Z)<|.az Z<|?_
  exact y9 Z Z λW s=>⟨fP (by simp only [rV,cO,aF,aB,reduceCtorEq,iY,hU,iZ,hG,fC,dX,aC];try omega),s.ext⟩
 refine .gG<|.gG<|.yw (.pickF Z Z)<|.mv Z<|.gy (.move Z)<|.gy (.geq Z Z)<|.gy (.move Z)<|.b2 (λh12=>?_) (λh12=>?_)
 ·try simp only [dt] at h12
  refine .gy (.move Z)<|.gy (.leq Z Z)<|.gy (.pickT Z Z)<|.yw (.pickF Z Z)<|.az Z<|?_
  exact y9 Z Z λW s=>⟨fP (by simp only [rV,cO,aF,aB,reduceCtorEq,iY,hU,iZ,hG,fC,dX,aC];try omega),s.ext⟩
 try simp only [df] at h12
 refine .gG<|.gG<|.gy (.pickF Z Z)<|.yw (.pickF Z Z)<|.az Z<|?_
 exact y9 Z Z λW s=>⟨fP (by simp only [rV,cO,aF,aB,reduceCtorEq,iY,hU,iZ,hG,fC,dX,aC];try omega),s.ext⟩
theorem IT (c:UInt8) (w:World):Calls prg 117 #[kF c] w λr w'=>r=.returned (.bool (kK c))/\Ext w w':=by
 refine y6 func117 Z ntmps117 Z ?_;refine .sr<|.a Z Z<|.ns<|.mv Z<|.yw (.geq Z Z)<|.mv Z<|.e2 (λh5=>?_) (λh5=>?_)
 ·refine .gy (.move Z)<|.gy (.leq Z Z)<|.yw (.pickT Z Z)<|.az Z<|?_
  exact y9 Z Z λW s=>⟨fP (by simp only [kK,cO,aF,aB,reduceCtorEq,iY,hU,iZ,hG,fC,dX,aC];try omega),s.ext⟩
 refine .gG<|.gG<|.yw (.pickF Z Z)<|.az Z<|?_
 exact y9 Z Z λW s=>⟨fP (by simp only [kK,cO,aF,aB,reduceCtorEq,iY,hU,iZ,hG,fC,dX,aC];try omega),s.ext⟩
theorem PY (c:UInt8) (w:World):Calls prg 131 #[kF c] w λr w'=>r=.returned (.bool (rV c))/\Ext w w':=by
 refine y6 func131 Z ntmps131 Z ?_;refine .sr<|.a Z Z<|.ns<|.mv Z<|.yw (.geq Z Z)<|.mv Z<|.e2 (λh5=>?_) (λh5=>?_)
 ·refine .gy (.move Z)<|.gy (.leq Z Z)<|.yw (.pickT Z Z)<|.mv Z<|.e2 (λh9=>?_) (λh9=>?_)
  ·refine .gG<|.gG<|.gG<|.gV<|.gV<|.gG<|.yw (.pickT Z Z)<|.az Z<|?_
   exact y9 Z Z λW s=>⟨fP (by simp only [rV,cO,aF,aB,reduceCtorEq,iY,hU,iZ,hG,fC,dX,aC];try omega),s.ext⟩
  refine .gy (.move Z)<|.gy (.geq Z Z)<|.gy (.move Z)<|.b2 (λh12=>?_) (λh12=>?_)
  ·try simp only [dt] at h12
   refine .gy (.move Z)<|.gy (.leq Z Z)<|.gy (.pickT Z Z)<|.yw (.pickF Z Z)<|.az Z<|?_
   exact y9 Z Z λW s=>⟨fP (by simp only [rV,cO,aF,aB,reduceCtorEq,iY,hU,iZ,hG,fC,dX,aC];try omega),s.ext⟩
  try simp only [df] at h12
  refine .gG<|.gG<|.gy (.pickF Z Z)<|.yw (.pickF Z Z)<|.az Z<|?_
  exact y9 Z Z λW s=>⟨fP (by simp only [rV,cO,aF,aB,reduceCtorEq,iY,hU,iZ,hG,fC,dX,aC];try omega),s.ext⟩
 refine .gG<|.gG<|.yw (.pickF Z Z)<|.mv Z<|.gy (.move Z)<|.gy (.geq Z Z)<|.gy (.move Z)<|.b2 (λh12=>?_) (λh12=>?_)
 ·try simp only [dt] at h12
  refine .gy (.move Z)<|.gy (.leq Z Z)<|.gy (.pickT Z Z)<|.yw (.pickF Z Z)<|.az Z<|?_
  exact y9 Z Z λW s=>⟨fP (by simp only [rV,cO,aF,aB,reduceCtorEq,iY,hU,iZ,hG,fC,dX,aC];try omega),s.ext⟩
 try simp only [df] at h12
 refine .gG<|.gG<|.gy (.pickF Z Z)<|.yw (.pickF Z Z)<|.az Z<|?_
 exact y9 Z Z λW s=>⟨fP (by simp only [rV,cO,aF,aB,reduceCtorEq,iY,hU,iZ,hG,fC,dX,aC];try omega),s.ext⟩
theorem FQ (c:UInt8) (w:World):Calls prg 132 #[kF c] w λr w'=>r=.returned (.bool (kK c))/\Ext w w':=by
 refine y6 func132 Z ntmps132 Z ?_;refine .sr<|.a Z Z<|.ns<|.mv Z<|.yw (.geq Z Z)<|.mv Z<|.e2 (λh5=>?_) (λh5=>?_)
 ·refine .gy (.move Z)<|.gy (.leq Z Z)<|.yw (.pickT Z Z)<|.az Z<|?_
  exact y9 Z Z λW s=>⟨fP (by simp only [kK,cO,aF,aB,reduceCtorEq,iY,hU,iZ,hG,fC,dX,aC];try omega),s.ext⟩
 refine .gG<|.gG<|.yw (.pickF Z Z)<|.az Z<|?_
 exact y9 Z Z λW s=>⟨fP (by simp only [kK,cO,aF,aB,reduceCtorEq,iY,hU,iZ,hG,fC,dX,aC];try omega),s.ext⟩
theorem aW4 (c:UInt8) (w:World):Calls prg 115 #[kF c] w λr w'=>r=.returned (.bool (kY c))/\Ext w w':=by
 refine y6 func115 Z ntmps115 Z ?_;refine .sr<|.a Z Z<|.ns<|.mv Z<|.yw (.call UZ Z (λW s=>TC c W))<|.mv Z<|.b2 (λh5=>?_) (λh5=>?_)
 ·refine .gG<|.gG<|.yw (.pickT Z Z)<|.mv Z<|.gG<|.gG<|.yw (.pickT Z Z)<|.az Z<|?_
  exact y9 Z Z λW s=>⟨fP (by simp_all [kY];try omega),s.ext⟩
 refine .gy (.move Z)<|.gy (.call GJ Z (λW s=>IT c W))<|.yw (.pickF Z Z)<|.mv Z<|.b2 (λh9=>?_) (λh9=>?_)
 ·refine .gG<|.gG<|.yw (.pickT Z Z)<|.az Z<|?_
  exact y9 Z Z λW s=>⟨fP (by simp_all [kY];try omega),s.ext⟩
 refine .gy (.move Z)<|.gy (.eql Z Z)<|.yw (.pickF Z Z)<|.az Z<|?_
 exact y9 Z Z λW s=>⟨fP (by simp_all [kY];try omega),s.ext⟩
theorem CJ (gf:FuncId) (q:UInt8->Bool) (hf:cU prg gf=true) (hg:∀ b w,Calls prg gf #[kF b] w λr w'=>r=.returned (.bool (q b))/\Ext w w') (l:Str) (hl:l.length<=9223372036854775807) (w:World) :
 Calls prg 110 #[cJ l,.func (.func gf) #[] #[]] w λr w'=>r=.returned (iN (pre q l))/\Ext w w':=by
 refine y6 func110 Z ntmps110 Z ?_;refine .sr<|.a Z Z<|.ns<|.aq Z<|.sq<|.bk<|.lp (X:=Nat) [(0,_),(1,_)] ⟨Z,Z,Jt⟩ [] (λk=>[(5,iN k)]) (λk=>(λ_=>none)) (λk=>[]) (λk=>k<=pre q l) (λk=>l.length - k) 0 (λ_ s=>s) ⟨Z,Jt⟩ (by omega) λk hC=>?_
 have hp:=yM q l;refine .sq<|.sm Z<|.mv Z<|.yw (.lenS eQ Z)<|.yw (.lss Z Z)<|.mv Z<|.e2 (λh10=>?_) (λh10=>?_)
 ·have hk:k<l.length:=by omega
  refine .gy (.move Z)<|.gy (.move Z)<|.gy (.move Z)<|.gy (.idxS eQ Z Z Z (List.getElem?_eq_getElem hk))<|.gy (.callV (fi:=[]) (ca:=[]) Z hf Z (λW s=>hg _ W))<|.yw (.pickT Z Z)<|.nt<|.cd Z (λh16=>?_) (λh16=>?_)
  ·exact .sk<|.tN<|.bk<|.rg<|.mv Z<|.yw (.add Z Z w7)<|.a Z Z<|.nl<|.bN<|.tN<|.ag (k+1) ⟨Z,Jt⟩ ⟨Z,Z,Jt⟩ (λ_ s=>s) (uY hk hC (by simpa using h16)) (by omega)
  refine .ex<|.eb<|.sm Z<|.az Z<|?_
  first
   | exact y9 Z Z λW s=>⟨by rw [show k=pre q l by omega],s.ext⟩
   | exact y9 Z Z λW s=>⟨by rw [CK hk hC (by simpa using h16)],s.ext⟩
 refine .gG<|.gG<|.gG<|.gG<|.gG<|.yw (.pickF Z Z)<|.nt<|.cF Z<|.ex<|.eb<|.sm Z<|.az Z<|?_
 first
  | exact y9 Z Z λW s=>⟨by rw [show k=pre q l by omega],s.ext⟩
  | exact y9 Z Z λW s=>⟨by rw [CK hk hC (by simpa using h16)],s.ext⟩
theorem aN0 (H:Hp) (G:Gl H) (l:Str) (w:World) (hA:Agr H w) :
 Calls prg 116 #[cJ l] w λr w'=>r=.returned (.bool (words.contains l))/\Ext w w':=by
 refine Sx.enter (H:=H) func116 rfl ntmps116 rfl hA ?_;refine .sr<|.aq Z<|.sq<|.sr<|.yw (.loadMW Z bV2 G.words Z)<|.mv Z<|.nt<|.bk<|.lp (X:=Nat) [(0,_),(5,_)] ⟨Z,Z,Jt⟩ [] (λk=>[(6,iN k)]) (λk=>H) (λk=>[]) (λk=>k<=39/\∀ j,j<k->words.getD j []≠l) (λk=>39 - k) 0 (λ_ s=>s) ⟨Z,Jt⟩ ⟨by omega,λj hj=>by omega⟩ λk hC=>?_
 obtain ⟨hk,hne⟩:=hC;refine .sr<|.yw (.lss Z Z)<|.nt<|.sq<|.ce Z (λh7=>?_) (λh7=>?_)
 ·refine .sk<|.tN<|.sq<|.bk<|.sr<|.yw (.idxA bU7 bV0 Z Z Z (by omega) (RR (by show k<39;omega) []))<|.a Z Z<|.ns<|.mv Z<|.mv Z<|.yw (.eqS Z Z)<|.nt<|.ce Z (λh11=>?_) (λh11=>?_)
  ·have hmem:l∈words:=by
    rw [<-h11,oO (show k<words.length by show k<39;omega)];exact cD _
   refine .sr<|.az Z<|.bR<|.tR<|.tR<|.bR<|.tR<|?_
   exact y9 Z Z λW s=>⟨fP (by simp [iL, *]),s.ext⟩
  exact .sk<|.bN<|.tN<|.rg<|.yw (.add Z Z w7)<|.mv Z<|.nt<|.ag (k+1) ⟨Z,Jt⟩ ⟨Z,Z,Jt⟩ (λ_ s=>s) ⟨by omega,λj hj=>by
   by_cases e:j=k
   ·subst e;exact h11
   ·exact hne j (by omega)⟩ (by omega)
 have hno:l ∉ words:=λhm=>by
  obtain ⟨j,hj,e⟩:=sO.1 hm;have hj2:j<39:=hj;exact hne j (by omega) (by rw [oO hj];exact e)
 refine .ex<|.eb<|.sr<|.az Z<|?_
 exact y9 Z Z λW s=>⟨fP (by simp [iL, *]),s.ext⟩
theorem TH (l m:Str) (w:World):Calls prg 145 #[cJ l,cJ m] w λr w'=>r=.returned (.bool (DI l m))/\Ext w w':=by
 refine y6 func145 Z ntmps145 Z ?_;refine .sr<|.a Z Z<|.ns<|.mv Z<|.yw (.lenS eQ Z)<|.mv Z<|.yw (.lenS eQ Z)<|.yw (.geq Z Z)<|.mv Z<|.e2 (λh10=>?_) (λh10=>?_)
 ·refine .gy (.move Z)<|.gy (.move Z)<|.gy (.lenS eQ Z)<|.gy (.takeS eQ Z Z Z (by omega))<|.gy (.move Z)<|.gy (.eqS Z Z)<|.yw (.pickT Z Z)<|.az Z<|?_
  exact y9 Z Z λW s=>⟨fP (by first | (simp only [DI,cO,aF,aB,reduceCtorEq,iY,hU,iZ,hG,fC,dX,aC];omega) | exact ⟨λe=>by simp only [DI,cO,aF,aB,reduceCtorEq,iY,hU,iZ,hG,fC,dX,aC] at e|-;exact ⟨by omega,e⟩,λe=>by simp only [DI,cO,aF,aB,reduceCtorEq,iY,hU,iZ,hG,fC,dX,aC] at e|-;exact e.2⟩),s.ext⟩
 refine .gG<|.gG<|.gG<|.gG<|.gG<|.gG<|.yw (.pickF Z Z)<|.az Z<|?_
 exact y9 Z Z λW s=>⟨fP (by first | (simp only [DI,cO,aF,aB,reduceCtorEq,iY,hU,iZ,hG,fC,dX,aC];omega) | exact ⟨λe=>by simp only [DI,cO,aF,aB,reduceCtorEq,iY,hU,iZ,hG,fC,dX,aC] at e|-;exact ⟨by omega,e⟩,λe=>by simp only [DI,cO,aF,aB,reduceCtorEq,iY,hU,iZ,hG,fC,dX,aC] at e|-;exact e.2⟩),s.ext⟩
theorem JU (l m:Str) (w:World):Calls prg 112 #[cJ l,cJ m] w λr w'=>r=.returned (.bool (DI l m))/\Ext w w':=by
 refine y6 func112 Z ntmps112 Z ?_;refine .sr<|.a Z Z<|.ns<|.mv Z<|.mv Z<|.yw (.call aZ9 Z (λW s=>TH l m W))<|.az Z<|?_
 exact y9 Z Z λW s=>⟨Z,s.ext⟩
theorem bV3:jP prg 220=some (some 25):=by kernel_rfl
theorem bV1:cR0 prg 220=true:=by kernel_rfl
theorem bU8:aF5 prg 220=some (25,1):=by kernel_rfl
theorem ZL:cU prg 70=true:=by kernel_rfl
theorem DB:cU prg 110=true:=by kernel_rfl
theorem VA:cU prg 112=true:=by kernel_rfl
theorem bA9:cU prg 115=true:=by kernel_rfl
theorem bA8:cU prg 116=true:=by kernel_rfl
variable {k:Nat}
theorem aI5 {l:Str} (hk:k<25) (h0:∀ j,j<k->DI l (symbols.getD j [])=false) (h1:DI l (symbols.getD k [])=true):symbols.find? (λx=>x.isPrefixOf l)=some (symbols.getD k []):=by
 have hk':k<symbols.length:=hk;rw [oO hk'] at h1|-;rw [HD] at h1;refine List.find?_eq_some_iff_getElem.2 ⟨h1,k,hk',Z,λj hj=>?_⟩;have:=h0 j hj;rw [oO (by omega),HD] at this;simp [this]
theorem aI4 {l:Str} (h0:∀ j,j<25->DI l (symbols.getD j [])=false):symbols.find? (λx=>x.isPrefixOf l)=none:=by
 rw [List.find?_eq_none];intro x hx;obtain ⟨j,hj,rfl⟩:=sO.1 hx;have:=h0 j hj;rw [oO hj,HD] at this;simp [this]
theorem aJ9 (H:Hp) (G:Gl H) (l:Str) (hl:l.length<=9223372036854775807) (h0:l≠[]) (w:World) (hA:Agr H w) :
 Calls prg 70 #[cJ l] w λe w'=>e=.returned (.tuple #[.int .u8 ((bK l).1.toNat:Nat),iN ((bK l).2)])/\Ext w w':=by
 match l,h0 with
 | c::r,_ =>
 refine Sx.enter (H:=H) func70 rfl ntmps70 rfl hA ?_;refine .sr<|.a Z Z<|.aq Z<|.sq<|.sm Z<|.yw (.idxS eQ Z Z Z (b:=c) (j:=0) Z)<|.aq Z<|.bk<|.sm Z<|.yw (.call UZ Z (λW s=>TC c W))<|.aq Z<|.cd Z (λh21=>?_) (λh21=>?_)
 ·refine .sm Z<|.yw (.call DB Z (λW s=>CJ 115 kY bA9 aW4 (c::r) hl W))<|.aq Z<|.sq<|.sm Z<|.mv Z<|.yw (.takeS eQ Z Z Z (yM _ _))<|.yw (.call bA8 Z (λW s=>aN0 H G _ W s.agr))<|.nt<|.cd Z (λh29=>?_) (λh29=>?_)
  ·refine .sm Z<|.a Z Z<|.az Z<|.tR<|.bR<|.tR<|?_
   first
    | exact y7 Z (.cons (.tmp rfl) (.cons (.tmp rfl) .nil)) rfl λW s=>⟨by simp only [bK,aG,h21,h29,aN];rfl,s.ext⟩
    | exact y7 Z (.cons (.tmp rfl) (.cons (.tmp rfl) .nil)) rfl λW s=>⟨by simp only [bK,aG,h21,h29,aN,aC,aL,show pre kY (c::r)<=12 by omega];rfl,s.ext⟩
    | exact y7 Z (.cons (.tmp rfl) (.cons (.tmp rfl) .nil)) rfl λW s=>⟨by simp only [bK,aG,h21,h29,aN,aC,aL,show ¬ pre kY (c::r)<=12 by omega];rfl,s.ext⟩
    | exact y7 Z (.cons (.tmp rfl) (.cons (.tmp rfl) .nil)) rfl λW s=>⟨by simp only [bK,aG,h21,h34,aN,aC,aL,hor];rfl,s.ext⟩
    | exact y7 Z (.cons (.tmp rfl) (.cons (.tmp rfl) .nil)) rfl λW s=>⟨by simp only [bK,aG,h21,h34,aC,aL,hfind];rfl,s.ext⟩
  refine .sk<|.tN<|.sm Z<|.yw (.leq Z Z)<|.nt<|.ce Z (λh32=>?_) (λh32=>?_)
  ·refine .sm Z<|.a Z Z<|.az Z<|.bR<|.tR<|?_
   first
    | exact y7 Z (.cons (.tmp rfl) (.cons (.tmp rfl) .nil)) rfl λW s=>⟨by simp only [bK,aG,h21,h29,aN];rfl,s.ext⟩
    | exact y7 Z (.cons (.tmp rfl) (.cons (.tmp rfl) .nil)) rfl λW s=>⟨by simp only [bK,aG,h21,h29,aN,aC,aL,show pre kY (c::r)<=12 by omega];rfl,s.ext⟩
    | exact y7 Z (.cons (.tmp rfl) (.cons (.tmp rfl) .nil)) rfl λW s=>⟨by simp only [bK,aG,h21,h29,aN,aC,aL,show ¬ pre kY (c::r)<=12 by omega];rfl,s.ext⟩
    | exact y7 Z (.cons (.tmp rfl) (.cons (.tmp rfl) .nil)) rfl λW s=>⟨by simp only [bK,aG,h21,h34,aN,aC,aL,hor];rfl,s.ext⟩
    | exact y7 Z (.cons (.tmp rfl) (.cons (.tmp rfl) .nil)) rfl λW s=>⟨by simp only [bK,aG,h21,h34,aC,aL,hfind];rfl,s.ext⟩
  refine .sk<|.bN<|.tN<|.sm Z<|.yw (.lenS eQ Z)<|.a Z Z<|.az Z<|?_
  first
   | exact y7 Z (.cons (.tmp rfl) (.cons (.tmp rfl) .nil)) rfl λW s=>⟨by simp only [bK,aG,h21,h29,aN];rfl,s.ext⟩
   | exact y7 Z (.cons (.tmp rfl) (.cons (.tmp rfl) .nil)) rfl λW s=>⟨by simp only [bK,aG,h21,h29,aN,aC,aL,show pre kY (c::r)<=12 by omega];rfl,s.ext⟩
   | exact y7 Z (.cons (.tmp rfl) (.cons (.tmp rfl) .nil)) rfl λW s=>⟨by simp only [bK,aG,h21,h29,aN,aC,aL,show ¬ pre kY (c::r)<=12 by omega];rfl,s.ext⟩
   | exact y7 Z (.cons (.tmp rfl) (.cons (.tmp rfl) .nil)) rfl λW s=>⟨by simp only [bK,aG,h21,h34,aN,aC,aL,hor];rfl,s.ext⟩
   | exact y7 Z (.cons (.tmp rfl) (.cons (.tmp rfl) .nil)) rfl λW s=>⟨by simp only [bK,aG,h21,h34,aC,aL,hfind];rfl,s.ext⟩
 refine .sm Z<|.yw (.call GJ Z (λW s=>IT c W))<|.aq Z<|.cd Z (λh34=>?_) (λh34=>?_)
 ·refine .sm Z<|.yw (.call DB Z (λW s=>CJ 117 kK GJ IT (c::r) hl W))<|.a Z Z<|.ns<|.mv Z<|.yw (.eql Z Z)<|.mv Z<|.e2 (λh41=>?_) (λh41=>?_)
  ·have hor:(pre kK (c::r)=1\/c≠48)=True:=eq_true (.inl (by omega));refine .gG<|.gG<|.yw (.pickT Z Z)<|.nt<|.cT Z<|.sm Z<|.a Z Z<|.az Z<|.bR<|.tR<|?_
   first
    | exact y7 Z (.cons (.tmp rfl) (.cons (.tmp rfl) .nil)) rfl λW s=>⟨by simp only [bK,aG,h21,h29,aN];rfl,s.ext⟩
    | exact y7 Z (.cons (.tmp rfl) (.cons (.tmp rfl) .nil)) rfl λW s=>⟨by simp only [bK,aG,h21,h29,aN,aC,aL,show pre kY (c::r)<=12 by omega];rfl,s.ext⟩
    | exact y7 Z (.cons (.tmp rfl) (.cons (.tmp rfl) .nil)) rfl λW s=>⟨by simp only [bK,aG,h21,h29,aN,aC,aL,show ¬ pre kY (c::r)<=12 by omega];rfl,s.ext⟩
    | exact y7 Z (.cons (.tmp rfl) (.cons (.tmp rfl) .nil)) rfl λW s=>⟨by simp only [bK,aG,h21,h34,aN,aC,aL,hor];rfl,s.ext⟩
    | exact y7 Z (.cons (.tmp rfl) (.cons (.tmp rfl) .nil)) rfl λW s=>⟨by simp only [bK,aG,h21,h34,aC,aL,hfind];rfl,s.ext⟩
  refine .gy (.move Z)<|.gy (.neq Z Z)<|.yw (.pickF Z Z)<|.nt<|.ce Z (λh44=>?_) (λh44=>?_)
  ·have hor:(pre kK (c::r)=1\/c≠48)=True:=eq_true (.inr λe=>h44 (by rw [e];rfl));refine .sm Z<|.a Z Z<|.az Z<|.bR<|.tR<|?_
   first
    | exact y7 Z (.cons (.tmp rfl) (.cons (.tmp rfl) .nil)) rfl λW s=>⟨by simp only [bK,aG,h21,h29,aN];rfl,s.ext⟩
    | exact y7 Z (.cons (.tmp rfl) (.cons (.tmp rfl) .nil)) rfl λW s=>⟨by simp only [bK,aG,h21,h29,aN,aC,aL,show pre kY (c::r)<=12 by omega];rfl,s.ext⟩
    | exact y7 Z (.cons (.tmp rfl) (.cons (.tmp rfl) .nil)) rfl λW s=>⟨by simp only [bK,aG,h21,h29,aN,aC,aL,show ¬ pre kY (c::r)<=12 by omega];rfl,s.ext⟩
    | exact y7 Z (.cons (.tmp rfl) (.cons (.tmp rfl) .nil)) rfl λW s=>⟨by simp only [bK,aG,h21,h34,aN,aC,aL,hor];rfl,s.ext⟩
    | exact y7 Z (.cons (.tmp rfl) (.cons (.tmp rfl) .nil)) rfl λW s=>⟨by simp only [bK,aG,h21,h34,aC,aL,hfind];rfl,s.ext⟩
  have hor:(pre kK (c::r)=1\/c≠48)=False:=eq_false λh=>by
   rcases h with h | h
   ·omega
   ·exact h (bT.1 (by show c.toNat=48;simp at h44;omega))
  refine .sk<|.bN<|.tN<|.sm Z<|.yw (.lenS eQ Z)<|.a Z Z<|.az Z<|?_
  first
   | exact y7 Z (.cons (.tmp rfl) (.cons (.tmp rfl) .nil)) rfl λW s=>⟨by simp only [bK,aG,h21,h29,aN];rfl,s.ext⟩
   | exact y7 Z (.cons (.tmp rfl) (.cons (.tmp rfl) .nil)) rfl λW s=>⟨by simp only [bK,aG,h21,h29,aN,aC,aL,show pre kY (c::r)<=12 by omega];rfl,s.ext⟩
   | exact y7 Z (.cons (.tmp rfl) (.cons (.tmp rfl) .nil)) rfl λW s=>⟨by simp only [bK,aG,h21,h29,aN,aC,aL,show ¬ pre kY (c::r)<=12 by omega];rfl,s.ext⟩
   | exact y7 Z (.cons (.tmp rfl) (.cons (.tmp rfl) .nil)) rfl λW s=>⟨by simp only [bK,aG,h21,h34,aN,aC,aL,hor];rfl,s.ext⟩
   | exact y7 Z (.cons (.tmp rfl) (.cons (.tmp rfl) .nil)) rfl λW s=>⟨by simp only [bK,aG,h21,h34,aC,aL,hfind];rfl,s.ext⟩
 refine .sr<|.yw (.loadMW Z bV3 G.symbols Z)<|.mv Z<|.nt<|.bk<|.lp (X:=Nat) [(0,_),(11,_)] ⟨Z,Z,Jt⟩ [] (λk=>[(12,iN k)]) (λk=>H) (λk=>[]) (λk=>k<=25/\∀ j,j<k->DI (c::r) (symbols.getD j [])=false) (λk=>25 - k) 0 (λ_ s=>s) ⟨Z,Jt⟩ ⟨by omega,λj hj=>by omega⟩ λk hC=>?_
 obtain ⟨hk,hne⟩:=hC;refine .sr<|.yw (.lss Z Z)<|.nt<|.sq<|.ce Z (λh13=>?_) (λh13=>?_)
 ·refine .sk<|.tN<|.sq<|.bk<|.sr<|.yw (.idxA bU8 bV1 Z Z Z (by omega) (RR (by show k<25;omega) []))<|.a Z Z<|.ns<|.mv Z<|.mv Z<|.yw (.call VA Z (λW s=>JU (c::r) _ W))<|.nt<|.cd Z (λh17=>?_) (λh17=>?_)
  ·have hfind:=aI5 (by omega) hne h17;refine .sm Z<|.yw (.lenS eQ Z)<|.a Z Z<|.az Z<|.bR<|.tR<|.tR<|.bR<|.bR<|.tR<|?_
   first
    | exact y7 Z (.cons (.tmp rfl) (.cons (.tmp rfl) .nil)) rfl λW s=>⟨by simp only [bK,aG,h21,h29,aN];rfl,s.ext⟩
    | exact y7 Z (.cons (.tmp rfl) (.cons (.tmp rfl) .nil)) rfl λW s=>⟨by simp only [bK,aG,h21,h29,aN,aC,aL,show pre kY (c::r)<=12 by omega];rfl,s.ext⟩
    | exact y7 Z (.cons (.tmp rfl) (.cons (.tmp rfl) .nil)) rfl λW s=>⟨by simp only [bK,aG,h21,h29,aN,aC,aL,show ¬ pre kY (c::r)<=12 by omega];rfl,s.ext⟩
    | exact y7 Z (.cons (.tmp rfl) (.cons (.tmp rfl) .nil)) rfl λW s=>⟨by simp only [bK,aG,h21,h34,aN,aC,aL,hor];rfl,s.ext⟩
    | exact y7 Z (.cons (.tmp rfl) (.cons (.tmp rfl) .nil)) rfl λW s=>⟨by simp only [bK,aG,h21,h34,aC,aL,hfind];rfl,s.ext⟩
  exact .sk<|.bN<|.tN<|.rg<|.yw (.add Z Z w7)<|.mv Z<|.nt<|.ag (k+1) ⟨Z,Jt⟩ ⟨Z,Z,Jt⟩ (λ_ s=>s) ⟨by omega,λj hj=>by
   by_cases e:j=k
   ·subst e;exact h17
   ·exact hne j (by omega)⟩ (by omega)
 have hfind:=aI4 (l:=c::r) (λj hj=>hne j (by omega));refine .ex<|.tE<|.tE<|.bE<|.bN<|.tN<|.sm Z<|.yw (.lenS eQ Z)<|.a Z Z<|.az Z<|?_
 first
  | exact y7 Z (.cons (.tmp rfl) (.cons (.tmp rfl) .nil)) rfl λW s=>⟨by simp only [bK,aG,h21,h29,aN];rfl,s.ext⟩
  | exact y7 Z (.cons (.tmp rfl) (.cons (.tmp rfl) .nil)) rfl λW s=>⟨by simp only [bK,aG,h21,h29,aN,aC,aL,show pre kY (c::r)<=12 by omega];rfl,s.ext⟩
  | exact y7 Z (.cons (.tmp rfl) (.cons (.tmp rfl) .nil)) rfl λW s=>⟨by simp only [bK,aG,h21,h29,aN,aC,aL,show ¬ pre kY (c::r)<=12 by omega];rfl,s.ext⟩
  | exact y7 Z (.cons (.tmp rfl) (.cons (.tmp rfl) .nil)) rfl λW s=>⟨by simp only [bK,aG,h21,h34,aN,aC,aL,hor];rfl,s.ext⟩
  | exact y7 Z (.cons (.tmp rfl) (.cons (.tmp rfl) .nil)) rfl λW s=>⟨by simp only [bK,aG,h21,h34,aC,aL,hfind];rfl,s.ext⟩
theorem nM (H:Hp) (G:Gl H) (l:Str) (hl:l.length<=9223372036854775807) (w:World) (hA:Agr H w) :
 Calls prg 58 #[cJ l] w λr w'=>r=.returned (.bool (fK l))/\Ext w w':=by
 refine Sx.enter (H:=H) func58 rfl ntmps58 rfl hA ?_;refine .sr<|.aq Z<|.sq<|.sm Z<|.yw (.eqS Z Z)<|.nt<|.ce Z (λh6=>?_) (λh6=>?_)
 ·subst h6;refine .sr<|.az Z<|.tR<|?_
  refine y9 Z Z λW s=>⟨fP ?_,s.ext⟩
  first
   | (rw [fK,show (bK l).1=1 from h1];simp [h6];omega)
   | (rw [show fK l=false by simp [fK,h1]])
   | (rfl)
 refine .sk<|.tN<|.sm Z<|.yw (.call ZL Z (λW s=>aJ9 H G l hl h6 W s.agr))<|.mv Z<|.yw (.extract Z Z)<|.yw (.extract Z Z)<|.a Z Z<|.a Z Z<|.ns<|.mv Z<|.yw (.eql Z Z)<|.mv Z<|.e2 (λh14=>?_) (λh14=>?_)
 ·have h1:(bK l).1=1:=bT.1 (by show _=1;omega);refine .gy (.move Z)<|.gy (.move Z)<|.gy (.lenS eQ Z)<|.gy (.eql Z Z)<|.yw (.pickT Z Z)<|.az Z<|?_
  refine y9 Z Z λW s=>⟨fP ?_,s.ext⟩
  first
   | (rw [fK,show (bK l).1=1 from h1];simp [h6];omega)
   | (rw [show fK l=false by simp [fK,h1]])
   | (rfl)
 have h1:¬ (bK l).1=1:=λe=>h14 (by rw [e];rfl);refine .gG<|.gG<|.gG<|.gG<|.yw (.pickF Z Z)<|.az Z<|?_
 refine y9 Z Z λW s=>⟨fP ?_,s.ext⟩
 first
  | (rw [fK,show (bK l).1=1 from h1];simp [h6];omega)
  | (rw [show fK l=false by simp [fK,h1]])
  | (rfl)
theorem nX:jP prg 2=some none:=by kernel_rfl
theorem dZ:jP prg 3=some none:=by kernel_rfl
theorem vZ:jP prg 4=some none:=by kernel_rfl
theorem bZ:jP prg 9=some none:=by kernel_rfl
theorem rH:jP prg 24=some none:=by kernel_rfl
theorem JM:jP prg 137=some (some 4):=by kernel_rfl
theorem JK:jP prg 236=some (some 6):=by kernel_rfl
theorem bU9:aF5 prg 201=some (24,4):=by kernel_rfl
theorem bU6:aF5 prg 257=some (11,6):=by kernel_rfl
theorem JI:cU prg 30=true:=by kernel_rfl
theorem bT7:cU prg 31=true:=by kernel_rfl
theorem bT6:cU prg 32=true:=by kernel_rfl
theorem JG:cU prg 57=true:=by kernel_rfl
theorem qB:cU prg 58=true:=by kernel_rfl
theorem kZ:dL prg 27 0=some 0:=by kernel_rfl
theorem tG:dL prg 27 1=some 1:=by kernel_rfl
theorem mZ:dL prg 27 2=some 2:=by kernel_rfl
theorem KO:dL prg 137 0=some 0:=by kernel_rfl
theorem KN:dL prg 137 1=some 1:=by kernel_rfl
theorem xY:gH prg 137=some 4:=by kernel_rfl
theorem CV:gH prg 236=some 6:=by kernel_rfl
theorem CT:mD prg 137=some
 [Go.Value.int Go.IntKind.i64 (Int.ofNat 0),Go.Value.bool false,Go.Value.int Go.IntKind.i64 (Int.ofNat 0),
  Go.Value.string { data:={ toList:=[] } }]:=by kernel_rfl
theorem LD:mD prg 236=some
 [Go.Value.bool false,Go.Value.bool false,Go.Value.int Go.IntKind.i64 (Int.ofNat 0),
  Go.Value.int Go.IntKind.i64 (Int.ofNat 0),Go.Value.bool false,Go.Value.bool false]:=by kernel_rfl
theorem aA0  : gE prg 137 []=some [.int .i64 0,.bool false,.int .i64 0,.string ⟨#[]⟩]:=by kernel_rfl
theorem ZZ  : gE prg 236 []=some [.bool false,.bool false,.int .i64 0,.int .i64 0,.bool false,.bool false]:=by kernel_rfl
theorem IG (H:Hp) (G:Gl H) (op:UInt8) (w:World) (hA:Agr H w) :
 Calls prg 57 #[.int .u8 op.toNat] w λr w'=>r=.returned (.tuple #[.agg (zD (cW op)).toArray,.bool (wJ op)])/\Ext w w':=by
 refine Sx.enter (H:=H) func57 rfl ntmps57 rfl hA ?_;refine .sr<|.al CT Z λb2=>.aq Z<|.sq<|.sm Z<|.yw (.lss Z Z)<|.mv Z<|.e2 (λh6=>?_) (λh6=>?_)
 ·have hno:wJ op=false:=by simp [wJ];omega
  refine .gG<|.gG<|.yw (.pickT Z Z)<|.nt<|.cT Z<|.sr<|.yw (.build Z aA0)<|.sX .head Z Z xY Z<|.az Z<|.tR<|?_
  refine y7 Z (.cons (.cell Z JM Hm rfl) (.cons (.tmp Z) .nil)) rfl λW s=>⟨?_,s.ext⟩
  first
   | (rw [cW,hno];rfl)
   | (rw [cW,hok];rfl)
 refine .gy (.move Z)<|.gy (.gtr Z Z)<|.yw (.pickF Z Z)<|.nt<|.ce Z (λh9=>?_) (λh9=>?_)
 ·have hno:wJ op=false:=by simp [wJ];omega
  refine .sr<|.yw (.build Z aA0)<|.sX .head Z Z xY Z<|.az Z<|.tR<|?_
  refine y7 Z (.cons (.cell Z JM Hm rfl) (.cons (.tmp Z) .nil)) rfl λW s=>⟨?_,s.ext⟩
  first
   | (rw [cW,hno];rfl)
   | (rw [cW,hok];rfl)
 have hok:wJ op=true:=by simp [wJ];omega
 refine .sk<|.tN<|.sm Z<|.yw (.indexArr bU9 Z Z Z (by omega) (q:=op.toNat * 4) (by omega))<|.yw (.loadMS (k:=op.toNat * 4) (vs:=zD (shapes.getD op.toNat ⟨0,false,0,[]⟩)) Z JM G.shapes (by omega) Z (aE2 (f:=zD) (z:=4) (l:=shapes) (i:=op.toNat) (λ_=>rfl) _ (by show op.toNat<24;omega)))<|.sV .head Z Z xY Z (by simp [zD,Value.oneCell',cJ]) Z<|.az Z<|?_
 refine y7 Z (.cons (.cell Z JM Hm rfl) (.cons (.tmp Z) .nil)) rfl λW s=>⟨?_,s.ext⟩
 first
  | (rw [cW,hno];rfl)
  | (rw [cW,hok];rfl)
theorem aO4 (H:Hp) (G:Gl H) (op:UInt8) (w:World) (hA:Agr H w) :
 Calls prg 141 #[.int .u8 op.toNat] w λr w'=>r=.returned (.tuple #[.agg (JW (fM op)).toArray,.bool (uI op)])/\Ext w w':=by
 refine Sx.enter (H:=H) func141 rfl ntmps141 rfl hA ?_;refine .sr<|.al LD Z λb2=>.aq Z<|.sq<|.sm Z<|.yw (.lss Z Z)<|.mv Z<|.e2 (λh6=>?_) (λh6=>?_)
 ·have hno:uI op=false:=by simp [uI];omega
  refine .gG<|.gG<|.yw (.pickT Z Z)<|.nt<|.cT Z<|.sr<|.yw (.build Z ZZ)<|.sX .head Z Z CV Z<|.az Z<|.tR<|?_
  refine y7 Z (.cons (.cell Z JK Hm rfl) (.cons (.tmp Z) .nil)) rfl λW s=>⟨?_,s.ext⟩
  first
   | (rw [fM,hno];rfl)
   | (rw [fM,hok];rfl)
 refine .gy (.move Z)<|.gy (.gtr Z Z)<|.yw (.pickF Z Z)<|.nt<|.ce Z (λh9=>?_) (λh9=>?_)
 ·have hno:uI op=false:=by simp [uI];omega
  refine .sr<|.yw (.build Z ZZ)<|.sX .head Z Z CV Z<|.az Z<|.tR<|?_
  refine y7 Z (.cons (.cell Z JK Hm rfl) (.cons (.tmp Z) .nil)) rfl λW s=>⟨?_,s.ext⟩
  first
   | (rw [fM,hno];rfl)
   | (rw [fM,hok];rfl)
 have hok:uI op=true:=by simp [uI];omega
 refine .sk<|.tN<|.sm Z<|.yw (.indexArr bU6 Z Z Z (by omega) (q:=op.toNat * 6) (by omega))<|.yw (.loadMS (k:=op.toNat * 6) (vs:=JW (forms.getD op.toNat ⟨false,false,0,0,false,false⟩)) Z JK G.forms (by omega) Z (aE2 (f:=JW) (z:=6) (l:=forms) (i:=op.toNat) (λ_=>rfl) _ (by show op.toNat<11;omega)))<|.sV .head Z Z CV Z (by simp [JW,Value.oneCell',cJ]) Z<|.az Z<|?_
 refine y7 Z (.cons (.cell Z JK Hm rfl) (.cons (.tmp Z) .nil)) rfl λW s=>⟨?_,s.ext⟩
 first
  | (rw [fM,hno];rfl)
  | (rw [fM,hok];rfl)
def cR9 (gf:FuncId) (q:Ex->Bool):Prop:=cU prg gf=true/\∀ (H:Hp),Gl H->∀ (e:Ex) (cs:List Value) (b o:Nat) (w:World),Rep H (dEx .u8 e) cs->lB H b o cs->Agr H w ->
 Calls prg gf #[.pointer (some ⟨b,o,none⟩)] w λr w'=>r=.returned (.bool (q e))/\Ext w w'
theorem EF (gf:FuncId) (q:Ex->Bool) (hg:cR9 gf q) (H:Hp) (G:Gl H) (e:Ex):∀ (cs:List Value) (b o:Nat) (w:World),Rep H (dEx .u8 e) cs->lB H b o cs->Agr H w ->
 Calls prg 30 #[.pointer (some ⟨b,o,none⟩),.func (.func gf) #[] #[]] w λr w'=>r=.returned (.bool (e.all q))/\Ext w w':=by
 induction e using Ex.ind with | _ op nm nn args ih
 intro cs b o w h hm hA;obtain ⟨p,c,rfl,hs,hnm⟩:=iR h;have hcap:=hs.cap;refine Sx.enter (H:=H) func30 rfl ntmps30 rfl hA ?_;refine .sr<|.aq Z<|.sq<|.sm Z<|.mv Z<|.yw (.callV (fi:=[]) (ca:=[]) Z hg.1 Z (λW s=>hg.2 H G _ _ b o W h hm s.agr))<|.yw (.not Z)<|.nt<|.cd Z (λh9=>?_) (λh9=>?_)
 ·refine .sr<|.az Z<|.tR<|?_
  refine y9 Z Z λW s=>⟨fP ?_,s.ext⟩
  first
   | (rw [nK,show q (.mk op nm nn args)=false by simpa using h9];rfl)
   | (rw [nK,FE hk (by simpa using h26)];simp)
   | (rw [nK,hal,show q (.mk op nm nn args)=true by simpa using h9];rfl)
 refine .sk<|.tN<|.sq<|.sm Z<|.nC Z<|.fA Z jQ<|.yw (.loadM Z fR hm (k:=3) Z Z)<|.yw (.lenSl dW Z)<|.mv Z<|.nt<|.bk<|.lp (X:=Nat) [(0,_),(1,_),(14,_)] ⟨Z,Z,Z,Jt⟩ [] (λk=>[(15,iN k)]) (λk=>H) (λk=>[]) (λk=>k<=args.length/\Ex.alls q (args.take k)=true) (λk=>args.length - k) 0 (λ_ s=>s) ⟨Z,Jt⟩ ⟨by omega,Z⟩ λk hC=>?_
 obtain ⟨hk0,hal⟩:=hC;refine .sr<|.yw (.lss Z Z)<|.nt<|.sq<|.ce Z (λh16=>?_) (λh16=>?_)
 ·have hk:k<args.length:=by omega
  obtain ⟨b5,o5,c5,hp5,r5,l5,m5⟩:=hs.elem (eL hk);cases hp5;refine .sk<|.tN<|.sq<|.bk<|.sm Z<|.a Z Z<|.ns<|.mv Z<|.nC Z<|.fA Z jQ<|.yw (.loadM Z fR hm (k:=3) Z Z)<|.mv Z<|.yw (.indexSl dW Z Z Z (by omega) (q:=o5+k * 4) Z)<|.mv Z<|.yw (.call JI Z (λW s=>ih _ (cD hk) c5 b5 (o5+k * 4) W r5 m5 s.agr))<|.yw (.not Z)<|.nt<|.cd Z (λh26=>?_) (λh26=>?_)
  ·refine .sr<|.az Z<|.bR<|.tR<|.tR<|.bR<|.tR<|?_
   refine y9 Z Z λW s=>⟨fP ?_,s.ext⟩
   first
    | (rw [nK,show q (.mk op nm nn args)=false by simpa using h9];rfl)
    | (rw [nK,FE hk (by simpa using h26)];simp)
    | (rw [nK,hal,show q (.mk op nm nn args)=true by simpa using h9];rfl)
  exact .sk<|.bN<|.tN<|.rg<|.yw (.add Z Z w7)<|.mv Z<|.nt<|.ag (k+1) ⟨Z,Jt⟩ ⟨Z,Z,Z,Jt⟩ (λ_ s=>s) ⟨by omega,by rw [OY hk,hal];simpa using h26⟩ (by omega)
 obtain rfl:k=args.length:=by omega
 rw [aI] at hal;refine .ex<|.eb<|.sr<|.az Z<|?_
 refine y9 Z Z λW s=>⟨fP ?_,s.ext⟩
 first
  | (rw [nK,show q (.mk op nm nn args)=false by simpa using h9];rfl)
  | (rw [nK,FE hk (by simpa using h26)];simp)
  | (rw [nK,hal,show q (.mk op nm nn args)=true by simpa using h9];rfl)
theorem wR:cR9 31 wS:=by
 refine ⟨bT7,λH G e cs b o w h hm hA=>?_⟩;obtain ⟨op,nm,nn,args⟩:=e;obtain ⟨p,c,rfl,hs,hnm⟩:=iR h;have hcap:=hs.cap;refine Sx.enter (H:=H) func31 rfl ntmps31 rfl hA ?_;refine .sr<|.a Z Z<|.ns<|.mv Z<|.nC Z<|.fA Z kZ<|.yw (.loadM Z rH hm (k:=0) Z Z)<|.yw (.call JG Z (λW s=>IG H G op W s.agr))<|.mv Z<|.yw (.extract Z Z)<|.yw (.extract Z Z)<|.al CT Z λb3=>.sV .head Z Z xY Z (by simp [zD,Value.oneCell',cJ]) Z<|.a Z Z<|.ns<|.fA Z KN<|.lD Z vZ Hm Z<|.yw (.not Z)<|.mv Z<|.b2 (λh16=>?_) (λh16=>?_)
 ·refine .gG<|.gG<|.gG<|.gG<|.gG<|.yw (.pickT Z Z)<|.az Z<|?_
  refine y9 Z Z λW s=>⟨fP ?_,s.ext⟩
  first
   | (simp only [wS];simp_all)
 refine .gy (.move Z)<|.gy (.nilCheck Z)<|.gy (.fieldAddr Z tG)<|.gy (.loadM Z bZ hm (k:=1) Z Z)<|.gy (.call qB Z (λW s=>nM H G nm (by omega) W s.agr))<|.yw (.pickF Z Z)<|.az Z<|?_
 refine y9 Z Z λW s=>⟨fP ?_,s.ext⟩
 first
  | (simp only [wS];simp_all)
theorem HI:cR9 32 lP:=by
 refine ⟨bT6,λH G e cs b o w h hm hA=>?_⟩;obtain ⟨op,nm,nn,args⟩:=e;obtain ⟨p,c,rfl,hs,hnm⟩:=iR h;have hcap:=hs.cap;refine Sx.enter (H:=H) func32 rfl ntmps32 rfl hA ?_;refine .sr<|.a Z Z<|.ns<|.mv Z<|.nC Z<|.fA Z kZ<|.yw (.loadM Z rH hm (k:=0) Z Z)<|.yw (.call JG Z (λW s=>IG H G op W s.agr))<|.mv Z<|.yw (.extract Z Z)<|.yw (.extract Z Z)<|.al CT Z λb3=>.sV .head Z Z xY Z (by simp [zD,Value.oneCell',cJ]) Z<|.aq Z<|.sq<|.bk<|.sq<|.sm Z<|.yw (.not Z)<|.aq Z<|.cd Z (λh13=>?_) (λh13=>?_)
 ·refine .sk<|.tN<|.cd Z (λh13=>?_) (λh13=>?_)
  ·refine .sr<|.az Z<|.bR<|.tR<|?_
   refine y9 Z Z λW s=>⟨fP ?_,s.ext⟩
   first
    | (simp only [lP];cases ho:wJ op <;> cases hs2:(cW op).nm <;> simp_all [iW])
  refine .sm Z<|.nC Z<|.fA Z kZ<|.yw (.loadM Z rH hm (k:=0) Z Z)<|.yw (.eql Z Z)<|.aq Z<|.cd Z (λh34=>?_) (λh34=>?_)
  ·try simp only [dt] at h34
   have h34:op=1:=bT.1 (by show op.toNat=1;omega);refine .sm Z<|.nC Z<|.fA Z mZ<|.yw (.loadM Z nX hm (k:=2) Z Z)<|.yw (.geq Z Z)<|.az Z<|.bR<|.tR<|?_
   refine y9 Z Z λW s=>⟨fP ?_,s.ext⟩
   first
    | (simp only [lP];cases ho:wJ op <;> cases hs2:(cW op).nm <;> simp_all [iW])
  try simp only [df] at h34
  have h34:¬ op=1:=λe=>h34 (by rw [e];rfl);refine .sk<|.bN<|.tN<|.sm Z<|.nC Z<|.fA Z mZ<|.yw (.loadM Z nX hm (k:=2) Z Z)<|.yw (.eql Z Z)<|.az Z<|?_
  refine y9 Z Z λW s=>⟨fP ?_,s.ext⟩
  first
   | (simp only [lP];cases ho:wJ op <;> cases hs2:(cW op).nm <;> simp_all [iW])
 refine .sq<|.fL 8 [(0,0),(1,0),(2,0),(3,0),(4,0),(5,0),(6,0),(7,0)]<|.mv Z<|.nC Z<|.fA Z jQ<|.yw (.loadM Z fR hm (k:=3) Z Z)<|.yw (.lenSl dW Z)<|.fA Z KO<|.lD Z dZ Hm Z<|.yw (.neq Z Z)<|.fn (tl:=[_]) Z<|.aq Z<|.cd Z (λh13=>?_) (λh13=>?_)
 ·refine .sk<|.tN<|.cd Z (λh13=>?_) (λh13=>?_)
  ·refine .sr<|.az Z<|.bR<|.tR<|?_
   refine y9 Z Z λW s=>⟨fP ?_,s.ext⟩
   first
    | (simp only [lP];cases ho:wJ op <;> cases hs2:(cW op).nm <;> simp_all [iW])
  refine .sm Z<|.nC Z<|.fA Z kZ<|.yw (.loadM Z rH hm (k:=0) Z Z)<|.yw (.eql Z Z)<|.aq Z<|.cd Z (λh34=>?_) (λh34=>?_)
  ·try simp only [dt] at h34
   have h34:op=1:=bT.1 (by show op.toNat=1;omega);refine .sm Z<|.nC Z<|.fA Z mZ<|.yw (.loadM Z nX hm (k:=2) Z Z)<|.yw (.geq Z Z)<|.az Z<|.bR<|.tR<|?_
   refine y9 Z Z λW s=>⟨fP ?_,s.ext⟩
   first
    | (simp only [lP];cases ho:wJ op <;> cases hs2:(cW op).nm <;> simp_all [iW])
  try simp only [df] at h34
  have h34:¬ op=1:=λe=>h34 (by rw [e];rfl);refine .sk<|.bN<|.tN<|.sm Z<|.nC Z<|.fA Z mZ<|.yw (.loadM Z nX hm (k:=2) Z Z)<|.yw (.eql Z Z)<|.az Z<|?_
  refine y9 Z Z λW s=>⟨fP ?_,s.ext⟩
  first
   | (simp only [lP];cases ho:wJ op <;> cases hs2:(cW op).nm <;> simp_all [iW])
 refine .rg<|.fA Z KN<|.lD Z vZ Hm Z<|.yw (.not Z)<|.mv Z<|.b2 (λh27=>?_) (λh27=>?_)
 ·refine .gy (.move Z)<|.gy (.nilCheck Z)<|.gy (.fieldAddr Z tG)<|.gy (.loadM Z bZ hm (k:=1) Z Z)<|.gy (.neS Z Z)<|.yw (.pickT Z Z)<|.aq Z<|.cd Z (λh13=>?_) (λh13=>?_)
  ·refine .sr<|.az Z<|.bR<|.tR<|?_
   refine y9 Z Z λW s=>⟨fP ?_,s.ext⟩
   first
    | (simp only [lP];cases ho:wJ op <;> cases hs2:(cW op).nm <;> simp_all [iW])
  refine .sm Z<|.nC Z<|.fA Z kZ<|.yw (.loadM Z rH hm (k:=0) Z Z)<|.yw (.eql Z Z)<|.aq Z<|.cd Z (λh34=>?_) (λh34=>?_)
  ·try simp only [dt] at h34
   have h34:op=1:=bT.1 (by show op.toNat=1;omega);refine .sm Z<|.nC Z<|.fA Z mZ<|.yw (.loadM Z nX hm (k:=2) Z Z)<|.yw (.geq Z Z)<|.az Z<|.bR<|.tR<|?_
   refine y9 Z Z λW s=>⟨fP ?_,s.ext⟩
   first
    | (simp only [lP];cases ho:wJ op <;> cases hs2:(cW op).nm <;> simp_all [iW])
  try simp only [df] at h34
  have h34:¬ op=1:=λe=>h34 (by rw [e];rfl);refine .sk<|.bN<|.tN<|.sm Z<|.nC Z<|.fA Z mZ<|.yw (.loadM Z nX hm (k:=2) Z Z)<|.yw (.eql Z Z)<|.az Z<|?_
  refine y9 Z Z λW s=>⟨fP ?_,s.ext⟩
  first
   | (simp only [lP];cases ho:wJ op <;> cases hs2:(cW op).nm <;> simp_all [iW])
 refine .gG<|.gG<|.gG<|.gG<|.gG<|.yw (.pickF Z Z)<|.aq Z<|.cF Z<|.sm Z<|.nC Z<|.fA Z kZ<|.yw (.loadM Z rH hm (k:=0) Z Z)<|.yw (.eql Z Z)<|.aq Z<|.cd Z (λh34=>?_) (λh34=>?_)
 ·try simp only [dt] at h34
  have h34:op=1:=bT.1 (by show op.toNat=1;omega);refine .sm Z<|.nC Z<|.fA Z mZ<|.yw (.loadM Z nX hm (k:=2) Z Z)<|.yw (.geq Z Z)<|.az Z<|.bR<|.tR<|?_
  refine y9 Z Z λW s=>⟨fP ?_,s.ext⟩
  first
   | (simp only [lP];cases ho:wJ op <;> cases hs2:(cW op).nm <;> simp_all [iW])
 try simp only [df] at h34
 have h34:¬ op=1:=λe=>h34 (by rw [e];rfl);refine .sk<|.bN<|.tN<|.sm Z<|.nC Z<|.fA Z mZ<|.yw (.loadM Z nX hm (k:=2) Z Z)<|.yw (.eql Z Z)<|.az Z<|?_
 refine y9 Z Z λW s=>⟨fP ?_,s.ext⟩
 first
  | (simp only [lP];cases ho:wJ op <;> cases hs2:(cW op).nm <;> simp_all [iW])
theorem iP:jP prg 159=some none:=by kernel_rfl
theorem FK:jP prg 206=some none:=by kernel_rfl
theorem bB5:cU prg 105=true:=by kernel_rfl
theorem bB2:cU prg 108=true:=by kernel_rfl
theorem UT:cU prg 141=true:=by kernel_rfl
theorem CY:cU prg 142=true:=by kernel_rfl
theorem jA:dL prg 208 0=some 0:=by kernel_rfl
theorem kU:dL prg 208 1=some 1:=by kernel_rfl
theorem mT:dL prg 208 2=some 2:=by kernel_rfl
theorem bX:dL prg 208 3=some 3:=by kernel_rfl
theorem mS:dL prg 208 4=some 4:=by kernel_rfl
theorem jZ:dL prg 208 5=some 5:=by kernel_rfl
theorem KA:dL prg 236 0=some 0:=by kernel_rfl
theorem AF:dL prg 236 1=some 1:=by kernel_rfl
theorem WI:dL prg 236 2=some 2:=by kernel_rfl
theorem WH:dL prg 236 3=some 3:=by kernel_rfl
theorem WG:dL prg 236 4=some 4:=by kernel_rfl
theorem JZ:dL prg 236 5=some 5:=by kernel_rfl
theorem lH:slN prg 159=some 6:=by kernel_rfl
theorem WA (H:Hp) (G:Gl H) (e:Ex) (cs:List Value) (h:Rep H (dEx .u8 e) cs) (he:e.depth<=1000000) (w:World) (hA:Agr H w) :
 Calls prg 15 #[.agg cs.toArray] w λr w'=>r=.returned (iN (pN e))/\Ext w w':=by
 obtain ⟨op,nm,nn,args⟩:=e;obtain ⟨p,c,rfl,hs,hnm⟩:=iR h;refine Sx.enter (H:=H) func15 rfl ntmps15 rfl hA ?_;refine .sr<|.bx Z Z Z λb1=>?_
 refine dD λH1 u1 m1=>?_;refine .aq Z<|.sq<|.bk<|.sr<|.yw (.loadMW Z fI m1 Z)<|.yw (.call PN Z (λW s=>JX _ H1 _ W (h.up u1.up) he s.agr))<|.yw (.gtr Z Z)<|.aq Z<|.ce Z (λh3=>?_) (λh3=>?_)
 ·refine .sr<|.az Z<|.bR<|.tR<|?_
  refine y9 Z Z λW s=>⟨?_,s.ext⟩
  first
   | (rw [pN,aE (by omega)];rfl)
   | (rw [pN,aA (by omega),aE (by simpa using h7)];rfl)
   | (rw [pN,aA (by omega),aA (by simpa using h7),aE (by simpa using h10)];rfl)
   | (rw [pN,aA (by omega),aA (by simpa using h7),aA (by simpa using h10)];rfl)
 refine .sr<|.yw (.call JI Z (λW s=>EF 31 wS wR H1 (G.up u1.up) _ _ b1 0 W (h.up u1.up) m1 s.agr))<|.yw (.not Z)<|.aq Z<|.cd Z (λh7=>?_) (λh7=>?_)
 ·refine .sr<|.az Z<|.bR<|.tR<|?_
  refine y9 Z Z λW s=>⟨?_,s.ext⟩
  first
   | (rw [pN,aE (by omega)];rfl)
   | (rw [pN,aA (by omega),aE (by simpa using h7)];rfl)
   | (rw [pN,aA (by omega),aA (by simpa using h7),aE (by simpa using h10)];rfl)
   | (rw [pN,aA (by omega),aA (by simpa using h7),aA (by simpa using h10)];rfl)
 refine .sr<|.yw (.call JI Z (λW s=>EF 32 lP HI H1 (G.up u1.up) _ _ b1 0 W (h.up u1.up) m1 s.agr))<|.yw (.not Z)<|.aq Z<|.cd Z (λh10=>?_) (λh10=>?_)
 ·refine .sr<|.az Z<|.bR<|.tR<|?_
  refine y9 Z Z λW s=>⟨?_,s.ext⟩
  first
   | (rw [pN,aE (by omega)];rfl)
   | (rw [pN,aA (by omega),aE (by simpa using h7)];rfl)
   | (rw [pN,aA (by omega),aA (by simpa using h7),aE (by simpa using h10)];rfl)
   | (rw [pN,aA (by omega),aA (by simpa using h7),aA (by simpa using h10)];rfl)
 refine .sk<|.bN<|.tN<|.sr<|.az Z<|?_
 refine y9 Z Z λW s=>⟨?_,s.ext⟩
 first
  | (rw [pN,aE (by omega)];rfl)
  | (rw [pN,aA (by omega),aE (by simpa using h7)];rfl)
  | (rw [pN,aA (by omega),aA (by simpa using h7),aE (by simpa using h10)];rfl)
  | (rw [pN,aA (by omega),aA (by simpa using h7),aA (by simpa using h10)];rfl)
theorem CH (gf:FuncId) (q:Ex->Bool) (hg:cR9 gf q) (H:Hp) (G:Gl H) (kd:UInt8) (nm hd:Str) (ex:List Ex) (th el:List Sm) (cs:List Value) (b o:Nat) (w:World) (h:Rep H (dSm .u8 (.mk kd nm hd ex th el)) cs) (hm:lB H b o cs) (hA:Agr H w) :
 Calls prg 142 #[.pointer (some ⟨b,o,none⟩),.func (.func gf) #[] #[]] w λr w'=>r=.returned (.bool (Ex.alls q ex))/\Ext w w':=by
 obtain ⟨p,c,p1,c1,p2,c2,rfl,hs,hs1,hs2,hn1,hn2⟩:=vR h;have hcap:=hs.cap;refine Sx.enter (H:=H) func142 rfl ntmps142 rfl hA ?_;refine .sr<|.aq Z<|.sq<|.sm Z<|.nC Z<|.fA Z bX<|.yw (.loadM Z fR hm (k:=3) Z Z)<|.yw (.lenSl dW Z)<|.mv Z<|.nt<|.bk<|.lp (X:=Nat) [(0,_),(1,_),(10,_)] ⟨Z,Z,Z,Jt⟩ [] (λk=>[(11,iN k)]) (λk=>H) (λk=>[]) (λk=>k<=ex.length/\Ex.alls q (ex.take k)=true) (λk=>ex.length - k) 0 (λ_ s=>s) ⟨Z,Jt⟩ ⟨by omega,Z⟩ λk hC=>?_
 obtain ⟨hk0,hal⟩:=hC;refine .sr<|.yw (.lss Z Z)<|.nt<|.sq<|.ce Z (λh12=>?_) (λh12=>?_)
 ·have hk:k<ex.length:=by omega
  obtain ⟨b5,o5,c5,hp5,r5,l5,m5⟩:=hs.elem (eL hk);cases hp5;refine .sk<|.tN<|.sq<|.bk<|.sm Z<|.a Z Z<|.ns<|.mv Z<|.nC Z<|.fA Z bX<|.yw (.loadM Z fR hm (k:=3) Z Z)<|.mv Z<|.yw (.indexSl dW Z Z Z (by omega) (q:=o5+k * 4) Z)<|.mv Z<|.yw (.call JI Z (λW s=>EF gf q hg H G _ c5 b5 (o5+k * 4) W r5 m5 s.agr))<|.yw (.not Z)<|.nt<|.cd Z (λh22=>?_) (λh22=>?_)
  ·refine .sr<|.az Z<|.bR<|.tR<|.tR<|.bR<|.tR<|?_
   refine y9 Z Z λW s=>⟨fP ?_,s.ext⟩
   first
    | (rw [FE hk (by simpa using h22)])
    | (rw [hal])
  exact .sk<|.bN<|.tN<|.rg<|.yw (.add Z Z w7)<|.mv Z<|.nt<|.ag (k+1) ⟨Z,Jt⟩ ⟨Z,Z,Z,Jt⟩ (λ_ s=>s) ⟨by omega,by rw [OY hk,hal];simpa using h22⟩ (by omega)
 obtain rfl:k=ex.length:=by omega
 rw [aI] at hal;refine .ex<|.eb<|.sr<|.az Z<|?_
 refine y9 Z Z λW s=>⟨fP ?_,s.ext⟩
 first
  | (rw [FE hk (by simpa using h22)])
  | (rw [hal])
def cR6 (gf:FuncId) (q:Sm->Bool):Prop:=cU prg gf=true/\∀ (H:Hp),Gl H->∀ (e:Sm) (cs:List Value) (b o:Nat) (w:World),Rep H (dSm .u8 e) cs->lB H b o cs->SW e=true->Agr H w ->
 Calls prg gf #[.pointer (some ⟨b,o,none⟩)] w λr w'=>r=.returned (.bool (q e))/\Ext w w'
theorem VS:cR6 105 vB:=by
 refine ⟨bB5,λH G e cs b o w h hm hok hA=>?_⟩;obtain ⟨kd,nm,hd,ex,th,el⟩:=e;obtain ⟨p,c,p1,c1,p2,c2,rfl,hs,hs1,hs2,hn1,hn2⟩:=vR h;have hcap:=hs.cap;have hcap1:=hs1.cap;have hcap2:=hs2.cap;refine Sx.enter (H:=H) func105 rfl ntmps105 rfl hA ?_;refine .sr<|.a Z Z<|.ns<|.mv Z<|.nC Z<|.fA Z jA<|.yw (.loadM Z FK hm (k:=0) Z Z)<|.yw (.call UT Z (λW s=>aO4 H G kd W s.agr))<|.mv Z<|.yw (.extract Z Z)<|.yw (.extract Z Z)<|.al LD Z λb3=>.sV .head Z Z CV Z (by simp [JW,Value.oneCell']) Z<|.aq Z<|.sq<|.sr<|.fA Z KA<|.lD Z vZ Hm Z<|.mv Z<|.b2 (λh15=>?_) (λh15=>?_)
 ·refine .gy (.move Z)<|.gy (.nilCheck Z)<|.gy (.fieldAddr Z kU)<|.gy (.loadM Z bZ hm (k:=1) Z Z)<|.gy (.call qB Z (λW s=>nM H G nm (by omega) W s.agr))<|.gy (.not Z)<|.yw (.pickT Z Z)<|.mv Z<|.b2 (λh23=>?_) (λh23=>?_)
  ·refine .gG<|.gG<|.gG<|.gV<|.gV<|.gV<|.gV<|.gV<|.gV<|.gG<|.yw (.pickT Z Z)<|.nt<|.cT Z<|.sr<|.az Z<|.tR<|?_
   refine y9 Z Z λW s=>⟨fP ?_,s.ext⟩
   first
    | (simp only [vB];simp_all)
  refine .gy (.fieldAddr Z AF)<|.gy (.load Z vZ Hm Z)<|.gy (.move Z)<|.b2 (λh26=>?_) (λh26=>?_)
  ·refine .gy (.move Z)<|.gy (.nilCheck Z)<|.gy (.fieldAddr Z mT)<|.gy (.loadM Z bZ hm (k:=2) Z Z)<|.gy (.call qB Z (λW s=>nM H G hd (by omega) W s.agr))<|.gy (.not Z)<|.gy (.pickT Z Z)<|.yw (.pickF Z Z)<|.nt<|.cd Z (λh34=>?_) (λh34=>?_)
   ·refine .sr<|.az Z<|.tR<|?_
    refine y9 Z Z λW s=>⟨fP ?_,s.ext⟩
    first
     | (simp only [vB];simp_all)
   refine .sk<|.tN<|.sm Z<|.yw (.call CY Z (λW s=>CH 31 wS wR H G _ _ _ _ _ _ _ b o W h hm s.agr))<|.az Z<|?_
   refine y9 Z Z λW s=>⟨fP ?_,s.ext⟩
   first
    | (simp only [vB];simp_all)
  refine .gG<|.gG<|.gG<|.gG<|.gG<|.gG<|.gy (.pickF Z Z)<|.yw (.pickF Z Z)<|.nt<|.cF Z<|.sk<|.tN<|.sm Z<|.yw (.call CY Z (λW s=>CH 31 wS wR H G _ _ _ _ _ _ _ b o W h hm s.agr))<|.az Z<|?_
  refine y9 Z Z λW s=>⟨fP ?_,s.ext⟩
  first
   | (simp only [vB];simp_all)
 refine .gG<|.gG<|.gG<|.gG<|.gG<|.gG<|.yw (.pickF Z Z)<|.mv Z<|.gy (.fieldAddr Z AF)<|.gy (.load Z vZ Hm Z)<|.gy (.move Z)<|.b2 (λh26=>?_) (λh26=>?_)
 ·refine .gy (.move Z)<|.gy (.nilCheck Z)<|.gy (.fieldAddr Z mT)<|.gy (.loadM Z bZ hm (k:=2) Z Z)<|.gy (.call qB Z (λW s=>nM H G hd (by omega) W s.agr))<|.gy (.not Z)<|.gy (.pickT Z Z)<|.yw (.pickF Z Z)<|.nt<|.cd Z (λh34=>?_) (λh34=>?_)
  ·refine .sr<|.az Z<|.tR<|?_
   refine y9 Z Z λW s=>⟨fP ?_,s.ext⟩
   first
    | (simp only [vB];simp_all)
  refine .sk<|.tN<|.sm Z<|.yw (.call CY Z (λW s=>CH 31 wS wR H G _ _ _ _ _ _ _ b o W h hm s.agr))<|.az Z<|?_
  refine y9 Z Z λW s=>⟨fP ?_,s.ext⟩
  first
   | (simp only [vB];simp_all)
 refine .gG<|.gG<|.gG<|.gG<|.gG<|.gG<|.gy (.pickF Z Z)<|.yw (.pickF Z Z)<|.nt<|.cF Z<|.sk<|.tN<|.sm Z<|.yw (.call CY Z (λW s=>CH 31 wS wR H G _ _ _ _ _ _ _ b o W h hm s.agr))<|.az Z<|?_
 refine y9 Z Z λW s=>⟨fP ?_,s.ext⟩
 first
  | (simp only [vB];simp_all)
theorem TL:cR6 108 BE:=by
 refine ⟨bB2,λH G e cs b o w h hm hok hA=>?_⟩;obtain ⟨kd,nm,hd,ex,th,el⟩:=e;obtain ⟨p,c,p1,c1,p2,c2,rfl,hs,hs1,hs2,hn1,hn2⟩:=vR h;have hcap:=hs.cap;have hcap1:=hs1.cap;have hcap2:=hs2.cap;refine Sx.enter (H:=H) func108 rfl ntmps108 rfl hA ?_;refine .sr<|.a Z Z<|.ns<|.mv Z<|.nC Z<|.fA Z jA<|.yw (.loadM Z FK hm (k:=0) Z Z)<|.yw (.call UT Z (λW s=>aO4 H G kd W s.agr))<|.mv Z<|.yw (.extract Z Z)<|.yw (.extract Z Z)<|.al LD Z λb3=>.sV .head Z Z CV Z (by simp [JW,Value.oneCell']) Z<|.aq Z<|.sq<|.sm Z<|.nC Z<|.fA Z bX<|.yw (.loadM Z fR hm (k:=3) Z Z)<|.yw (.lenSl dW Z)<|.aq Z<|.bk<|.cu (X:=Bool) [(0,_),(3,_)] ⟨Z,Z,Jt⟩ (λz=>[(19,.bool z)]) (λz=>H) (λz=>[.box b3 (JW (fM kd)) 236]) (λz=>z=(!uI kd || decide ((ex.length:Int)<((fM kd).lo:Nat)) || decide (((fM kd).hi:Nat)<(ex.length:Int)))) ?_ λz hC=>?_
 ·
  refine .sm Z<|.yw (.not Z)<|.aq Z<|.cd Z (λh19=>?_) (λh19=>?_)
  ·exact .sk<|.tN<|.me _ ⟨Z,Jt⟩ ⟨Z,Z,Jt⟩ (λ_ s=>s) (by first | (simp_all;done) | (simp_all;omega) | (simp_all;intros;omega))
  refine .sm Z<|.fA Z WI<|.lD Z dZ Hm Z<|.yw (.lss Z Z)<|.aq Z<|.cd Z (λh19=>?_) (λh19=>?_)
  ·exact .sk<|.tN<|.me _ ⟨Z,Jt⟩ ⟨Z,Z,Jt⟩ (λ_ s=>s) (by first | (simp_all;done) | (simp_all;omega) | (simp_all;intros;omega))
  exact .rg<|.mv Z<|.fA Z WH<|.lD Z dZ Hm Z<|.yw (.gtr Z Z)<|.aq Z<|.me _ ⟨Z,Jt⟩ ⟨Z,Z,Jt⟩ (λ_ s=>s) (by first | (simp_all;done) | (simp_all;omega) | (simp_all;intros;omega))
 have e1:=hC;refine .cd Z (λh19=>?_) (λh19=>?_)
 ·refine .sr<|.az Z<|.bR<|.tR<|?_
  refine y9 Z Z λW s=>⟨fP ?_,s.ext⟩
  first
   | (rw [rY,<-e1,<-e2,<-e3,h19,h30,h51];simp)
   | (rw [rY,<-e1,<-e2,<-e3,h19,h30,h51];rfl)
   | (rw [rY,<-e1,<-e2,h19,h30];rfl)
   | (rw [rY,<-e1,h19];rfl)
 refine .cu (X:=Bool) [(0,_),(3,_)] ⟨Z,Z,Jt⟩ (λz=>[(30,.bool z)]) (λz=>H) (λz=>[.box b3 (JW (fM kd)) 236]) (λz=>z=((!(fM kd).nm && decide (¬ nm=[])) || (!(fM kd).hd && decide (¬ hd=[])))) ?_ λz hC=>?_
 ·
  refine .sr<|.fA Z KA<|.lD Z vZ Hm Z<|.yw (.not Z)<|.mv Z<|.b2 (λh34=>?_) (λh34=>?_)
  ·refine .gy (.move Z)<|.gy (.nilCheck Z)<|.gy (.fieldAddr Z kU)<|.gy (.loadM Z bZ hm (k:=1) Z Z)<|.gy (.neS Z Z)<|.yw (.pickT Z Z)<|.aq Z<|.cd Z (λh30=>?_) (λh30=>?_)
   ·exact .sk<|.tN<|.me _ ⟨Z,Jt⟩ ⟨Z,Z,Jt⟩ (λ_ s=>s) (by first | (simp_all;done) | (simp_all;omega) | (simp_all;intros;omega))
   refine .rg<|.fA Z AF<|.lD Z vZ Hm Z<|.yw (.not Z)<|.mv Z<|.b2 (λh44=>?_) (λh44=>?_)
   ·exact .gy (.move Z)<|.gy (.nilCheck Z)<|.gy (.fieldAddr Z mT)<|.gy (.loadM Z bZ hm (k:=2) Z Z)<|.gy (.neS Z Z)<|.yw (.pickT Z Z)<|.aq Z<|.me _ ⟨Z,Jt⟩ ⟨Z,Z,Jt⟩ (λ_ s=>s) (by first | (simp_all;done) | (simp_all;omega) | (simp_all;intros;omega))
   exact .gG<|.gG<|.gG<|.gG<|.gG<|.yw (.pickF Z Z)<|.aq Z<|.me _ ⟨Z,Jt⟩ ⟨Z,Z,Jt⟩ (λ_ s=>s) (by first | (simp_all;done) | (simp_all;omega) | (simp_all;intros;omega))
  refine .gG<|.gG<|.gG<|.gG<|.gG<|.yw (.pickF Z Z)<|.aq Z<|.cF Z<|.rg<|.fA Z AF<|.lD Z vZ Hm Z<|.yw (.not Z)<|.mv Z<|.b2 (λh44=>?_) (λh44=>?_)
  ·exact .gy (.move Z)<|.gy (.nilCheck Z)<|.gy (.fieldAddr Z mT)<|.gy (.loadM Z bZ hm (k:=2) Z Z)<|.gy (.neS Z Z)<|.yw (.pickT Z Z)<|.aq Z<|.me _ ⟨Z,Jt⟩ ⟨Z,Z,Jt⟩ (λ_ s=>s) (by first | (simp_all;done) | (simp_all;omega) | (simp_all;intros;omega))
  exact .gG<|.gG<|.gG<|.gG<|.gG<|.yw (.pickF Z Z)<|.aq Z<|.me _ ⟨Z,Jt⟩ ⟨Z,Z,Jt⟩ (λ_ s=>s) (by first | (simp_all;done) | (simp_all;omega) | (simp_all;intros;omega))
 have e2:=hC;refine .cd Z (λh30=>?_) (λh30=>?_)
 ·refine .sr<|.az Z<|.bR<|.tR<|?_
  refine y9 Z Z λW s=>⟨fP ?_,s.ext⟩
  first
   | (rw [rY,<-e1,<-e2,<-e3,h19,h30,h51];simp)
   | (rw [rY,<-e1,<-e2,<-e3,h19,h30,h51];rfl)
   | (rw [rY,<-e1,<-e2,h19,h30];rfl)
   | (rw [rY,<-e1,h19];rfl)
 refine .cu (X:=Bool) [(0,_)] ⟨Z,Jt⟩ (λz=>[(51,.bool z)]) (λz=>H) (λz=>[.box b3 (JW (fM kd)) 236]) (λz=>z=((!(fM kd).th && decide ((0:Int)<th.length)) || (!(fM kd).el && decide ((0:Int)<el.length)))) ?_ λz hC=>?_
 ·
  refine .sr<|.fA Z WG<|.lD Z vZ Hm Z<|.yw (.not Z)<|.mv Z<|.b2 (λh55=>?_) (λh55=>?_)
  ·refine .gy (.move Z)<|.gy (.nilCheck Z)<|.gy (.fieldAddr Z mS)<|.gy (.loadM Z iP hm (k:=4) Z Z)<|.gy (.lenSl lH Z)<|.gy (.gtr Z Z)<|.yw (.pickT Z Z)<|.aq Z<|.cd Z (λh51=>?_) (λh51=>?_)
   ·exact .sk<|.tN<|.me _ ⟨Z,Jt⟩ ⟨Z,Jt⟩ (λ_ s=>s) (by first | (simp_all;done) | (simp_all;omega) | (simp_all;intros;omega))
   refine .rg<|.fA Z JZ<|.lD Z vZ Hm Z<|.yw (.not Z)<|.mv Z<|.b2 (λh66=>?_) (λh66=>?_)
   ·exact .gy (.move Z)<|.gy (.nilCheck Z)<|.gy (.fieldAddr Z jZ)<|.gy (.loadM Z iP hm (k:=5) Z Z)<|.gy (.lenSl lH Z)<|.gy (.gtr Z Z)<|.yw (.pickT Z Z)<|.aq Z<|.me _ ⟨Z,Jt⟩ ⟨Z,Jt⟩ (λ_ s=>s) (by first | (simp_all;done) | (simp_all;omega) | (simp_all;intros;omega))
   exact .gG<|.gG<|.gG<|.gG<|.gG<|.gG<|.yw (.pickF Z Z)<|.aq Z<|.me _ ⟨Z,Jt⟩ ⟨Z,Jt⟩ (λ_ s=>s) (by first | (simp_all;done) | (simp_all;omega) | (simp_all;intros;omega))
  refine .gG<|.gG<|.gG<|.gG<|.gG<|.gG<|.yw (.pickF Z Z)<|.aq Z<|.cF Z<|.rg<|.fA Z JZ<|.lD Z vZ Hm Z<|.yw (.not Z)<|.mv Z<|.b2 (λh66=>?_) (λh66=>?_)
  ·exact .gy (.move Z)<|.gy (.nilCheck Z)<|.gy (.fieldAddr Z jZ)<|.gy (.loadM Z iP hm (k:=5) Z Z)<|.gy (.lenSl lH Z)<|.gy (.gtr Z Z)<|.yw (.pickT Z Z)<|.aq Z<|.me _ ⟨Z,Jt⟩ ⟨Z,Jt⟩ (λ_ s=>s) (by first | (simp_all;done) | (simp_all;omega) | (simp_all;intros;omega))
  exact .gG<|.gG<|.gG<|.gG<|.gG<|.gG<|.yw (.pickF Z Z)<|.aq Z<|.me _ ⟨Z,Jt⟩ ⟨Z,Jt⟩ (λ_ s=>s) (by first | (simp_all;done) | (simp_all;omega) | (simp_all;intros;omega))
 have e3:=hC;refine .cd Z (λh51=>?_) (λh51=>?_)
 ·refine .sr<|.az Z<|.bR<|.tR<|?_
  refine y9 Z Z λW s=>⟨fP ?_,s.ext⟩
  first
   | (rw [rY,<-e1,<-e2,<-e3,h19,h30,h51];simp)
   | (rw [rY,<-e1,<-e2,<-e3,h19,h30,h51];rfl)
   | (rw [rY,<-e1,<-e2,h19,h30];rfl)
   | (rw [rY,<-e1,h19];rfl)
 refine .sk<|.bN<|.tN<|.sm Z<|.yw (.call CY Z (λW s=>CH 32 lP HI H G _ _ _ _ _ _ _ b o W h hm s.agr))<|.az Z<|?_
 refine y9 Z Z λW s=>⟨fP ?_,s.ext⟩
 first
  | (rw [rY,<-e1,<-e2,<-e3,h19,h30,h51];simp)
  | (rw [rY,<-e1,<-e2,<-e3,h19,h30,h51];rfl)
  | (rw [rY,<-e1,<-e2,h19,h30];rfl)
  | (rw [rY,<-e1,h19];rfl)
theorem DC:cU prg 104=true:=by kernel_rfl
theorem LQ:cU prg 138=true:=by kernel_rfl
theorem LP:cU prg 139=true:=by kernel_rfl
theorem OO (gf:FuncId) (q:Sm->Bool) (hg:cR6 gf q) (H:Hp) (G:Gl H):∀ (l:List Sm) (p:Option Addr) (n c:Nat) (w:World),Rep H (.seq 6 (l.map (dSm .u8))) [.slice p n c]->Sm.alls SW l=true->Agr H w ->
 Calls prg 104 #[.slice p n c,.func (.func gf) #[] #[]] w λr w'=>r=.returned (.bool (Sm.alls q l))/\Ext w w':=by
 refine Sm.lists λl ih=>?_;intro p n c w hs hok hA;obtain rfl:n=l.length:=by have:=hs.len.1;simpa using this
 have hcap:=hs.cap;refine Sx.enter (H:=H) func104 rfl ntmps104 rfl hA ?_;refine .sr<|.aq Z<|.sq<|.sm Z<|.yw (.lenSl lH Z)<|.mv Z<|.nt<|.bk<|.lp (X:=Nat) [(0,_),(1,_),(8,_)] ⟨Z,Z,Z,Jt⟩ [] (λk=>[(9,iN k)]) (λk=>H) (λk=>[]) (λk=>k<=l.length/\Sm.alls q (l.take k)=true) (λk=>l.length - k) 0 (λ_ s=>s) ⟨Z,Jt⟩ ⟨by omega,Z⟩ λk hC=>?_
 obtain ⟨hk0,hal⟩:=hC;refine .sr<|.yw (.lss Z Z)<|.nt<|.sq<|.ce Z (λh10=>?_) (λh10=>?_)
 ·have hk:k<l.length:=by omega
  obtain ⟨bE,oE,cE,hpE,rE,lE,mE⟩:=hs.elem (eL hk);cases hpE;have hi:=ih _ (cD hk);have hf:=SM (q:=q) hk;have hbad:=λh=>XI (q:=q) hk h;have hok1:=aJ6 hk hok;generalize hx:l[k]=x at rE hi hf hbad hok1;obtain ⟨kd,nm,hd,ex,th,el⟩:=x;obtain ⟨p1,c1,p2,c2,p3,c3,rfl,hs1,hs2,hs3,hn1,hn2⟩:=vR rE;simp only [Sm.th,Sm.el] at hi;simp only [oM,aF] at hok1;refine .sk<|.tN<|.sq<|.bk<|.sm Z<|.a Z Z<|.ns<|.mv Z<|.mv Z<|.yw (.indexSl lH Z Z Z (by omega) (q:=oE+k * 6) Z)<|.a Z Z<|.ns<|.mv Z<|.mv Z<|.yw (.callV (fi:=[]) (ca:=[]) Z hg.1 Z (λW s=>hg.2 H G _ _ bE (oE+k * 6) W rE mE hok1.1.1 s.agr))<|.yw (.not Z)<|.mv Z<|.b2 (λh19=>?_) (λh19=>?_)
  ·refine .gG<|.gG<|.gG<|.gG<|.gG<|.gG<|.gG<|.yw (.pickT Z Z)<|.mv Z<|.gG<|.gG<|.gG<|.gG<|.gG<|.gG<|.gG<|.yw (.pickT Z Z)<|.nt<|.cT Z<|.sr<|.az Z<|.bR<|.tR<|.tR<|.bR<|.tR<|?_
   refine y9 Z Z λW s=>⟨fP ?_,s.ext⟩
   first
    | (rw [hal])
    | (rw [hbad (by rw [oM];simp_all)])
  refine .gy (.move Z)<|.gy (.nilCheck Z)<|.gy (.fieldAddr Z mS)<|.gy (.loadM Z iP mE (k:=4) Z Z)<|.gy (.move Z)<|.gy (.call DC Z (λW s=>hi.1 _ _ _ W hs2 hok1.1.2 s.agr))<|.gy (.not Z)<|.yw (.pickF Z Z)<|.mv Z<|.b2 (λh28=>?_) (λh28=>?_)
  ·refine .gG<|.gG<|.gG<|.gG<|.gG<|.gG<|.gG<|.yw (.pickT Z Z)<|.nt<|.cT Z<|.sr<|.az Z<|.bR<|.tR<|.tR<|.bR<|.tR<|?_
   refine y9 Z Z λW s=>⟨fP ?_,s.ext⟩
   first
    | (rw [hal])
    | (rw [hbad (by rw [oM];simp_all)])
  refine .gy (.move Z)<|.gy (.nilCheck Z)<|.gy (.fieldAddr Z jZ)<|.gy (.loadM Z iP mE (k:=5) Z Z)<|.gy (.move Z)<|.gy (.call DC Z (λW s=>hi.2 _ _ _ W hs3 hok1.2 s.agr))<|.gy (.not Z)<|.yw (.pickF Z Z)<|.nt<|.cd Z (λh36=>?_) (λh36=>?_)
  ·refine .sr<|.az Z<|.bR<|.tR<|.tR<|.bR<|.tR<|?_
   refine y9 Z Z λW s=>⟨fP ?_,s.ext⟩
   first
    | (rw [hal])
    | (rw [hbad (by rw [oM];simp_all)])
  exact .sk<|.bN<|.tN<|.rg<|.yw (.add Z Z w7)<|.mv Z<|.nt<|.ag (k+1) ⟨Z,Jt⟩ ⟨Z,Z,Z,Jt⟩ (λ_ s=>s) ⟨by omega,by rw [hf,hal,oM];simp_all⟩ (by omega)
 obtain rfl:k=l.length:=by omega
 rw [aI] at hal;refine .ex<|.eb<|.sr<|.az Z<|?_
 refine y9 Z Z λW s=>⟨fP ?_,s.ext⟩
 first
  | (rw [hal])
  | (rw [hbad (by rw [oM];simp_all)])
theorem SJ (H:Hp):∀ (l:List Sm) (p:Option Addr) (n c:Nat) (w:World),Rep H (.seq 6 (l.map (dSm .u8))) [.slice p n c]->Sm.counts l<=1000000->Agr H w ->
 Calls prg 138 #[.slice p n c] w λr w'=>r=.returned (iN (Sm.counts l))/\Ext w w':=by
 refine Sm.lists λl ih=>?_;intro p n c w hs hb hA;obtain rfl:n=l.length:=by have:=hs.len.1;simpa using this
 have hcap:=hs.cap;have hl0:=yG l;refine Sx.enter (H:=H) func138 rfl ntmps138 rfl hA ?_;refine .sr<|.a Z Z<|.ns<|.mv Z<|.yw (.lenSl lH Z)<|.aq Z<|.sq<|.sm Z<|.yw (.lenSl lH Z)<|.mv Z<|.nt<|.bk<|.lp (X:=Nat) [(0,_),(8,_)] ⟨Z,Z,Jt⟩ [] (λk=>[(3,.int .i64 ((l.length+(Sm.counts (l.take k) - k):Nat):Int)),(9,iN k)]) (λk=>H) (λk=>[]) (λk=>k<=l.length) (λk=>l.length - k) 0 (λ_ s=>s) ⟨Z,Z,Jt⟩ (by omega) λk hC=>?_
 refine .sr<|.yw (.lss Z Z)<|.nt<|.sq<|.ce Z (λh10=>?_) (λh10=>?_)
 ·have hk:k<l.length:=by omega
  obtain ⟨bE,oE,cE,hpE,rE,lE,mE⟩:=hs.elem (eL hk);cases hpE;have hi:=ih _ (cD hk);have hf:=aB7 hk;have hle:=aB6 l (k+1);have hlk:=yG (l.take k);rw [dJ,iA (by omega)] at hlk;generalize hx:l[k]=x at rE hi hf;obtain ⟨kd,nm,hd,ex,th,el⟩:=x;obtain ⟨p1,c1,p2,c2,p3,c3,rfl,hs1,hs2,hs3,hn1,hn2⟩:=vR rE;simp only [Sm.th,Sm.el] at hi;rw [iG] at hf;have e1:th.length<=Sm.counts th:=yG th;exact .sk<|.tN<|.sq<|.bk<|.sm Z<|.aq Z<|.fL 15 [(0,0),(1,0),(2,0),(3,0),(4,0),(5,0),(6,0),(7,0),(8,0),(9,0),(10,0),(11,0),(12,0),(13,0),(14,0)]<|.mv Z<|.mv Z<|.mv Z<|.yw (.indexSl lH Z Z Z (by omega) (q:=oE+k * 6) Z)<|.fA Z mS<|.yw (.loadM Z iP mE (k:=4) Z Z)<|.yw (.call LQ Z (λW s=>hi.1 _ _ _ W hs2 (by omega) s.agr))<|.mv Z<|.mv Z<|.yw (.indexSl lH Z Z Z (by omega) (q:=oE+k * 6) Z)<|.fA Z jZ<|.yw (.loadM Z iP mE (k:=5) Z Z)<|.yw (.call LQ Z (λW s=>hi.2 _ _ _ W hs3 (by omega) s.agr))<|.yw (.add Z Z (c:=((Sm.counts th+Sm.counts el:Nat):Int)) ((w6 (by omega)).trans (by omega)))<|.yw (.add Z Z (c:=((l.length+(Sm.counts (l.take (k+1)) - (k+1)):Nat):Int)) ((w6 (by omega)).trans (by omega)))<|.fn (tl:=[_]) Z<|.a Z Z<|.nl<|.bN<|.tN<|.rg<|.yw (.add Z Z w7)<|.mv Z<|.nt<|.ag (k+1) ⟨Z,Z,Jt⟩ ⟨Z,Z,Jt⟩ (λ_ s=>s) (by omega) (by omega)
 obtain rfl:k=l.length:=by omega
 rw [aI];have hlk:=yG l;refine .ex<|.eb<|.sm Z<|.az Z<|?_
 refine y9 Z Z λW s=>⟨?_,s.ext⟩
 first
  | (rw [show l.length+(Sm.counts l - l.length)=Sm.counts l by omega])
theorem aV0 (H:Hp):∀ (l:List Sm) (p:Option Addr) (n c:Nat) (w:World),Rep H (.seq 6 (l.map (dSm .u8))) [.slice p n c]->Sm.deeps l<=1000000->Agr H w ->
 Calls prg 139 #[.slice p n c] w λr w'=>r=.returned (iN (Sm.deeps l))/\Ext w w':=by
 refine Sm.lists λl ih=>?_;intro p n c w hs hb hA;obtain rfl:n=l.length:=by have:=hs.len.1;simpa using this
 have hcap:=hs.cap;refine Sx.enter (H:=H) func139 rfl ntmps139 rfl hA ?_;refine .sr<|.aq Z<|.sq<|.sm Z<|.yw (.lenSl lH Z)<|.yw (.eql Z Z)<|.nt<|.ce Z (λh7=>?_) (λh7=>?_)
 ·obtain rfl:l=[]:=cQ (by omega);refine .sr<|.az Z<|.tR<|?_
  refine y9 Z Z λW s=>⟨?_,s.ext⟩
  first
   | (rfl)
   | (rw [show ((Sm.deeps l - 1:Nat):Int)+1=(Sm.deeps l:Nat) by
    have:0<Sm.deeps l:=by
     match l,h7 with
     | ⟨kd,nm,hd,ex,th,el⟩::r,_=>simp only [Sm.deeps,yF];omega
    omega])
 refine .sk<|.tN<|.sr<|.aq Z<|.sq<|.sm Z<|.yw (.lenSl lH Z)<|.mv Z<|.nt<|.bk<|.lp (X:=Nat) [(0,_),(9,_)] ⟨Z,Z,Jt⟩ [] (λk=>[(3,.int .i64 ((Sm.deeps (l.take k) - 1:Nat):Int)),(10,iN k)]) (λk=>H) (λk=>[]) (λk=>k<=l.length) (λk=>l.length - k) 0 (λ_ s=>s) ⟨Z,Z,Jt⟩ (by omega) λk hC=>?_
 refine .sr<|.yw (.lss Z Z)<|.nt<|.sq<|.ce Z (λh11=>?_) (λh11=>?_)
 ·have hk:k<l.length:=by omega
  obtain ⟨bE,oE,cE,hpE,rE,lE,mE⟩:=hs.elem (eL hk);cases hpE;have hi:=ih _ (cD hk);have hf:=aJ4 hk;have hle:=aJ3 l (k+1);generalize hx:l[k]=x at rE hi hf;obtain ⟨kd,nm,hd,ex,th,el⟩:=x;obtain ⟨p1,c1,p2,c2,p3,c3,rfl,hs1,hs2,hs3,hn1,hn2⟩:=vR rE;simp only [Sm.th,Sm.el] at hi;rw [yF] at hf;exact .sk<|.tN<|.sq<|.bk<|.sm Z<|.aq Z<|.fL 14 [(0,0),(1,0),(2,0),(3,0),(4,0),(5,0),(6,0),(7,0),(8,0),(9,0),(10,0),(11,0),(12,0),(13,0)]<|.mv Z<|.mv Z<|.mv Z<|.yw (.indexSl lH Z Z Z (by omega) (q:=oE+k * 6) Z)<|.fA Z mS<|.yw (.loadM Z iP mE (k:=4) Z Z)<|.yw (.call LP Z (λW s=>hi.1 _ _ _ W hs2 (by omega) s.agr))<|.mv Z<|.mv Z<|.yw (.indexSl lH Z Z Z (by omega) (q:=oE+k * 6) Z)<|.fA Z jZ<|.yw (.loadM Z iP mE (k:=5) Z Z)<|.yw (.call LP Z (λW s=>hi.2 _ _ _ W hs3 (by omega) s.agr))<|.yw (.max3 Z Z Z (c:=((Sm.deeps (l.take (k+1)) - 1:Nat):Int)) (by omega))<|.fn (tl:=[_]) Z<|.a Z Z<|.nl<|.bN<|.tN<|.rg<|.yw (.add Z Z w7)<|.mv Z<|.nt<|.ag (k+1) ⟨Z,Z,Jt⟩ ⟨Z,Z,Jt⟩ (λ_ s=>s) (by omega) (by omega)
 obtain rfl:k=l.length:=by omega
 rw [aI];refine .ex<|.eb<|.sm Z<|.yw (.add Z Z w7)<|.az Z<|?_
 refine y9 Z Z λW s=>⟨?_,s.ext⟩
 first
  | (rfl)
  | (rw [show ((Sm.deeps l - 1:Nat):Int)+1=(Sm.deeps l:Nat) by
   have:0<Sm.deeps l:=by
    match l,h7 with
    | ⟨kd,nm,hd,ex,th,el⟩::r,_=>simp only [Sm.deeps,yF];omega
   omega])
theorem rD:jP prg 52=some none:=by kernel_rfl
theorem aA1:jP prg 149=some none:=by kernel_rfl
theorem bB7:cU prg 102=true:=by kernel_rfl
theorem bB6:cU prg 103=true:=by kernel_rfl
theorem bB3:cU prg 107=true:=by kernel_rfl
theorem bA1:cU prg 140=true:=by kernel_rfl
theorem wY:dL prg 151 1=some 1:=by kernel_rfl
theorem mV:dL prg 151 2=some 2:=by kernel_rfl
theorem wX:dL prg 162 0=some 0:=by kernel_rfl
theorem pW:dL prg 162 1=some 1:=by kernel_rfl
theorem nV:dL prg 162 2=some 2:=by kernel_rfl
theorem dO:gH prg 27=some 4:=by kernel_rfl
theorem dR:slN prg 52=some 1:=by kernel_rfl
theorem jX:mD prg 27=some
 [Go.Value.int Go.IntKind.u8 (Int.ofNat 0),Go.Value.string { data:={ toList:=[] } },
  Go.Value.int Go.IntKind.i64 (Int.ofNat 0),Go.Value.slice none 0 0]:=by kernel_rfl
theorem VO:cR6 140 GQ:=by
 refine ⟨bA1,λH G e cs b o w h hm hok hA=>?_⟩;obtain ⟨kd,nm,hd,ex,th,el⟩:=e;rw [SW] at hok;obtain ⟨p,c,p1,c1,p2,c2,rfl,hs,hs1,hs2,hn1,hn2⟩:=vR h;have hcap:=hs.cap;refine Sx.enter (H:=H) func140 rfl ntmps140 rfl hA ?_;refine .sr<|.aq Z<|.sq<|.sm Z<|.nC Z<|.fA Z bX<|.yw (.loadM Z fR hm (k:=3) Z Z)<|.yw (.lenSl dW Z)<|.mv Z<|.nt<|.bk<|.lp (X:=Nat) [(8,_),(9,_)] ⟨Z,Z,Jt⟩ [] (λk=>[(10,iN k)]) (λk=>H) (λk=>[]) (λk=>k<=ex.length/\(ex.take k).all (λx=>decide (x.depth<=8))=true) (λk=>ex.length - k) 0 (λ_ s=>s) ⟨Z,Jt⟩ ⟨by omega,Z⟩ λk hC=>?_
 obtain ⟨hk0,hal⟩:=hC;refine .sr<|.yw (.lss Z Z)<|.nt<|.sq<|.ce Z (λh11=>?_) (λh11=>?_)
 ·have hk:k<ex.length:=by omega
  obtain ⟨bE,oE,cE,hpE,rE,lE,mE⟩:=hs.elem (eL hk);cases hpE;have hd1:=DP hk hok;simp only [aB] at hd1;refine .sk<|.tN<|.sq<|.bk<|.sr<|.yw (.indexSl dW Z Z Z (by omega) (q:=oE+k * 4) Z)<|.yw (.loadMW Z fI mE lE)<|.al jX Z λb4=>.sV .head Z Z dO lE rE.one Z<|.ns<|.yw (.loadW Z fI Hm lE)<|.yw (.call PN Z (λW s=>JX _ H cE W rE hd1 s.agr))<|.yw (.gtr Z Z)<|.nt<|.ce Z (λh16=>?_) (λh16=>?_)
  ·refine .sr<|.az Z<|.bR<|.tR<|.tR<|.bR<|.tR<|?_
   refine y9 Z Z λW s=>⟨fP ?_,s.ext⟩
   first
    | (rw [GQ,hal])
    | (rw [GQ,jF hk (by simp;omega)])
  exact .sk<|.bN<|.tN<|.rg<|.yw (.add Z Z w7)<|.mv Z<|.nt<|.ag (k+1) ⟨Z,Jt⟩ ⟨Z,Z,Jt⟩ (λ_ s=>s.pick [] [] Z Z) ⟨by omega,by rw [kI hk,hal];simp;omega⟩ (by omega)
 obtain rfl:k=ex.length:=by omega
 rw [aI] at hal;refine .ex<|.eb<|.sr<|.az Z<|?_
 refine y9 Z Z λW s=>⟨fP ?_,s.ext⟩
 first
  | (rw [GQ,hal])
  | (rw [GQ,jF hk (by simp;omega)])
def cR8 (gf:FuncId) (q:Hd->Bool):Prop:=cU prg gf=true/\∀ (H:Hp),Gl H->∀ (e:Hd) (cs:List Value) (w:World),Rep H (dHd .u8 e) cs->okH e=true->Agr H w ->
 Calls prg gf #[.agg cs.toArray] w λr w'=>r=.returned (.bool (q e))/\Ext w w'
theorem NX:cR8 102 DH:=by
 refine ⟨bB7,λH G e cs w h hok hA=>?_⟩;simp only [okH,aF,aB] at hok;obtain ⟨⟨ho1,ho2⟩,ho3⟩:=hok;obtain ⟨p1,c1,p2,c2,rfl,hnm,hs1,hs2⟩:=DR h;have hcap:=hs1.cap;refine Sx.enter (H:=H) func102 rfl ntmps102 rfl hA ?_;refine .sr<|.bx Z Z Z λb1=>.aq Z<|.sq<|.sr<|.fA Z pW<|.lD Z rD Hm Z<|.yw (.lenSl dR Z)<|.yw (.gtr Z Z)<|.mv Z<|.e2 (λh7=>?_) (λh7=>?_)
 ·refine .gG<|.gG<|.gG<|.gG<|.yw (.pickT Z Z)<|.mv Z<|.gG<|.gG<|.gG<|.gG<|.yw (.pickT Z Z)<|.nt<|.cT Z<|.sr<|.az Z<|.tR<|?_
  refine y9 Z Z λW s=>⟨fP ?_,s.ext⟩
  first
   | (simp only [DH];simp;omega)
   | (simp only [DH];simp [show ¬ 4<e.ps.length by omega,show ¬ 40<Sm.counts e.body by omega,show ¬ 8<Sm.deeps e.body by omega])
 refine .gy (.fieldAddr Z nV)<|.gy (.load Z iP Hm Z)<|.gy (.call LQ Z (λW s=>SJ H _ _ _ _ W hs2 ho1 s.agr))<|.gy (.gtr Z Z)<|.yw (.pickF Z Z)<|.mv Z<|.e2 (λh13=>?_) (λh13=>?_)
 ·refine .gG<|.gG<|.gG<|.gG<|.yw (.pickT Z Z)<|.nt<|.cT Z<|.sr<|.az Z<|.tR<|?_
  refine y9 Z Z λW s=>⟨fP ?_,s.ext⟩
  first
   | (simp only [DH];simp;omega)
   | (simp only [DH];simp [show ¬ 4<e.ps.length by omega,show ¬ 40<Sm.counts e.body by omega,show ¬ 8<Sm.deeps e.body by omega])
 refine .gy (.fieldAddr Z nV)<|.gy (.load Z iP Hm Z)<|.gy (.call LP Z (λW s=>aV0 H _ _ _ _ W hs2 ho2 s.agr))<|.gy (.gtr Z Z)<|.yw (.pickF Z Z)<|.nt<|.ce Z (λh18=>?_) (λh18=>?_)
 ·refine .sr<|.az Z<|.tR<|?_
  refine y9 Z Z λW s=>⟨fP ?_,s.ext⟩
  first
   | (simp only [DH];simp;omega)
   | (simp only [DH];simp [show ¬ 4<e.ps.length by omega,show ¬ 40<Sm.counts e.body by omega,show ¬ 8<Sm.deeps e.body by omega])
 refine .sk<|.tN<|.sr<|.fA Z nV<|.lD Z iP Hm Z<|.yw (.call DC Z (λW s=>OO 140 GQ VO H G _ _ _ _ W hs2 ho3 s.agr))<|.az Z<|?_
 refine y9 Z Z λW s=>⟨fP ?_,s.ext⟩
 first
  | (simp only [DH];simp;omega)
  | (simp only [DH];simp [show ¬ 4<e.ps.length by omega,show ¬ 40<Sm.counts e.body by omega,show ¬ 8<Sm.deeps e.body by omega])
theorem MW:cR8 107 HG:=by
 refine ⟨bB3,λH G e cs w h hok hA=>?_⟩;simp only [okH,aF,aB] at hok;obtain ⟨⟨ho1,ho2⟩,ho3⟩:=hok;obtain ⟨p1,c1,p2,c2,rfl,hnm,hs1,hs2⟩:=DR h;have hcap:=hs1.cap;refine Sx.enter (H:=H) func107 rfl ntmps107 rfl hA ?_;refine .sr<|.bx Z Z Z λb1=>.a Z Z<|.ns<|.fA Z nV<|.lD Z iP Hm Z<|.yw (.call DC Z (λW s=>OO 108 BE TL H G _ _ _ _ W hs2 ho3 s.agr))<|.az Z<|?_
 refine y9 Z Z λW s=>⟨fP ?_,s.ext⟩
 first
  | (rw [HG])
theorem OG:cR8 103 BU:=by
 refine ⟨bB6,λH G e cs w h hok hA=>?_⟩;simp only [okH,aF,aB] at hok;obtain ⟨⟨ho1,ho2⟩,ho3⟩:=hok;obtain ⟨p1,c1,p2,c2,rfl,hnm,hs1,hs2⟩:=DR h;have hcap:=hs1.cap;refine Sx.enter (H:=H) func103 rfl ntmps103 rfl hA ?_;refine .sr<|.bx Z Z Z λb1=>.a Z Z<|.ns<|.fA Z wX<|.lD Z bZ Hm Z<|.yw (.call qB Z (λW s=>nM H G _ (by omega) W s.agr))<|.aq Z<|.sq<|.sr<|.fA Z pW<|.lD Z rD Hm Z<|.yw (.lenSl dR Z)<|.mv Z<|.nt<|.bk<|.lp (X:=Nat) [(1,_),(10,_),(11,_)] ⟨Z,Z,Z,Jt⟩ [_] (λk=>[(12,iN k),(3,.bool (fK e.nm && (e.ps.take k).all fK))]) (λk=>H) (λk=>[]) (λk=>k<=e.ps.length) (λk=>e.ps.length - k) 0 (λ_ s=>s) ⟨Z,(by rw [oP,qV,lA];rfl),Jt⟩ (by omega) λk hC=>?_
 refine .sr<|.yw (.lss Z Z)<|.nt<|.sq<|.ce Z (λh13=>?_) (λh13=>?_)
 ·have hk:k<e.ps.length:=by omega
  obtain ⟨bE,oE,cE,hpE,rE,lE,mE⟩:=hs1.elem (eL hk);cases hpE;obtain ⟨rfl,hsl⟩:=tL rE;refine .sk<|.tN<|.sq<|.bk<|.sr<|.yw (.indexSl dR Z Z Z (by omega) (q:=oE+k * 1) Z)<|.yw (.loadM Z bZ mE (k:=0) Z Z)<|.aq Z<|.rg<|.mv Z<|.mv Z<|.b2 (λh17=>?_) (λh17=>?_)
  ·exact .gy (.move Z)<|.gy (.call qB Z (λW s=>nM H G _ (by omega) W s.agr))<|.yw (.pickT Z Z)<|.a Z Z<|.nl<|.bN<|.tN<|.rg<|.yw (.add Z Z w7)<|.mv Z<|.nt<|.ag (k+1) ⟨Z,(by rw [kI hk,<-fS];rw [h17];rfl),Jt⟩ ⟨Z,Z,Z,Jt⟩ (λ_ s=>s) (by omega) (by omega)
  exact .gG<|.gG<|.yw (.pickF Z Z)<|.a Z Z<|.nl<|.bN<|.tN<|.rg<|.yw (.add Z Z w7)<|.mv Z<|.nt<|.ag (k+1) ⟨Z,(by rw [kI hk,<-fS];rw [h17];rfl),Jt⟩ ⟨Z,Z,Z,Jt⟩ (λ_ s=>s) (by omega) (by omega)
 obtain rfl:k=e.ps.length:=by omega
 rw [aI];refine .ex<|.eb<|.sm Z<|.mv Z<|.b2 (λh23=>?_) (λh23=>?_)
 ·refine .gy (.fieldAddr Z nV)<|.gy (.load Z iP Hm Z)<|.gy (.call DC Z (λW s=>OO 105 vB VS H G _ _ _ _ W hs2 ho3 s.agr))<|.yw (.pickT Z Z)<|.az Z<|?_
  refine y9 Z Z λW s=>⟨fP ?_,s.ext⟩
  first
   | (rw [BU,h23];simp)
   | (rw [BU,h23];rfl)
 refine .gG<|.gG<|.gG<|.yw (.pickF Z Z)<|.az Z<|?_
 refine y9 Z Z λW s=>⟨fP ?_,s.ext⟩
 first
  | (rw [BU,h23];simp)
  | (rw [BU,h23];rfl)
theorem VW (H:Hp) (x:Vr) (cs:List Value) (h:Rep H (dVr .u8 x) cs) (w:World) (hA:Agr H w) :
 Calls prg 106 #[.agg cs.toArray] w λr w'=>r=.returned (.bool (vS x))/\Ext w w':=by
 obtain ⟨rfl,hnm⟩:=FN h;refine Sx.enter (H:=H) func106 rfl ntmps106 rfl hA ?_;refine .sr<|.bx Z Z Z λb1=>.aq Z<|.sq<|.sr<|.fA Z wY<|.lD Z aA1 Hm Z<|.nt<|.bk<|.sr<|.yw (.eql Z Z)<|.aq Z<|.ce Z (λh5=>?_) (λh5=>?_)
 ·have hv:x.ty=1:=bT.1 (by show x.ty.toNat=1;omega);refine .sr<|.fA Z mV<|.lD Z nX Hm Z<|.yw (.neq Z Z)<|.az Z<|.bR<|.tR<|?_
  refine y9 Z Z λW s=>⟨fP ?_,s.ext⟩
  first
   | (simp only [vS,hv];simp;done)
   | (simp only [vS,hv];simp;omega)
   | (simp only [vS,hv];simp_all)
   | (simp only [vS];simp [hv1,hv2,hv3])
 have hv1:¬ x.ty=1:=λe=>h5 (by rw [e];rfl);refine .sr<|.yw (.eql Z Z)<|.aq Z<|.ce Z (λh10=>?_) (λh10=>?_)
 ·have hv:x.ty=2:=bT.1 (by show x.ty.toNat=2;omega);refine .sr<|.fA Z mV<|.lD Z nX Hm Z<|.yw (.eql Z Z)<|.mv Z<|.e2 (λh15=>?_) (λh15=>?_)
  ·refine .gG<|.gG<|.gG<|.yw (.pickT Z Z)<|.az Z<|.bR<|.tR<|?_
   refine y9 Z Z λW s=>⟨fP ?_,s.ext⟩
   first
    | (simp only [vS,hv];simp;done)
    | (simp only [vS,hv];simp;omega)
    | (simp only [vS,hv];simp_all)
    | (simp only [vS];simp [hv1,hv2,hv3])
  refine .gy (.fieldAddr Z mV)<|.gy (.load Z nX Hm Z)<|.gy (.eql Z Z)<|.yw (.pickF Z Z)<|.az Z<|.bR<|.tR<|?_
  refine y9 Z Z λW s=>⟨fP ?_,s.ext⟩
  first
   | (simp only [vS,hv];simp;done)
   | (simp only [vS,hv];simp;omega)
   | (simp only [vS,hv];simp_all)
   | (simp only [vS];simp [hv1,hv2,hv3])
 have hv2:¬ x.ty=2:=λe=>h10 (by rw [e];rfl);refine .sr<|.yw (.eql Z Z)<|.aq Z<|.ce Z (λh20=>?_) (λh20=>?_)
 ·have hv:x.ty=3:=bT.1 (by show x.ty.toNat=3;omega);refine .sr<|.fA Z mV<|.lD Z nX Hm Z<|.yw (.eql Z Z)<|.az Z<|.bR<|.tR<|?_
  refine y9 Z Z λW s=>⟨fP ?_,s.ext⟩
  first
   | (simp only [vS,hv];simp;done)
   | (simp only [vS,hv];simp;omega)
   | (simp only [vS,hv];simp_all)
   | (simp only [vS];simp [hv1,hv2,hv3])
 have hv3:¬ x.ty=3:=λe=>h20 (by rw [e];rfl);refine .sk<|.bN<|.tN<|.sr<|.az Z<|?_
 refine y9 Z Z λW s=>⟨fP ?_,s.ext⟩
 first
  | (simp only [vS,hv];simp;done)
  | (simp only [vS,hv];simp;omega)
  | (simp only [vS,hv];simp_all)
  | (simp only [vS];simp [hv1,hv2,hv3])
theorem DF:jP prg 45=some none:=by kernel_rfl
theorem AZ:jP prg 46=some none:=by kernel_rfl
theorem vL:jP prg 47=some none:=by kernel_rfl
theorem lJ:jP prg 49=some (some 4):=by kernel_rfl
theorem FM:jP prg 102=some (some 2):=by kernel_rfl
theorem CG:jP prg 105=some (some 3):=by kernel_rfl
theorem uG:jP prg 107=some none:=by kernel_rfl
theorem wC:jP prg 108=some none:=by kernel_rfl
theorem qD:jP prg 110=some (some 3):=by kernel_rfl
theorem mM:jP prg 151=some (some 3):=by kernel_rfl
theorem yI:jP prg 153=some none:=by kernel_rfl
theorem qU:jP prg 155=some (some 1):=by kernel_rfl
theorem wB:jP prg 162=some (some 3):=by kernel_rfl
theorem LV:cU prg 101=true:=by kernel_rfl
theorem bB4:cU prg 106=true:=by kernel_rfl
theorem yS:dL prg 49 0=some 0:=by kernel_rfl
theorem pQ:dL prg 49 1=some 1:=by kernel_rfl
theorem nU:dL prg 49 2=some 2:=by kernel_rfl
theorem kM:dL prg 49 3=some 3:=by kernel_rfl
theorem EM:dL prg 102 0=some 0:=by kernel_rfl
theorem EL:dL prg 105 0=some 0:=by kernel_rfl
theorem EJ:dL prg 105 1=some 1:=by kernel_rfl
theorem AO:dL prg 105 2=some 2:=by kernel_rfl
theorem xC:dL prg 110 0=some 0:=by kernel_rfl
theorem kW:dL prg 110 1=some 1:=by kernel_rfl
theorem kV:dL prg 110 2=some 2:=by kernel_rfl
theorem wZ:dL prg 151 0=some 0:=by kernel_rfl
theorem mU:dL prg 155 0=some 0:=by kernel_rfl
theorem UL:gH prg 102=some 2:=by kernel_rfl
theorem LI:gH prg 105=some 3:=by kernel_rfl
theorem vI:gH prg 110=some 3:=by kernel_rfl
theorem rP:gH prg 151=some 3:=by kernel_rfl
theorem zQ:gH prg 155=some 1:=by kernel_rfl
theorem zN:gH prg 162=some 3:=by kernel_rfl
theorem AD:slN prg 45=some 2:=by kernel_rfl
theorem xM:slN prg 46=some 3:=by kernel_rfl
theorem rZ:slN prg 47=some 3:=by kernel_rfl
theorem qX:slN prg 107=some 3:=by kernel_rfl
theorem tS:slN prg 108=some 1:=by kernel_rfl
theorem vH:slN prg 153=some 3:=by kernel_rfl
theorem LF:mD prg 102=some [Go.Value.string { data:={ toList:=[] } },Go.Value.bool false]:=by kernel_rfl
theorem FZ:mD prg 105=some
 [Go.Value.string { data:={ toList:=[] } },Go.Value.string { data:={ toList:=[] } },
  Go.Value.int Go.IntKind.i64 (Int.ofNat 0)]:=by kernel_rfl
theorem tC:mD prg 110=some
 [Go.Value.string { data:={ toList:=[] } },Go.Value.slice none 0 0,Go.Value.slice none 0 0]:=by kernel_rfl
theorem zM:mD prg 151=some
 [Go.Value.string { data:={ toList:=[] } },Go.Value.int Go.IntKind.u8 (Int.ofNat 0),
  Go.Value.int Go.IntKind.i64 (Int.ofNat 0)]:=by kernel_rfl
theorem vG:mD prg 155=some [Go.Value.slice none 0 0]:=by kernel_rfl
theorem zL:mD prg 162=some
 [Go.Value.string { data:={ toList:=[] } },Go.Value.slice none 0 0,Go.Value.slice none 0 0]:=by kernel_rfl
theorem zI (gf:FuncId) (q:Hd->Bool) (hg:cR8 gf q) (H:Hp) (G:Gl H) (f:Ft) (cs:List Value) (h:Rep H (dFt .u8 f) cs) (hok:evH okH f=true) (w:World) (hA:Agr H w) :
 Calls prg 101 #[.agg cs.toArray,.func (.func gf) #[] #[]] w λr w'=>r=.returned (.bool (evH q f))/\Ext w w':=by
 rw [HM] at hok;obtain ⟨p1,c1,p2,c2,p3,c3,rfl,hnm,hs1,hs2,hs3⟩:=AC h;have hcap1:=hs1.cap;have hcap2:=hs2.cap;have hcap3:=hs3.cap;refine Sx.enter (H:=H) func101 rfl ntmps101 rfl hA ?_;refine .sr<|.bx Z Z Z λb2=>.aq Z<|.sq<|.sr<|.fA Z kM<|.lD Z vL Hm Z<|.yw (.lenSl rZ Z)<|.mv Z<|.nt<|.bk<|.lp (X:=Nat) [(1,_),(12,_),(13,_)] ⟨Z,Z,Z,Jt⟩ [_] (λk1=>[(14,iN k1)]) (λk1=>H) (λk1=>[]) (λk1=>k1<=f.comps.length/\(f.comps.take k1).all (FC q)=true) (λk1=>f.comps.length - k1) 0 (λ_ s=>s) ⟨Z,Jt⟩ ⟨by omega,Z⟩ λk1 hC=>?_
 obtain ⟨hq1,hal1⟩:=hC;refine .sr<|.yw (.lss Z Z)<|.nt<|.sq<|.ce Z (λh15=>?_) (λh15=>?_)
 ·have hk1:k1<f.comps.length:=by omega
  obtain ⟨bE1,oE1,cE1,hpE1,rE1,lE1,mE1⟩:=hs3.elem (eL hk1);cases hpE1;have hok1:=DP hk1 hok;generalize hx1:f.comps[k1]=x1 at rE1 hok1;obtain ⟨p4,c4,p5,c5,rfl,hn4,hs4,hs5⟩:=BW rE1;have hcap5:=hs5.cap;rw [FC] at hok1;refine .sk<|.tN<|.sq<|.bk<|.sr<|.yw (.indexSl rZ Z Z Z (by omega) (q:=oE1+k1 * 3) Z)<|.yw (.loadMW Z qD mE1 Z)<|.al tC Z λb6=>.sX .head Z Z vI Z<|.ns<|.fA Z kV<|.lD Z wC Hm Z<|.yw (.lenSl tS Z)<|.mv Z<|.nt<|.bk<|.lp (X:=Nat) [(1,_),(12,_),(13,_),(14,_),(19,_),(20,_)] ⟨Z,Z,Z,Z,Z,Z,Jt⟩ [_,_] (λk2=>[(21,iN k2)]) (λk2=>H) (λk2=>[]) (λk2=>k2<=x1.vers.length/\(x1.vers.take k2).all (λv=>v.all q)=true) (λk2=>x1.vers.length - k2) 0 (λ_ s=>s) ⟨Z,Jt⟩ ⟨by omega,Z⟩ λk2 hC=>?_
  obtain ⟨hq2,hal2⟩:=hC;refine .sr<|.yw (.lss Z Z)<|.nt<|.sq<|.ce Z (λh22=>?_) (λh22=>?_)
  ·have hk2:k2<x1.vers.length:=by omega
   obtain ⟨bE2,oE2,cE2,hpE2,rE2,lE2,mE2⟩:=hs5.elem (eL hk2);cases hpE2;have hok2:=DP hk2 hok1;generalize hx2:x1.vers[k2]=x2 at rE2 hok2;obtain ⟨p6,c6,rfl,hs6⟩:=HW rE2;have hcap6:=hs6.cap;refine .sk<|.tN<|.sq<|.bk<|.sr<|.yw (.indexSl tS Z Z Z (by omega) (q:=oE2+k2 * 1) Z)<|.yw (.loadMW Z qU mE2 Z)<|.al vG Z λb8=>.sX .head Z Z zQ Z<|.ns<|.fA Z mU<|.lD Z yI Hm Z<|.yw (.lenSl vH Z)<|.mv Z<|.nt<|.bk<|.lp (X:=Nat) [(1,_),(12,_),(13,_),(14,_),(19,_),(20,_),(21,_),(26,_),(27,_)] ⟨Z,Z,Z,Z,Z,Z,Z,Z,Z,Jt⟩ [_,_,_] (λk3=>[(28,iN k3)]) (λk3=>H) (λk3=>[]) (λk3=>k3<=x2.length/\(x2.take k3).all q=true) (λk3=>x2.length - k3) 0 (λ_ s=>s) ⟨Z,Jt⟩ ⟨by omega,Z⟩ λk3 hC=>?_
   obtain ⟨hq3,hal3⟩:=hC;refine .sr<|.yw (.lss Z Z)<|.nt<|.sq<|.ce Z (λh29=>?_) (λh29=>?_)
   ·have hk3:k3<x2.length:=by omega
    obtain ⟨bE3,oE3,cE3,hpE3,rE3,lE3,mE3⟩:=hs6.elem (eL hk3);cases hpE3;have hok3:=DP hk3 hok2;refine .sk<|.tN<|.sq<|.bk<|.sr<|.yw (.indexSl vH Z Z Z (by omega) (q:=oE3+k3 * 3) Z)<|.yw (.loadMW Z wB mE3 lE3)<|.al zL Z λb10=>.sV .head Z Z zN lE3 rE3.one Z<|.ns<|.mv Z<|.yw (.loadW Z wB Hm lE3)<|.yw (.callV (fi:=[]) (ca:=[]) Z hg.1 Z (λW s=>hg.2 H G _ _ W rE3 hok3 s.agr))<|.yw (.not Z)<|.nt<|.cd Z (λh35=>?_) (λh35=>?_)
    ·refine .sr<|.az Z<|.bR<|.tR<|.tR<|.bR<|.bR<|.tR<|.tR<|.bR<|.bR<|.tR<|.tR<|.bR<|.tR<|?_
     refine y9 Z Z λW s=>⟨fP ?_,s.ext⟩
     first
      | (rw [HM,hal1])
      | (rw [HM,jF hk1 (by rw [hx1,FC];exact jF hk2 (by rw [hx2];exact jF hk3 (by simpa using h35)))])
    exact .sk<|.bN<|.tN<|.rg<|.yw (.add Z Z w7)<|.mv Z<|.nt<|.ag (k3+1) ⟨Z,Jt⟩ ⟨Z,Z,Z,Z,Z,Z,Z,Z,Z,Jt⟩ (λ_ s=>s.pick [1,2,3] [_,_,_] Z Z) ⟨by omega,by rw [kI hk3,hal3];simpa using h35⟩ (by omega)
   obtain rfl:k3=x2.length:=by omega
   rw [aI] at hal3;exact .ex<|.tE<|.tE<|.bE<|.bN<|.tN<|.rg<|.yw (.add Z Z w7)<|.mv Z<|.nt<|.ag (k2+1) ⟨Z,Jt⟩ ⟨Z,Z,Z,Z,Z,Z,Jt⟩ (λ_ s=>s.pick [1,2] [_,_] Z Z) ⟨by omega,by rw [kI hk2,hal2,hx2,hal3];rfl⟩ (by omega)
  obtain rfl:k2=x1.vers.length:=by omega
  rw [aI] at hal2;exact .ex<|.tE<|.tE<|.bE<|.bN<|.tN<|.rg<|.yw (.add Z Z w7)<|.mv Z<|.nt<|.ag (k1+1) ⟨Z,Jt⟩ ⟨Z,Z,Z,Jt⟩ (λ_ s=>s.pick [1] [_] Z Z) ⟨by omega,by rw [kI hk1,hal1,hx1,FC,hal2];rfl⟩ (by omega)
 obtain rfl:k1=f.comps.length:=by omega
 rw [aI] at hal1;refine .ex<|.eb<|.sr<|.az Z<|?_
 refine y9 Z Z λW s=>⟨fP ?_,s.ext⟩
 first
  | (rw [HM,hal1])
  | (rw [HM,jF hk1 (by rw [hx1,FC];exact jF hk2 (by rw [hx2];exact jF hk3 (by simpa using h35)))])
theorem aW5 (H:Hp) (G:Gl H) (f:Ft) (cs:List Value) (h:Rep H (dFt .u8 f) cs) (hok:evH okH f=true) (w:World) (hA:Agr H w) :
 Calls prg 63 #[.agg cs.toArray] w λr w'=>r=.returned (.bool (FA f))/\Ext w w':=by
 obtain ⟨p1,c1,p2,c2,p3,c3,rfl,hnm,hs1,hs2,hs3⟩:=AC h;have hcap1:=hs1.cap;have hcap2:=hs2.cap;have hcap3:=hs3.cap;refine Sx.enter (H:=H) func63 rfl ntmps63 rfl hA ?_;refine .sr<|.bx Z Z Z λb1=>.aq Z<|.sq<|.sr<|.fA Z nU<|.lD Z AZ Hm Z<|.yw (.lenSl xM Z)<|.mv Z<|.nt<|.bk<|.lp (X:=Nat) [(1,_),(10,_),(11,_)] ⟨Z,Z,Z,Jt⟩ [_] (λk0=>[(12,iN k0)]) (λk0=>H) (λk0=>[]) (λk0=>k0<=f.links.length/\(f.links.take k0).all lkB=true) (λk0=>f.links.length - k0) 0 (λ_ s=>s) ⟨Z,Jt⟩ ⟨by omega,Z⟩ λk0 hC=>?_
 obtain ⟨hq0,hal0⟩:=hC;refine .sr<|.yw (.lss Z Z)<|.nt<|.sq<|.ce Z (λh13=>?_) (λh13=>?_)
 ·have hk0:k0<f.links.length:=by omega
  obtain ⟨bE0,oE0,cE0,hpE0,rE0,lE0,mE0⟩:=hs2.elem (eL hk0);cases hpE0;obtain ⟨rfl,hn5,hn6⟩:=IQ rE0;refine .sk<|.tN<|.sq<|.bk<|.sr<|.yw (.indexSl xM Z Z Z (by omega) (q:=oE0+k0 * 3) Z)<|.yw (.loadMW Z CG mE0 Z)<|.al FZ Z λb4=>.sX .head Z Z LI Z<|.ns<|.fA Z AO<|.lD Z dZ Hm Z<|.yw (.lss Z Z)<|.mv Z<|.e2 (λh19=>?_) (λh19=>?_)
  ·refine .gG<|.gG<|.gG<|.yw (.pickT Z Z)<|.nt<|.cT Z<|.sr<|.az Z<|.bR<|.tR<|.tR<|.bR<|.tR<|?_
   refine y9 Z Z λW s=>⟨fP ?_,s.ext⟩
   first
    | (rw [FA,hal0,hal1];simp)
    | (rw [FA,jF hk0 (by simp [lkB];omega)];simp)
    | (rw [FA,show f.comps.all (λc=>c.vars.all vS)=false from jF hk1 (by rw [hx1];exact jF hk2 (by simpa using h41))];simp)
  refine .gy (.fieldAddr Z AO)<|.gy (.load Z dZ Hm Z)<|.gy (.gtr Z Z)<|.yw (.pickF Z Z)<|.nt<|.ce Z (λh23=>?_) (λh23=>?_)
  ·refine .sr<|.az Z<|.bR<|.tR<|.tR<|.bR<|.tR<|?_
   refine y9 Z Z λW s=>⟨fP ?_,s.ext⟩
   first
    | (rw [FA,hal0,hal1];simp)
    | (rw [FA,jF hk0 (by simp [lkB];omega)];simp)
    | (rw [FA,show f.comps.all (λc=>c.vars.all vS)=false from jF hk1 (by rw [hx1];exact jF hk2 (by simpa using h41))];simp)
  exact .sk<|.bN<|.tN<|.rg<|.yw (.add Z Z w7)<|.mv Z<|.nt<|.ag (k0+1) ⟨Z,Jt⟩ ⟨Z,Z,Z,Jt⟩ (λ_ s=>s.pick [1] [_] Z Z) ⟨by omega,by rw [kI hk0,hal0];simp [lkB];omega⟩ (by omega)
 obtain rfl:k0=f.links.length:=by omega
 rw [aI] at hal0;refine .ex<|.eb<|.sq<|.sr<|.fA Z kM<|.lD Z vL Hm Z<|.yw (.lenSl rZ Z)<|.mv Z<|.nt<|.bk<|.lp (X:=Nat) [(1,_),(26,_),(27,_)] ⟨Z,Z,Z,Jt⟩ [_] (λk1=>[(28,iN k1)]) (λk1=>H) (λk1=>[]) (λk1=>k1<=f.comps.length/\(f.comps.take k1).all (λc=>c.vars.all vS)=true) (λk1=>f.comps.length - k1) 0 (λ_ s=>s) ⟨Z,Jt⟩ ⟨by omega,Z⟩ λk1 hC=>?_
 obtain ⟨hq1,hal1⟩:=hC;refine .sr<|.yw (.lss Z Z)<|.nt<|.sq<|.ce Z (λh29=>?_) (λh29=>?_)
 ·have hk1:k1<f.comps.length:=by omega
  obtain ⟨bE1,oE1,cE1,hpE1,rE1,lE1,mE1⟩:=hs3.elem (eL hk1);cases hpE1;generalize hx1:f.comps[k1]=x1 at rE1;obtain ⟨p4,c4,p5,c5,rfl,hn4,hs4,hs5⟩:=BW rE1;have hcap4:=hs4.cap;refine .sk<|.tN<|.sq<|.bk<|.sr<|.yw (.indexSl rZ Z Z Z (by omega) (q:=oE1+k1 * 3) Z)<|.yw (.loadMW Z qD mE1 Z)<|.al tC Z λb6=>.sX .head Z Z vI Z<|.ns<|.fA Z kW<|.lD Z uG Hm Z<|.yw (.lenSl qX Z)<|.mv Z<|.nt<|.bk<|.lp (X:=Nat) [(1,_),(26,_),(27,_),(28,_),(33,_),(34,_)] ⟨Z,Z,Z,Z,Z,Z,Jt⟩ [_,_] (λk2=>[(35,iN k2)]) (λk2=>H) (λk2=>[]) (λk2=>k2<=x1.vars.length/\(x1.vars.take k2).all vS=true) (λk2=>x1.vars.length - k2) 0 (λ_ s=>s) ⟨Z,Jt⟩ ⟨by omega,Z⟩ λk2 hC=>?_
  obtain ⟨hq2,hal2⟩:=hC;refine .sr<|.yw (.lss Z Z)<|.nt<|.sq<|.ce Z (λh36=>?_) (λh36=>?_)
  ·have hk2:k2<x1.vars.length:=by omega
   obtain ⟨bE2,oE2,cE2,hpE2,rE2,lE2,mE2⟩:=hs4.elem (eL hk2);cases hpE2

   refine .sk<|.tN<|.sq<|.bk<|.sr<|.yw (.indexSl qX Z Z Z (by omega) (q:=oE2+k2 * 3) Z)<|.yw (.loadMW Z mM mE2 lE2)<|.al zM Z λb8=>.sV .head Z Z rP lE2 rE2.one Z<|.ns<|.yw (.loadW Z mM Hm lE2)<|.yw (.call bB4 Z (λW s=>VW H _ _ rE2 W s.agr))<|.yw (.not Z)<|.nt<|.cd Z (λh41=>?_) (λh41=>?_)
   ·refine .sr<|.az Z<|.bR<|.tR<|.tR<|.bR<|.bR<|.tR<|.tR<|.bR<|.tR<|?_
    refine y9 Z Z λW s=>⟨fP ?_,s.ext⟩
    first
     | (rw [FA,hal0,hal1];simp)
     | (rw [FA,jF hk0 (by simp [lkB];omega)];simp)
     | (rw [FA,show f.comps.all (λc=>c.vars.all vS)=false from jF hk1 (by rw [hx1];exact jF hk2 (by simpa using h41))];simp)
   exact .sk<|.bN<|.tN<|.rg<|.yw (.add Z Z w7)<|.mv Z<|.nt<|.ag (k2+1) ⟨Z,Jt⟩ ⟨Z,Z,Z,Z,Z,Z,Jt⟩ (λ_ s=>s.pick [1,2] [_,_] Z Z) ⟨by omega,by rw [kI hk2,hal2];simpa using h41⟩ (by omega)
  obtain rfl:k2=x1.vars.length:=by omega
  rw [aI] at hal2;exact .ex<|.tE<|.tE<|.bE<|.bN<|.tN<|.rg<|.yw (.add Z Z w7)<|.mv Z<|.nt<|.ag (k1+1) ⟨Z,Jt⟩ ⟨Z,Z,Z,Jt⟩ (λ_ s=>s.pick [1] [_] Z Z) ⟨by omega,by rw [kI hk1,hal1,hx1,hal2];rfl⟩ (by omega)
 obtain rfl:k1=f.comps.length:=by omega
 rw [aI] at hal1;refine .ex<|.eb<|.sr<|.yw (.loadW Z lJ Hm Z)<|.yw (.call LV Z (λW s=>zI 107 HG MW H G f _ h hok W s.agr))<|.az Z<|?_
 refine y9 Z Z λW s=>⟨fP ?_,s.ext⟩
 first
  | (rw [FA,hal0,hal1];simp)
  | (rw [FA,jF hk0 (by simp [lkB];omega)];simp)
  | (rw [FA,show f.comps.all (λc=>c.vars.all vS)=false from jF hk1 (by rw [hx1];exact jF hk2 (by simpa using h41))];simp)
theorem bM9 (H:Hp) (G:Gl H) (f:Ft) (cs:List Value) (h:Rep H (dFt .u8 f) cs) (hok:evH okH f=true) (w:World) (hA:Agr H w) :
 Calls prg 62 #[.agg cs.toArray] w λr w'=>r=.returned (.bool (QU f))/\Ext w w':=by
 obtain ⟨p1,c1,p2,c2,p3,c3,rfl,hnm,hs1,hs2,hs3⟩:=AC h;have hcap1:=hs1.cap;have hcap2:=hs2.cap;have hcap3:=hs3.cap;refine Sx.enter (H:=H) func62 rfl ntmps62 rfl hA ?_;refine .sr<|.bx Z Z Z λb1=>.a Z Z<|.ns<|.fA Z yS<|.lD Z bZ Hm Z<|.yw (.call qB Z (λW s=>nM H G _ (by omega) W s.agr))<|.aq Z<|.sq<|.sr<|.fA Z pQ<|.lD Z DF Hm Z<|.yw (.lenSl AD Z)<|.mv Z<|.nt<|.bk<|.lp (X:=Nat) [(1,_),(16,_),(17,_)] ⟨Z,Z,Z,Jt⟩ [_] (λk0=>[(18,iN k0),(3,.bool (fK f.nm && (f.flags.take k0).all (λx=>fK x.nm)))]) (λk0=>H) (λk0=>[]) (λk0=>k0<=f.flags.length) (λk0=>f.flags.length - k0) 0 (λ_ s=>s) ⟨Z,(by rw [oP,qV,lA];rfl),Jt⟩ (by omega) λk0 hC=>?_
 refine .sr<|.yw (.lss Z Z)<|.nt<|.sq<|.ce Z (λh19=>?_) (λh19=>?_)
 ·have hk0:k0<f.flags.length:=by omega
  obtain ⟨bE0,oE0,cE0,hpE0,rE0,lE0,mE0⟩:=hs1.elem (eL hk0);cases hpE0;obtain ⟨rfl,hn5⟩:=MY rE0;refine .sk<|.tN<|.sq<|.bk<|.sr<|.yw (.indexSl AD Z Z Z (by omega) (q:=oE0+k0 * 2) Z)<|.yw (.loadMW Z FM mE0 Z)<|.al LF Z λb5=>.sX .head Z Z UL Z<|.nt<|.rg<|.mv Z<|.mv Z<|.b2 (λh23=>?_) (λh23=>?_)
  ·exact .gy (.fieldAddr Z EM)<|.gy (.load Z bZ Hm Z)<|.gy (.call qB Z (λW s=>nM H G _ (by omega) W s.agr))<|.yw (.pickT Z Z)<|.a Z Z<|.nl<|.bN<|.tN<|.rg<|.yw (.add Z Z w7)<|.mv Z<|.nt<|.ag (k0+1) ⟨Z,(by rw [kI hk0,<-fS,h23];rfl),Jt⟩ ⟨Z,Z,Z,Jt⟩ (λ_ s=>s.pick [1] [_] Z Z) (by omega) (by omega)
  exact .gG<|.gG<|.gG<|.yw (.pickF Z Z)<|.a Z Z<|.nl<|.bN<|.tN<|.rg<|.yw (.add Z Z w7)<|.mv Z<|.nt<|.ag (k0+1) ⟨Z,(by rw [kI hk0,<-fS,h23];rfl),Jt⟩ ⟨Z,Z,Z,Jt⟩ (λ_ s=>s.pick [1] [_] Z Z) (by omega) (by omega)
 obtain rfl:k0=f.flags.length:=by omega
 rw [aI];refine .ex<|.eb<|.sq<|.sr<|.fA Z nU<|.lD Z AZ Hm Z<|.yw (.lenSl xM Z)<|.mv Z<|.nt<|.bk<|.lp (X:=Nat) [(1,_),(30,_),(31,_)] ⟨Z,Z,Z,Jt⟩ [_] (λk1=>[(32,iN k1),(3,.bool (fK f.nm && f.flags.all (λx=>fK x.nm) && (f.links.take k1).all (λx=>fK x.fr && fK x.to)))]) (λk1=>H) (λk1=>[]) (λk1=>k1<=f.links.length) (λk1=>f.links.length - k1) 0 (λ_ s=>s) ⟨Z,(by rw [oP,qV,lA];rfl),Jt⟩ (by omega) λk1 hC=>?_
 refine .sr<|.yw (.lss Z Z)<|.nt<|.sq<|.ce Z (λh33=>?_) (λh33=>?_)
 ·have hk1:k1<f.links.length:=by omega
  obtain ⟨bE1,oE1,cE1,hpE1,rE1,lE1,mE1⟩:=hs2.elem (eL hk1);cases hpE1;obtain ⟨rfl,hn5,hn6⟩:=IQ rE1;refine .sk<|.tN<|.sq<|.bk<|.sr<|.yw (.indexSl xM Z Z Z (by omega) (q:=oE1+k1 * 3) Z)<|.yw (.loadMW Z CG mE1 Z)<|.al FZ Z λb7=>.sX .head Z Z LI Z<|.nt<|.rg<|.mv Z<|.mv Z<|.b2 (λh37=>?_) (λh37=>?_)
  ·refine .gy (.fieldAddr Z EL)<|.gy (.load Z bZ Hm Z)<|.gy (.call qB Z (λW s=>nM H G _ (by omega) W s.agr))<|.yw (.pickT Z Z)<|.mv Z<|.b2 (λh42=>?_) (λh42=>?_)
   ·exact .gy (.fieldAddr Z EJ)<|.gy (.load Z bZ Hm Z)<|.gy (.call qB Z (λW s=>nM H G _ (by omega) W s.agr))<|.yw (.pickT Z Z)<|.a Z Z<|.nl<|.bN<|.tN<|.rg<|.yw (.add Z Z w7)<|.mv Z<|.nt<|.ag (k1+1) ⟨Z,(by rw [kI hk1,<-fS,h37];first | rfl | (rw [gM,h42];rfl)),Jt⟩ ⟨Z,Z,Z,Jt⟩ (λ_ s=>s.pick [1] [_] Z Z) (by omega) (by omega)
   exact .gG<|.gG<|.gG<|.yw (.pickF Z Z)<|.a Z Z<|.nl<|.bN<|.tN<|.rg<|.yw (.add Z Z w7)<|.mv Z<|.nt<|.ag (k1+1) ⟨Z,(by rw [kI hk1,<-fS,h37];first | rfl | (rw [gM,h42];rfl)),Jt⟩ ⟨Z,Z,Z,Jt⟩ (λ_ s=>s.pick [1] [_] Z Z) (by omega) (by omega)
  exact .gG<|.gG<|.gG<|.yw (.pickF Z Z)<|.mv Z<|.gG<|.gG<|.gG<|.yw (.pickF Z Z)<|.a Z Z<|.nl<|.bN<|.tN<|.rg<|.yw (.add Z Z w7)<|.mv Z<|.nt<|.ag (k1+1) ⟨Z,(by rw [kI hk1,<-fS,h37];first | rfl | (rw [gM,h42];rfl)),Jt⟩ ⟨Z,Z,Z,Jt⟩ (λ_ s=>s.pick [1] [_] Z Z) (by omega) (by omega)
 obtain rfl:k1=f.links.length:=by omega
 rw [aI];refine .ex<|.eb<|.sq<|.sr<|.fA Z kM<|.lD Z vL Hm Z<|.yw (.lenSl rZ Z)<|.mv Z<|.nt<|.bk<|.lp (X:=Nat) [(1,_),(49,_),(50,_)] ⟨Z,Z,Z,Jt⟩ [_] (λk2=>[(51,iN k2),(3,.bool (fK f.nm && f.flags.all (λx=>fK x.nm) && f.links.all (λx=>fK x.fr && fK x.to) && (f.comps.take k2).all (λc:Cp=>fK c.nm && c.vars.all λv=>fK v.nm)))]) (λk2=>H) (λk2=>[]) (λk2=>k2<=f.comps.length) (λk2=>f.comps.length - k2) 0 (λ_ s=>s) ⟨Z,(by rw [oP,qV,lA];rfl),Jt⟩ (by omega) λk2 hC=>?_
 refine .sr<|.yw (.lss Z Z)<|.nt<|.sq<|.ce Z (λh52=>?_) (λh52=>?_)
 ·have hk2:k2<f.comps.length:=by omega
  obtain ⟨bE2,oE2,cE2,hpE2,rE2,lE2,mE2⟩:=hs3.elem (eL hk2);cases hpE2;generalize hx2:f.comps[k2]=x2 at rE2;obtain ⟨p4,c4,p5,c5,rfl,hn4,hs4,hs5⟩:=BW rE2;have hcap4:=hs4.cap;refine .sk<|.tN<|.sq<|.bk<|.sr<|.yw (.indexSl rZ Z Z Z (by omega) (q:=oE2+k2 * 3) Z)<|.yw (.loadMW Z qD mE2 Z)<|.al tC Z λb9=>.sX .head Z Z vI Z<|.ns<|.mv Z<|.mv Z<|.b2 (λh56=>?_) (λh56=>?_)
  ·refine .gy (.fieldAddr Z xC)<|.gy (.load Z bZ Hm Z)<|.gy (.call qB Z (λW s=>nM H G _ (by omega) W s.agr))<|.yw (.pickT Z Z)<|.a Z Z<|.ns<|.fA Z kW<|.lD Z uG Hm Z<|.yw (.lenSl qX Z)<|.mv Z<|.nt<|.bk<|.lp (X:=Nat) [(1,_),(49,_),(50,_),(51,_),(62,_),(63,_)] ⟨Z,Z,Z,Z,Z,Z,Jt⟩ [_,_] (λk3=>[(64,iN k3),(3,.bool (fK f.nm && f.flags.all (λx=>fK x.nm) && f.links.all (λx=>fK x.fr && fK x.to) && (f.comps.take k2).all (λc:Cp=>fK c.nm && c.vars.all λv=>fK v.nm) && fK x2.nm && (x2.vars.take k3).all (λv=>fK v.nm)))]) (λk3=>H) (λk3=>[]) (λk3=>k3<=x2.vars.length) (λk3=>x2.vars.length - k3) 0 (λ_ s=>s) ⟨Z,(by rw [oP,qV,lA,h56];rfl),Jt⟩ (by omega) λk3 hC=>?_
   refine .sr<|.yw (.lss Z Z)<|.nt<|.sq<|.cd Z (λh65=>?_) (λh65=>?_)
   ·try simp only [dt] at h65
    have hk3:k3<x2.vars.length:=by omega
    obtain ⟨bE3,oE3,cE3,hpE3,rE3,lE3,mE3⟩:=hs4.elem (eL hk3);cases hpE3;obtain ⟨rfl,hn7⟩:=FN rE3;refine .sk<|.tN<|.sq<|.bk<|.sr<|.yw (.indexSl qX Z Z Z (by omega) (q:=oE3+k3 * 3) Z)<|.yw (.loadMW Z mM mE3 Z)<|.al zM Z λb11=>.sX .head Z Z rP Z<|.nt<|.rg<|.mv Z<|.mv Z<|.b2 (λh69=>?_) (λh69=>?_)
    ·exact .gy (.fieldAddr Z wZ)<|.gy (.load Z bZ Hm Z)<|.gy (.call qB Z (λW s=>nM H G _ (by omega) W s.agr))<|.yw (.pickT Z Z)<|.a Z Z<|.nl<|.bN<|.tN<|.rg<|.yw (.add Z Z w7)<|.mv Z<|.nt<|.ag (k3+1) ⟨Z,(by rw [kI hk3,<-fS,h69];rfl),Jt⟩ ⟨Z,Z,Z,Z,Z,Z,Jt⟩ (λ_ s=>s.pick [1,2] [_,_] Z Z) (by omega) (by omega)
    exact .gG<|.gG<|.gG<|.yw (.pickF Z Z)<|.a Z Z<|.nl<|.bN<|.tN<|.rg<|.yw (.add Z Z w7)<|.mv Z<|.nt<|.ag (k3+1) ⟨Z,(by rw [kI hk3,<-fS,h69];rfl),Jt⟩ ⟨Z,Z,Z,Z,Z,Z,Jt⟩ (λ_ s=>s.pick [1,2] [_,_] Z Z) (by omega) (by omega)
   try simp only [df] at h65
   obtain rfl:k3=x2.vars.length:=by omega
   rw [aI];exact .ex<|.tE<|.tE<|.bE<|.bN<|.tN<|.rg<|.yw (.add Z Z w7)<|.mv Z<|.nt<|.ag (k2+1) ⟨Z,(by rw [kI hk2,<-fS,hx2,<-fS];rfl),Jt⟩ ⟨Z,Z,Z,Jt⟩ (λ_ s=>s.pick [1] [_] Z Z) (by omega) (by omega)
  refine .gG<|.gG<|.gG<|.yw (.pickF Z Z)<|.a Z Z<|.ns<|.fA Z kW<|.lD Z uG Hm Z<|.yw (.lenSl qX Z)<|.mv Z<|.nt<|.bk<|.lp (X:=Nat) [(1,_),(49,_),(50,_),(51,_),(62,_),(63,_)] ⟨Z,Z,Z,Z,Z,Z,Jt⟩ [_,_] (λk3=>[(64,iN k3),(3,.bool (fK f.nm && f.flags.all (λx=>fK x.nm) && f.links.all (λx=>fK x.fr && fK x.to) && (f.comps.take k2).all (λc:Cp=>fK c.nm && c.vars.all λv=>fK v.nm) && fK x2.nm && (x2.vars.take k3).all (λv=>fK v.nm)))]) (λk3=>H) (λk3=>[]) (λk3=>k3<=x2.vars.length) (λk3=>x2.vars.length - k3) 0 (λ_ s=>s) ⟨Z,(by rw [oP,qV,lA,h56];rfl),Jt⟩ (by omega) λk3 hC=>?_
  refine .sr<|.yw (.lss Z Z)<|.nt<|.sq<|.cd Z (λh65=>?_) (λh65=>?_)
  ·try simp only [dt] at h65
   have hk3:k3<x2.vars.length:=by omega
   obtain ⟨bE3,oE3,cE3,hpE3,rE3,lE3,mE3⟩:=hs4.elem (eL hk3);cases hpE3;obtain ⟨rfl,hn7⟩:=FN rE3;refine .sk<|.tN<|.sq<|.bk<|.sr<|.yw (.indexSl qX Z Z Z (by omega) (q:=oE3+k3 * 3) Z)<|.yw (.loadMW Z mM mE3 Z)<|.al zM Z λb11=>.sX .head Z Z rP Z<|.nt<|.rg<|.mv Z<|.mv Z<|.b2 (λh69=>?_) (λh69=>?_)
   ·exact .gy (.fieldAddr Z wZ)<|.gy (.load Z bZ Hm Z)<|.gy (.call qB Z (λW s=>nM H G _ (by omega) W s.agr))<|.yw (.pickT Z Z)<|.a Z Z<|.nl<|.bN<|.tN<|.rg<|.yw (.add Z Z w7)<|.mv Z<|.nt<|.ag (k3+1) ⟨Z,(by rw [kI hk3,<-fS,h69];rfl),Jt⟩ ⟨Z,Z,Z,Z,Z,Z,Jt⟩ (λ_ s=>s.pick [1,2] [_,_] Z Z) (by omega) (by omega)
   exact .gG<|.gG<|.gG<|.yw (.pickF Z Z)<|.a Z Z<|.nl<|.bN<|.tN<|.rg<|.yw (.add Z Z w7)<|.mv Z<|.nt<|.ag (k3+1) ⟨Z,(by rw [kI hk3,<-fS,h69];rfl),Jt⟩ ⟨Z,Z,Z,Z,Z,Z,Jt⟩ (λ_ s=>s.pick [1,2] [_,_] Z Z) (by omega) (by omega)
  try simp only [df] at h65
  obtain rfl:k3=x2.vars.length:=by omega
  rw [aI];exact .ex<|.tE<|.tE<|.bE<|.bN<|.tN<|.rg<|.yw (.add Z Z w7)<|.mv Z<|.nt<|.ag (k2+1) ⟨Z,(by rw [kI hk2,<-fS,hx2,<-fS];rfl),Jt⟩ ⟨Z,Z,Z,Jt⟩ (λ_ s=>s.pick [1] [_] Z Z) (by omega) (by omega)
 obtain rfl:k2=f.comps.length:=by omega
 rw [aI];refine .ex<|.eb<|.sm Z<|.mv Z<|.b2 (λh77=>?_) (λh77=>?_)
 ·refine .gy (.loadW Z lJ Hm Z)<|.gy (.call LV Z (λW s=>zI 103 BU OG H G f _ h hok W s.agr))<|.yw (.pickT Z Z)<|.az Z<|?_
  refine y9 Z Z λW s=>⟨fP ?_,s.ext⟩
  first
   | (rw [QU,h77];simp)
   | (rw [QU,h77];rfl)
 refine .gG<|.gG<|.yw (.pickF Z Z)<|.az Z<|?_
 refine y9 Z Z λW s=>⟨fP ?_,s.ext⟩
 first
  | (rw [QU,h77];simp)
  | (rw [QU,h77];rfl)
theorem bS2:cU prg 61=true:=by kernel_rfl
theorem bS1:cU prg 62=true:=by kernel_rfl
theorem bS0:cU prg 63=true:=by kernel_rfl
theorem PH:aW1 prg 209=true:=by kernel_rfl
theorem bK7 (H:Hp) (G:Gl H) (f:Ft) (cs:List Value) (h:Rep H (dFt .u8 f) cs) (hok:evH okH f=true) (w:World) (hA:Agr H w) :
 Calls prg 61 #[.agg cs.toArray] w λr w'=>r=.returned (.bool (uW f))/\Ext w w':=by
 obtain ⟨p1,c1,p2,c2,p3,c3,rfl,hnm,hs1,hs2,hs3⟩:=AC h;have hcap1:=hs1.cap;have hcap2:=hs2.cap;have hcap3:=hs3.cap;refine Sx.enter (H:=H) func61 rfl ntmps61 rfl hA ?_;refine .sr<|.bx Z Z Z λb1=>.a Z Z<|.ns<|.fA Z kM<|.lD Z vL Hm Z<|.yw (.lenSl rZ Z)<|.aq Z<|.sq<|.sm Z<|.yw (.eql Z Z)<|.mv Z<|.e2 (λh17=>?_) (λh17=>?_)
 ·refine .gG<|.gG<|.yw (.pickT Z Z)<|.mv Z<|.gG<|.gG<|.gG<|.gG<|.yw (.pickT Z Z)<|.mv Z<|.gG<|.gG<|.gG<|.gG<|.yw (.pickT Z Z)<|.nt<|.cT Z<|.sr<|.az Z<|.tR<|?_
  refine y9 Z Z λW s=>⟨fP ?_,s.ext⟩
  first
   | (rw [uW,hal1,show tB f=true by simp only [tB,aF,aB];omega];simp)
   | (rw [uW,show tB f=false by simp only [tB,dH,bM];omega];rfl)
   | (rw [uW,show f.comps.all BP=false from jF hk1 (by rw [hx1];simp only [BP,dH,bM];omega)];simp)
 refine .gy (.move Z)<|.gy (.gtr Z Z)<|.yw (.pickF Z Z)<|.mv Z<|.e2 (λh21=>?_) (λh21=>?_)
 ·refine .gG<|.gG<|.gG<|.gG<|.yw (.pickT Z Z)<|.mv Z<|.gG<|.gG<|.gG<|.gG<|.yw (.pickT Z Z)<|.nt<|.cT Z<|.sr<|.az Z<|.tR<|?_
  refine y9 Z Z λW s=>⟨fP ?_,s.ext⟩
  first
   | (rw [uW,hal1,show tB f=true by simp only [tB,aF,aB];omega];simp)
   | (rw [uW,show tB f=false by simp only [tB,dH,bM];omega];rfl)
   | (rw [uW,show f.comps.all BP=false from jF hk1 (by rw [hx1];simp only [BP,dH,bM];omega)];simp)
 refine .gy (.fieldAddr Z pQ)<|.gy (.load Z DF Hm Z)<|.gy (.lenSl AD Z)<|.gy (.gtr Z Z)<|.yw (.pickF Z Z)<|.mv Z<|.e2 (λh27=>?_) (λh27=>?_)
 ·refine .gG<|.gG<|.gG<|.gG<|.yw (.pickT Z Z)<|.nt<|.cT Z<|.sr<|.az Z<|.tR<|?_
  refine y9 Z Z λW s=>⟨fP ?_,s.ext⟩
  first
   | (rw [uW,hal1,show tB f=true by simp only [tB,aF,aB];omega];simp)
   | (rw [uW,show tB f=false by simp only [tB,dH,bM];omega];rfl)
   | (rw [uW,show f.comps.all BP=false from jF hk1 (by rw [hx1];simp only [BP,dH,bM];omega)];simp)
 refine .gy (.fieldAddr Z nU)<|.gy (.load Z AZ Hm Z)<|.gy (.lenSl xM Z)<|.gy (.gtr Z Z)<|.yw (.pickF Z Z)<|.nt<|.ce Z (λh32=>?_) (λh32=>?_)
 ·refine .sr<|.az Z<|.tR<|?_
  refine y9 Z Z λW s=>⟨fP ?_,s.ext⟩
  first
   | (rw [uW,hal1,show tB f=true by simp only [tB,aF,aB];omega];simp)
   | (rw [uW,show tB f=false by simp only [tB,dH,bM];omega];rfl)
   | (rw [uW,show f.comps.all BP=false from jF hk1 (by rw [hx1];simp only [BP,dH,bM];omega)];simp)
 refine .sk<|.tN<|.sq<|.sr<|.fA Z kM<|.lD Z vL Hm Z<|.yw (.lenSl rZ Z)<|.mv Z<|.nt<|.bk<|.lp (X:=Nat) [(1,_),(34,_),(35,_)] ⟨Z,Z,Z,Jt⟩ [_] (λk1=>[(36,iN k1)]) (λk1=>H) (λk1=>[]) (λk1=>k1<=f.comps.length/\(f.comps.take k1).all BP=true) (λk1=>f.comps.length - k1) 0 (λ_ s=>s) ⟨Z,Jt⟩ ⟨by omega,Z⟩ λk1 hC=>?_
 obtain ⟨hq1,hal1⟩:=hC;refine .sr<|.yw (.lss Z Z)<|.nt<|.sq<|.ce Z (λh37=>?_) (λh37=>?_)
 ·have hk1:k1<f.comps.length:=by omega
  obtain ⟨bE1,oE1,cE1,hpE1,rE1,lE1,mE1⟩:=hs3.elem (eL hk1);cases hpE1;generalize hx1:f.comps[k1]=x1 at rE1;obtain ⟨p4,c4,p5,c5,rfl,hn4,hs4,hs5⟩:=BW rE1;have hcap5:=hs5.cap;refine .sk<|.tN<|.sq<|.bk<|.sr<|.yw (.indexSl rZ Z Z Z (by omega) (q:=oE1+k1 * 3) Z)<|.yw (.loadMW Z qD mE1 Z)<|.al tC Z λb5=>.sX .head Z Z vI Z<|.nt<|.sq<|.sr<|.fA Z kV<|.lD Z wC Hm Z<|.yw (.lenSl tS Z)<|.a Z Z<|.ns<|.fA Z kW<|.lD Z uG Hm Z<|.yw (.lenSl qX Z)<|.yw (.gtr Z Z)<|.mv Z<|.e2 (λh47=>?_) (λh47=>?_)
  ·refine .gG<|.gG<|.yw (.pickT Z Z)<|.mv Z<|.gG<|.gG<|.yw (.pickT Z Z)<|.nt<|.cT Z<|.sr<|.az Z<|.tR<|.bR<|.tR<|.tR<|.bR<|.tR<|?_
   refine y9 Z Z λW s=>⟨fP ?_,s.ext⟩
   first
    | (rw [uW,hal1,show tB f=true by simp only [tB,aF,aB];omega];simp)
    | (rw [uW,show tB f=false by simp only [tB,dH,bM];omega];rfl)
    | (rw [uW,show f.comps.all BP=false from jF hk1 (by rw [hx1];simp only [BP,dH,bM];omega)];simp)
  refine .gy (.move Z)<|.gy (.eql Z Z)<|.yw (.pickF Z Z)<|.mv Z<|.e2 (λh51=>?_) (λh51=>?_)
  ·refine .gG<|.gG<|.yw (.pickT Z Z)<|.nt<|.cT Z<|.sr<|.az Z<|.tR<|.bR<|.tR<|.tR<|.bR<|.tR<|?_
   refine y9 Z Z λW s=>⟨fP ?_,s.ext⟩
   first
    | (rw [uW,hal1,show tB f=true by simp only [tB,aF,aB];omega];simp)
    | (rw [uW,show tB f=false by simp only [tB,dH,bM];omega];rfl)
    | (rw [uW,show f.comps.all BP=false from jF hk1 (by rw [hx1];simp only [BP,dH,bM];omega)];simp)
  refine .gy (.move Z)<|.gy (.gtr Z Z)<|.yw (.pickF Z Z)<|.nt<|.ce Z (λh54=>?_) (λh54=>?_)
  ·refine .sr<|.az Z<|.tR<|.bR<|.tR<|.tR<|.bR<|.tR<|?_
   refine y9 Z Z λW s=>⟨fP ?_,s.ext⟩
   first
    | (rw [uW,hal1,show tB f=true by simp only [tB,aF,aB];omega];simp)
    | (rw [uW,show tB f=false by simp only [tB,dH,bM];omega];rfl)
    | (rw [uW,show f.comps.all BP=false from jF hk1 (by rw [hx1];simp only [BP,dH,bM];omega)];simp)
  refine .sk<|.tN<|.sr<|.mm PH Z λb55=>.aq Z<|.sq<|.sr<|.fA Z kV<|.lD Z wC dN Z<|.yw (.lenSl tS Z)<|.mv Z<|.nt<|.bk<|.lp (X:=Nat) [(1,_),(7,_),(34,_),(35,_),(36,_),(57,_),(58,_)] ⟨Z,Z,Z,Z,Z,Z,Z,Jt⟩ [_,_] (λk2=>[(59,iN k2)]) (λk2=>H) (λk2=>[(.obj b55 (mo ((x1.vers.take k2).foldl JR [])))]) (λk2=>k2<=x1.vers.length) (λk2=>x1.vers.length - k2) 0 (λ_ s=>s) ⟨Z,Jt⟩ (by omega) λk2 hC=>?_
  refine .sr<|.yw (.lss Z Z)<|.nt<|.sq<|.ce Z (λh60=>?_) (λh60=>?_)
  ·have hk2:k2<x1.vers.length:=by omega
   obtain ⟨bE2,oE2,cE2,hpE2,rE2,lE2,mE2⟩:=hs5.elem (eL hk2);cases hpE2;generalize hx2:x1.vers[k2]=x2 at rE2;obtain ⟨p6,c6,rfl,hs6⟩:=HW rE2;have hcap6:=hs6.cap;refine .sk<|.tN<|.sq<|.bk<|.sr<|.yw (.indexSl tS Z Z Z (by omega) (q:=oE2+k2 * 1) Z)<|.yw (.loadMW Z qU mE2 Z)<|.al vG Z λb9=>.sX .head Z Z zQ Z<|.ns<|.fA Z mU<|.lD Z yI Hm Z<|.yw (.lenSl vH Z)<|.mv Z<|.nt<|.bk<|.pm [1,0,2,3] [_,_,_,_] Z Z<|.lp (X:=Nat) [(1,_),(7,_),(34,_),(35,_),(36,_),(57,_),(58,_),(59,_),(64,_),(65,_)] ⟨Z,Z,Z,Z,Z,Z,Z,Z,Z,Z,Jt⟩ [_,_,_] (λk3=>[(66,iN k3)]) (λk3=>H) (λk3=>[(.obj b55 (mo ((x2.take k3).foldl aI8 ((x1.vers.take k2).foldl JR []))))]) (λk3=>k3<=x2.length) (λk3=>x2.length - k3) 0 (λ_ s=>s) ⟨Z,Jt⟩ (by omega) λk3 hC=>?_
   refine .sr<|.yw (.lss Z Z)<|.nt<|.sq<|.ce Z (λh67=>?_) (λh67=>?_)
   ·have hk3:k3<x2.length:=by omega
    obtain ⟨bE3,oE3,cE3,hpE3,rE3,lE3,mE3⟩:=hs6.elem (eL hk3);cases hpE3;generalize hx3:x2[k3]=x3 at rE3;obtain ⟨p7,c7,p8,c8,rfl,hn7,hs7,hs8⟩:=DR rE3;exact .sk<|.tN<|.sq<|.bk<|.sr<|.yw (.indexSl vH Z Z Z (by omega) (q:=oE3+k3 * 3) Z)<|.yw (.loadMW Z wB mE3 Z)<|.al zL Z λb11=>.sX .head Z Z zN Z<|.nt<|.rg<|.mv Z<|.fA Z wX<|.lD Z bZ Hm Z<|.mu fG PH Z Z Z<|.nl<|.bN<|.tN<|.rg<|.yw (.add Z Z w7)<|.mv Z<|.nt<|.ag (k3+1) ⟨Z,Jt⟩ ⟨Z,Z,Z,Z,Z,Z,Z,Z,Z,Z,Jt⟩ (λW s=>by rw [YB hk3,hx3];exact (s.pick [1,2,3,4] _ Z Z)) (by omega) (by omega)
   obtain rfl:k3=x2.length:=by omega
   rw [aI];exact .ex<|.tE<|.tE<|.bE<|.bN<|.tN<|.rg<|.yw (.add Z Z w7)<|.mv Z<|.nt<|.ag (k2+1) ⟨Z,Jt⟩ ⟨Z,Z,Z,Z,Z,Z,Z,Jt⟩ (λW s=>by rw [show (x1.vers.take (k2+1)).foldl JR []=x2.foldl aI8 ((x1.vers.take k2).foldl JR []) by rw [YB hk2,hx2];rfl];exact (s.pick [0,2,3] _ Z Z)) (by omega) (by omega)
  obtain rfl:k2=x1.vers.length:=by omega
  rw [aI];have hnm1:(x1.vers.foldl JR []).length=(RO x1).length:=rfl;refine .ex<|.eb<|.sm Z<|.yw (.lenM PH Hm Z)<|.yw (.gtr Z Z)<|.nt<|.ce Z (λh77=>?_) (λh77=>?_)
  ·refine .sr<|.az Z<|.bR<|.tR<|.tR<|.bR<|.tR<|?_
   refine y9 Z Z λW s=>⟨fP ?_,s.ext⟩
   first
    | (rw [uW,hal1,show tB f=true by simp only [tB,aF,aB];omega];simp)
    | (rw [uW,show tB f=false by simp only [tB,dH,bM];omega];rfl)
    | (rw [uW,show f.comps.all BP=false from jF hk1 (by rw [hx1];simp only [BP,dH,bM];omega)];simp)
  exact .sk<|.bN<|.tN<|.rg<|.yw (.add Z Z w7)<|.mv Z<|.nt<|.ag (k1+1) ⟨Z,Jt⟩ ⟨Z,Z,Z,Jt⟩ (λ_ s=>s.pick [2] [_] Z Z) ⟨by omega,by rw [kI hk1,hal1,hx1];simp only [BP,gM,aF,aB];omega⟩ (by omega)
 obtain rfl:k1=f.comps.length:=by omega
 rw [aI] at hal1;refine .ex<|.eb<|.sr<|.yw (.loadW Z lJ Hm Z)<|.yw (.call LV Z (λW s=>zI 102 DH NX H G f _ h hok W s.agr))<|.az Z<|?_
 refine y9 Z Z λW s=>⟨fP ?_,s.ext⟩
 first
  | (rw [uW,hal1,show tB f=true by simp only [tB,aF,aB];omega];simp)
  | (rw [uW,show tB f=false by simp only [tB,dH,bM];omega];rfl)
  | (rw [uW,show f.comps.all BP=false from jF hk1 (by rw [hx1];simp only [BP,dH,bM];omega)];simp)
theorem OT (H:Hp) (G:Gl H) (f:Ft) (cs:List Value) (h:Rep H (dFt .u8 f) cs) (hok:evH okH f=true) (w:World) (hA:Agr H w) :
 Calls prg 35 #[.agg cs.toArray] w λr w'=>r=.returned (iN (kA f))/\Ext w w':=by
 obtain ⟨p1,c1,p2,c2,p3,c3,rfl,hnm,hs1,hs2,hs3⟩:=AC h;have hcap1:=hs1.cap;have hcap2:=hs2.cap;have hcap3:=hs3.cap;refine Sx.enter (H:=H) func35 rfl ntmps35 rfl hA ?_;refine .sr<|.bx Z Z Z λb1=>.aq Z<|.sq<|.bk<|.sr<|.yw (.loadW Z lJ Hm Z)<|.yw (.call bS2 Z (λW s=>bK7 H G f _ h hok W s.agr))<|.yw (.not Z)<|.aq Z<|.cd Z (λh3=>?_) (λh3=>?_)
 ·refine .sr<|.az Z<|.bR<|.tR<|?_
  refine y9 Z Z λW s=>⟨?_,s.ext⟩
  first
   | (rw [kA,aE (by simpa using h3)];rfl)
   | (rw [kA,aA (by simpa using h3),aE (by simpa using h7)];rfl)
   | (rw [kA,aA (by simpa using h3),aA (by simpa using h7),aE (by simpa using h11)];rfl)
   | (rw [kA,aA (by simpa using h3),aA (by simpa using h7),aA (by simpa using h11)];rfl)
 refine .sr<|.yw (.loadW Z lJ Hm Z)<|.yw (.call bS1 Z (λW s=>bM9 H G f _ h hok W s.agr))<|.yw (.not Z)<|.aq Z<|.cd Z (λh7=>?_) (λh7=>?_)
 ·refine .sr<|.az Z<|.bR<|.tR<|?_
  refine y9 Z Z λW s=>⟨?_,s.ext⟩
  first
   | (rw [kA,aE (by simpa using h3)];rfl)
   | (rw [kA,aA (by simpa using h3),aE (by simpa using h7)];rfl)
   | (rw [kA,aA (by simpa using h3),aA (by simpa using h7),aE (by simpa using h11)];rfl)
   | (rw [kA,aA (by simpa using h3),aA (by simpa using h7),aA (by simpa using h11)];rfl)
 refine .sr<|.yw (.loadW Z lJ Hm Z)<|.yw (.call bS0 Z (λW s=>aW5 H G f _ h hok W s.agr))<|.yw (.not Z)<|.aq Z<|.cd Z (λh11=>?_) (λh11=>?_)
 ·refine .sr<|.az Z<|.bR<|.tR<|?_
  refine y9 Z Z λW s=>⟨?_,s.ext⟩
  first
   | (rw [kA,aE (by simpa using h3)];rfl)
   | (rw [kA,aA (by simpa using h3),aE (by simpa using h7)];rfl)
   | (rw [kA,aA (by simpa using h3),aA (by simpa using h7),aE (by simpa using h11)];rfl)
   | (rw [kA,aA (by simpa using h3),aA (by simpa using h7),aA (by simpa using h11)];rfl)
 refine .sk<|.bN<|.tN<|.sr<|.az Z<|?_
 refine y9 Z Z λW s=>⟨?_,s.ext⟩
 first
  | (rw [kA,aE (by simpa using h3)];rfl)
  | (rw [kA,aA (by simpa using h3),aE (by simpa using h7)];rfl)
  | (rw [kA,aA (by simpa using h3),aA (by simpa using h7),aE (by simpa using h11)];rfl)
  | (rw [kA,aA (by simpa using h3),aA (by simpa using h7),aA (by simpa using h11)];rfl)
end Go.Proofs.YthhoebdlfjffkaaGreatDoor
namespace Go.Proofs
open Go.Shelf
def Tryz.lays156_ren:Go.Shelf.Ren:=⟨λ| 156=>128 | 165=>155 | 166=>83 | 169=>47 | 240=>126 | 241=>169 | 276=>150 | 277=>180 | n=>n,λ| 31=>52 | 9=>9 | 3=>3 | 4=>4 | 0=>0 | 20=>20 | 72=>115 | 76=>189 | 70=>113 | 37=>40 | 75=>188 | 127=>194 | 164=>247 | 5=>5 | 80=>122 | n=>n,λ| n=>n⟩
theorem Tryz.lays156:Go.Proofs.Lays.n156 prg Tryz.lays156_ren:={
 mixed:=by kernel_rfl
 f156:=Tryz.func128.trans (congrArg some (by kernel_rfl))
 f165:=Tryz.func155.trans (congrArg some (by kernel_rfl))
 f166:=Tryz.func83.trans (congrArg some (by kernel_rfl))
 f169:=Tryz.func47.trans (congrArg some (by kernel_rfl))
 f240:=Tryz.func126.trans (congrArg some (by kernel_rfl))
 f241:=Tryz.func169.trans (congrArg some (by kernel_rfl))
 f276:=Tryz.func150.trans (congrArg some (by kernel_rfl))
 f277:=Tryz.func180.trans (congrArg some (by kernel_rfl))
 t0:=Tryz.underlying0
 a0:=Tryz.isAgg0
 z0:=Tryz.sizeOf0
 v0:=Tryz.zeroValue0
 t3:=Tryz.underlying3
 a3:=Tryz.isAgg3
 z3:=Tryz.sizeOf3
 v3:=Tryz.zeroValue3
 t4:=Tryz.underlying4
 a4:=Tryz.isAgg4
 z4:=Tryz.sizeOf4
 v4:=Tryz.zeroValue4
 t9:=Tryz.underlying9
 a9:=Tryz.isAgg9
 z9:=Tryz.sizeOf9
 v9:=Tryz.zeroValue9
 t20:=Tryz.underlying20
 a20:=Tryz.isAgg20
 z20:=Tryz.sizeOf20
 v20:=Tryz.zeroValue20
 t31:=Tryz.underlying52
 a31:=Tryz.isAgg52
 z31:=Tryz.sizeOf52
 v31:=Tryz.zeroValue52
 t37:=Tryz.underlying40
 a37:=Tryz.isAgg40
 z37:=Tryz.sizeOf40
 v37:=Tryz.zeroValue40
 t70:=Tryz.underlying113
 a70:=Tryz.isAgg113
 z70:=Tryz.sizeOf113
 v70:=Tryz.zeroValue113
 t72:=Tryz.underlying115
 a72:=Tryz.isAgg115
 z72:=Tryz.sizeOf115
 v72:=Tryz.zeroValue115
 t75:=Tryz.underlying188
 a75:=Tryz.isAgg188
 z75:=Tryz.sizeOf188
 v75:=Tryz.zeroValue188
 t76:=Tryz.underlying189
 a76:=Tryz.isAgg189
 z76:=Tryz.sizeOf189
 v76:=Tryz.zeroValue189
 t127:=Tryz.underlying194
 a127:=Tryz.isAgg194
 z127:=Tryz.sizeOf194
 v127:=Tryz.zeroValue194
 t164:=Tryz.underlying247
 a164:=Tryz.isAgg247
 z164:=Tryz.sizeOf247
 v164:=Tryz.zeroValue247 }
theorem Tryz.Builder_Extra_156:Builder.Extra prg Tryz.lays156_ren:={
 sizeBuilder:=by kernel_rfl
 liesBuilder:=by kernel_rfl
 t5:=Tryz.underlying5
 a5:=Tryz.isAgg5
 z5:=Tryz.sizeOf5
 v5:=Tryz.zeroValue5
 infoByte:=by kernel_rfl
 cellsByte:=by kernel_rfl
 sizeByte:=by kernel_rfl
 neB5:=by decide }
open Go.RowKit in
theorem Tryz.strings_Join_none (a:Option Addr) (c:Nat) (sep:ByteArray) (w:World) :
 Calls prg 128 #[.slice a 0 c,.string sep] w λe w'=>e=.returned (.string ⟨#[]⟩)/\w'=w:=Any.strings_Join_none Tryz.lays156 Tryz.Builder_Extra_156 a c sep w
open Go.RowKit in
theorem Tryz.strings_Join (bk o c:Nat) (xs:List ByteArray) (sep:ByteArray) (w:World) (hcells:∀ (j:Nat) x,xs[j]? = some x->w.cell? ⟨bk,o+j,none⟩=some (.string x)) (hbk:bk<w.heap.size) (hN:xs.length<=140737488355328) (hcap:xs.length<=c) (hlen:(Lib.join (xs.map (·.data.toList)) sep.data.toList).length<=140737488355328) :
 Calls prg 128 #[.slice (some ⟨bk,o,none⟩) xs.length c,.string sep] w λe w'=>e=.returned (.string ⟨(Lib.join (xs.map (·.data.toList)) sep.data.toList).toArray⟩)/\Below w.heap.size w w':=Any.strings_Join Tryz.lays156 Tryz.Builder_Extra_156 bk o c xs sep w hcells hbk hN hcap hlen
def Tryz.lays121_ren:Go.Shelf.Ren:=⟨λ| 121=>44 | 214=>85 | n=>n,λ| 4=>4 | 9=>9 | n=>n,λ| n=>n⟩
theorem Tryz.lays121:Go.Proofs.Lays.n121 prg Tryz.lays121_ren:={
 mixed:=by kernel_rfl
 f121:=Tryz.func44.trans (congrArg some (by kernel_rfl))
 f214:=Tryz.func85.trans (congrArg some (by kernel_rfl))
 t4:=Tryz.underlying4
 a4:=Tryz.isAgg4
 z4:=Tryz.sizeOf4
 v4:=Tryz.zeroValue4
 t9:=Tryz.underlying9
 a9:=Tryz.isAgg9
 z9:=Tryz.sizeOf9
 v9:=Tryz.zeroValue9 }
open Go.RowKit in
theorem Tryz.strconv_FormatBool (b:Bool) (w:World) :
 Calls prg 44 #[.bool b] w λe w'=>e=.returned (.string ⟨(Lib.formatBool b).toArray⟩)/\w'=w:=Any.strconv_FormatBool Tryz.lays121 b w
def Tryz.laysM171_ren:Go.Shelf.Ren:=⟨λ| 171=>45 | 243=>86 | 246=>127 | 283=>151 | 284=>152 | 285=>153 | 286=>154 | 129=>165 | 317=>164 | 318=>166 | 319=>167 | 320=>168 | 337=>178 | 338=>179 | n=>n,λ| 3=>3 | 9=>9 | 2=>2 | 4=>4 | 171=>249 | 0=>0 | 53=>250 | 37=>40 | 5=>5 | 173=>253 | 212=>261 | 51=>262 | 20=>20 | 213=>263 | 46=>265 | 232=>275 | 233=>276 | n=>n,λ| 17=>4 | 18=>5 | 19=>6 | n=>n⟩
theorem Tryz.laysM171:Go.Proofs.LaysM.n171 prg Tryz.laysM171_ren:={
 mixed:=by kernel_rfl
 f129:=Tryz.func165.trans (congrArg some (by kernel_rfl))
 f171:=Tryz.func45.trans (congrArg some (by kernel_rfl))
 f243:=Tryz.func86.trans (congrArg some (by kernel_rfl))
 f246:=Tryz.func127.trans (congrArg some (by kernel_rfl))
 f283:=Tryz.func151.trans (congrArg some (by kernel_rfl))
 f284:=Tryz.func152.trans (congrArg some (by kernel_rfl))
 f285:=Tryz.func153.trans (congrArg some (by kernel_rfl))
 f286:=Tryz.func154.trans (congrArg some (by kernel_rfl))
 f317:=Tryz.func164.trans (congrArg some (by kernel_rfl))
 f318:=Tryz.func166.trans (congrArg some (by kernel_rfl))
 f319:=Tryz.func167.trans (congrArg some (by kernel_rfl))
 f320:=Tryz.func168.trans (congrArg some (by kernel_rfl))
 f337:=Tryz.func178.trans (congrArg some (by kernel_rfl))
 f338:=Tryz.func179.trans (congrArg some (by kernel_rfl))
 t0:=Tryz.underlying0
 a0:=Tryz.isAgg0
 z0:=Tryz.sizeOf0
 v0:=Tryz.zeroValue0
 t2:=Tryz.underlying2
 a2:=Tryz.isAgg2
 z2:=Tryz.sizeOf2
 v2:=Tryz.zeroValue2
 t3:=Tryz.underlying3
 a3:=Tryz.isAgg3
 z3:=Tryz.sizeOf3
 v3:=Tryz.zeroValue3
 t4:=Tryz.underlying4
 a4:=Tryz.isAgg4
 z4:=Tryz.sizeOf4
 v4:=Tryz.zeroValue4
 t5:=Tryz.underlying5
 a5:=Tryz.isAgg5
 z5:=Tryz.sizeOf5
 v5:=Tryz.zeroValue5
 t9:=Tryz.underlying9
 a9:=Tryz.isAgg9
 z9:=Tryz.sizeOf9
 v9:=Tryz.zeroValue9
 t20:=Tryz.underlying20
 a20:=Tryz.isAgg20
 z20:=Tryz.sizeOf20
 v20:=Tryz.zeroValue20
 t37:=Tryz.underlying40
 a37:=Tryz.isAgg40
 z37:=Tryz.sizeOf40
 v37:=Tryz.zeroValue40
 t46:=Tryz.underlying265
 a46:=Tryz.isAgg265
 z46:=Tryz.sizeOf265
 v46:=Tryz.zeroValue265
 t51:=Tryz.underlying262
 a51:=Tryz.isAgg262
 z51:=Tryz.sizeOf262
 v51:=Tryz.zeroValue262
 t53:=Tryz.underlying250
 a53:=Tryz.isAgg250
 z53:=Tryz.sizeOf250
 v53:=Tryz.zeroValue250
 t171:=Tryz.underlying249
 a171:=Tryz.isAgg249
 z171:=Tryz.sizeOf249
 v171:=Tryz.zeroValue249
 t173:=Tryz.underlying253
 a173:=Tryz.isAgg253
 z173:=Tryz.sizeOf253
 v173:=Tryz.zeroValue253
 t212:=Tryz.underlying261
 a212:=Tryz.isAgg261
 z212:=Tryz.sizeOf261
 v212:=Tryz.zeroValue261
 t213:=Tryz.underlying263
 a213:=Tryz.isAgg263
 z213:=Tryz.sizeOf263
 t232:=Tryz.underlying275
 a232:=Tryz.isAgg275
 z232:=Tryz.sizeOf275
 v232:=Tryz.zeroValue275
 t233:=Tryz.underlying276
 a233:=Tryz.isAgg276
 z233:=Tryz.sizeOf276
 v233:=Tryz.zeroValue276
 g17:=by kernel_rfl
 g18:=by kernel_rfl
 g19:=by kernel_rfl
 i0:=by kernel_rfl
 i2:=by kernel_rfl
 i3:=by kernel_rfl
 i4:=by kernel_rfl
 i5:=by kernel_rfl
 i9:=by kernel_rfl
 i20:=by kernel_rfl
 i37:=by kernel_rfl
 i46:=by kernel_rfl
 i51:=by kernel_rfl
 i53:=by kernel_rfl
 i171:=by kernel_rfl
 i173:=by kernel_rfl
 i212:=by kernel_rfl
 i232:=by kernel_rfl
 i233:=by kernel_rfl
 m17:=by kernel_rfl
 m18:=by kernel_rfl
 m19:=by kernel_rfl }
open Go.RowKit Go.Sort Go.Lib in
theorem Tryz.strconv_Itoa (n:Int) (h0:-9223372036854775808<=n) (h1:n<=9223372036854775807) (w:World) (htab:Lib.TabIs prg w "internal/strconv.uint64pow10" .u64 Lib.pow10Tab) :
 Calls prg 45 #[.int .i64 n] w λe w'=>e=.returned (.string ⟨(Lib.itoa n).toArray⟩)/\∃ k os,w'=grow (w.drewN k) os:=Any.strconv_Itoa Tryz.laysM171 n h0 h1 w htab
def Tryz.laysM173_ren:Go.Shelf.Ren:=⟨λ| 173=>87 | 246=>127 | 283=>151 | 284=>152 | 285=>153 | 286=>154 | 129=>165 | 317=>164 | 318=>166 | 319=>167 | 320=>168 | 337=>178 | 338=>179 | n=>n,λ| 2=>2 | 3=>3 | 9=>9 | 4=>4 | 171=>249 | 0=>0 | 53=>250 | 37=>40 | 5=>5 | 173=>253 | 212=>261 | 51=>262 | 20=>20 | 213=>263 | 46=>265 | 232=>275 | 233=>276 | n=>n,λ| 17=>4 | 18=>5 | 19=>6 | n=>n⟩
theorem Tryz.laysM173:Go.Proofs.LaysM.n173 prg Tryz.laysM173_ren:={
 mixed:=by kernel_rfl
 f129:=Tryz.func165.trans (congrArg some (by kernel_rfl))
 f173:=Tryz.func87.trans (congrArg some (by kernel_rfl))
 f246:=Tryz.func127.trans (congrArg some (by kernel_rfl))
 f283:=Tryz.func151.trans (congrArg some (by kernel_rfl))
 f284:=Tryz.func152.trans (congrArg some (by kernel_rfl))
 f285:=Tryz.func153.trans (congrArg some (by kernel_rfl))
 f286:=Tryz.func154.trans (congrArg some (by kernel_rfl))
 f317:=Tryz.func164.trans (congrArg some (by kernel_rfl))
 f318:=Tryz.func166.trans (congrArg some (by kernel_rfl))
 f319:=Tryz.func167.trans (congrArg some (by kernel_rfl))
 f320:=Tryz.func168.trans (congrArg some (by kernel_rfl))
 f337:=Tryz.func178.trans (congrArg some (by kernel_rfl))
 f338:=Tryz.func179.trans (congrArg some (by kernel_rfl))
 t0:=Tryz.underlying0
 a0:=Tryz.isAgg0
 z0:=Tryz.sizeOf0
 v0:=Tryz.zeroValue0
 t2:=Tryz.underlying2
 a2:=Tryz.isAgg2
 z2:=Tryz.sizeOf2
 v2:=Tryz.zeroValue2
 t3:=Tryz.underlying3
 a3:=Tryz.isAgg3
 z3:=Tryz.sizeOf3
 v3:=Tryz.zeroValue3
 t4:=Tryz.underlying4
 a4:=Tryz.isAgg4
 z4:=Tryz.sizeOf4
 v4:=Tryz.zeroValue4
 t5:=Tryz.underlying5
 a5:=Tryz.isAgg5
 z5:=Tryz.sizeOf5
 v5:=Tryz.zeroValue5
 t9:=Tryz.underlying9
 a9:=Tryz.isAgg9
 z9:=Tryz.sizeOf9
 v9:=Tryz.zeroValue9
 t20:=Tryz.underlying20
 a20:=Tryz.isAgg20
 z20:=Tryz.sizeOf20
 v20:=Tryz.zeroValue20
 t37:=Tryz.underlying40
 a37:=Tryz.isAgg40
 z37:=Tryz.sizeOf40
 v37:=Tryz.zeroValue40
 t46:=Tryz.underlying265
 a46:=Tryz.isAgg265
 z46:=Tryz.sizeOf265
 v46:=Tryz.zeroValue265
 t51:=Tryz.underlying262
 a51:=Tryz.isAgg262
 z51:=Tryz.sizeOf262
 v51:=Tryz.zeroValue262
 t53:=Tryz.underlying250
 a53:=Tryz.isAgg250
 z53:=Tryz.sizeOf250
 v53:=Tryz.zeroValue250
 t171:=Tryz.underlying249
 a171:=Tryz.isAgg249
 z171:=Tryz.sizeOf249
 v171:=Tryz.zeroValue249
 t173:=Tryz.underlying253
 a173:=Tryz.isAgg253
 z173:=Tryz.sizeOf253
 v173:=Tryz.zeroValue253
 t212:=Tryz.underlying261
 a212:=Tryz.isAgg261
 z212:=Tryz.sizeOf261
 v212:=Tryz.zeroValue261
 t213:=Tryz.underlying263
 a213:=Tryz.isAgg263
 z213:=Tryz.sizeOf263
 t232:=Tryz.underlying275
 a232:=Tryz.isAgg275
 z232:=Tryz.sizeOf275
 v232:=Tryz.zeroValue275
 t233:=Tryz.underlying276
 a233:=Tryz.isAgg276
 z233:=Tryz.sizeOf276
 v233:=Tryz.zeroValue276
 g17:=by kernel_rfl
 g18:=by kernel_rfl
 g19:=by kernel_rfl
 i0:=by kernel_rfl
 i2:=by kernel_rfl
 i3:=by kernel_rfl
 i4:=by kernel_rfl
 i5:=by kernel_rfl
 i9:=by kernel_rfl
 i20:=by kernel_rfl
 i37:=by kernel_rfl
 i46:=by kernel_rfl
 i51:=by kernel_rfl
 i53:=by kernel_rfl
 i171:=by kernel_rfl
 i173:=by kernel_rfl
 i212:=by kernel_rfl
 i232:=by kernel_rfl
 i233:=by kernel_rfl
 m17:=by kernel_rfl
 m18:=by kernel_rfl
 m19:=by kernel_rfl }
open Go.RowKit Go.Sort Go.Lib in
theorem Tryz.strconv_FormatInt_10 (n:Int) (h0:-9223372036854775808<=n) (h1:n<=9223372036854775807) (w:World) (htab:Lib.TabIs prg w "internal/strconv.uint64pow10" .u64 Lib.pow10Tab) :
 Calls prg 87 #[.int .i64 n,.int .i64 10] w λe w'=>e=.returned (.string ⟨(Lib.itoa n).toArray⟩)/\∃ k os,w'=grow (w.drewN k) os:=Any.strconv_FormatInt_10 Tryz.laysM173 n h0 h1 w htab
end Go.Proofs
namespace Go.Proofs.YthhoebdlfjffkaaGreatDoor
open Go.RowKit Go.Par Go.Sx Tryz
theorem ZJ:cU prg 87=true:=by kernel_rfl
theorem GG:cU prg 170=true:=by kernel_rfl
theorem LM:cU prg 181=true:=by kernel_rfl
theorem AL:dL prg 137 2=some 2:=by kernel_rfl
theorem xB:dL prg 137 3=some 3:=by kernel_rfl
def Gt (H:Hp):Prop:=∀ W,Agr H W->Lib.TabIs prg W "internal/strconv.uint64pow10" .u64 Lib.pow10Tab
variable {H H':Hp}
theorem Gt.up (g:Gt H) (u:Up H H'):Gt H':=λW a=>g W λb o e=>a b o (u b o e)
theorem aO7 {w:World} (os:Array Obj):Ext w (Sort.grow w os) :=
 Ext.of_below ⟨Z,Z,Z,by simp [Sort.grow],λk hk=>by simp [Sort.grow,Array.getElem?_append,hk]⟩
theorem JV (H:Hp) (g:Gt H) (n:Int64) (w:World) (hA:Agr H w):Calls prg 87 #[.int .i64 n.toInt,.int .i64 10] w λr w'=>r=.returned (cJ (Lib.itoa n.toInt))/\Ext w w' :=
 (Tryz.strconv_FormatInt_10 n.toInt (by have:=n.le_toInt;omega) (by have:=n.toInt_lt;omega) w (g w hA)).mono λ_ _ ⟨he,k,os,hw⟩=>⟨he,hw ▸ ((Ext.refl w).drewN k).trans (aO7 os)⟩
def cH7 (H:Hp) (e:Ex):Prop:=∀ (cs:List Value) (w:World),Rep H (dEx .u8 e) cs->Ex.all lP e=true->e.text.length<=1000000000->Agr H w ->
 Calls prg 170 #[.agg cs.toArray] w λr w'=>r=.returned (cJ e.text)/\Ext w w'
theorem GZ (H:Hp) (G:Gl H) (e:Ex) (ht:cH7 H e) (cs:List Value) (h:Rep H (dEx .u8 e) cs) (hf:Ex.all lP e=true) (hl:e.text.length<=1000000000) (k:Nat) (w:World) (hA:Agr H w) :
 Calls prg 181 #[.agg cs.toArray,iN k] w λr w'=>r=.returned (cJ (opT k ((cW e.op).lv,e.text)))/\Ext w w':=by
 obtain ⟨op,nm,nn,args⟩:=e;obtain ⟨p,c,rfl,hs,hnm⟩:=iR h;refine Sx.enter (H:=H) func181 rfl ntmps181 rfl hA ?_;refine .sr<|.bx Z Z Z λb2=>.aq Z<|.sq<|.sr<|.fA Z kZ<|.lD Z rH Hm Z<|.yw (.call JG Z (λW s=>IG H G op W s.agr))<|.mv Z<|.yw (.extract Z Z)<|.yw (.extract Z Z)<|.al CT Z λb5=>.sV .head Z Z xY Z (by simp [zD,Value.oneCell',cJ]) Z<|.a Z Z<|.ns<|.fA Z AL<|.lD Z dZ Hm Z<|.mv Z<|.yw (.lss Z Z)<|.nt<|.ce Z (λh16=>?_) (λh16=>?_)
 ·refine .sr<|.yw (.loadW Z fI dN Z)<|.yw (.call GG Z (λW s=>ht _ W h hf hl s.agr))<|.yw (.app Z Z (by simp;omega))<|.yw (.app Z Z (by simp;omega))<|.az Z<|.tR<|?_
  refine y9 Z Z λW s=>⟨?_,s.ext⟩
  first
   | (rw [opT,aE (by show (cW op).lv<k;omega)] <;> rfl)
   | (rw [opT,aA (by show ¬ (cW op).lv<k;omega)] <;> rfl)
 refine .sk<|.tN<|.sr<|.yw (.loadW Z fI dN Z)<|.yw (.call GG Z (λW s=>ht _ W h hf hl s.agr))<|.az Z<|?_
 refine y9 Z Z λW s=>⟨?_,s.ext⟩
 first
  | (rw [opT,aE (by show (cW op).lv<k;omega)] <;> rfl)
  | (rw [opT,aA (by show ¬ (cW op).lv<k;omega)] <;> rfl)
variable {k:Nat}
theorem EY {q:Ex->Bool} {l:List Ex} (h:k<l.length) (ha:Ex.alls q l=true):Ex.all q l[k]=true:=by
 cases hb:Ex.all q l[k] with
 | true=>rfl
 | false=>rw [FE h hb] at ha;cases ha
theorem bX5 (H:Hp) (G:Gl H) (g:Gt H) (e:Ex):cH7 H e:=by
 induction e using Ex.ind with | _ op nm nn args ih
 intro cs w h hf hl hA;obtain ⟨p,c,rfl,hs,hnm⟩:=iR h;rw [nK,aF] at hf;obtain ⟨hf1,hf2⟩:=hf;simp only [lP,aF,aB] at hf1;obtain ⟨⟨⟨hok,har⟩,_⟩,_⟩:=hf1;refine Sx.enter (H:=H) func170 rfl ntmps170 rfl hA ?_;refine .sr<|.bx Z Z Z λb1=>.a Z Z<|.ns<|.fA Z kZ<|.lD Z rH Hm Z<|.yw (.call JG Z (λW s=>IG H G op W s.agr))<|.mv Z<|.yw (.extract Z Z)<|.yw (.extract Z Z)<|.al CT Z λb3=>.sV .head Z Z xY Z (by simp [zD,Value.oneCell',cJ]) Z<|.aq Z<|.sq<|.sr<|.fA Z kZ<|.lD Z rH dN Z<|.nt<|.bk<|.sr<|.yw (.eql Z Z)<|.aq Z<|.ce Z (λh14=>?_) (λh14=>?_)
 ·have e1:op=1:=bT.1 (by show op.toNat=1;omega);refine .sr<|.fA Z mZ<|.lD Z nX dN Z<|.yw (.call ZJ Z (λW s=>JV H g nn W s.agr))<|.az Z<|.bR<|.tR<|?_
  refine y9 Z Z λW s=>⟨?_,s.ext⟩
  first
   | (rw [gN,txt,aE e1] <;> rfl)
   | (rw [gN,txt,aA e1,aE q2] <;> rfl)
   | (rw [gN,txt,aA e1,aA q2,aE q3,jM h0] <;> rfl)
   | (rw [gN,txt,aA e1,aA q2,aA q3,aE q4,jM h0] <;> rfl)
   | (rw [gN,txt,aA e1,aA q2,aA q3,aA q4,aE q5] <;> rfl)
   | (rw [gN,txt,aA e1,aA q2,aA (nP.2 q3),aA (nP.2 q4),aA q5,jM h0,jM h1] <;> rfl)
 have e1:¬ op=1:=λe=>h14 (by rw [e];rfl);refine .cu (X:=Bool) [(1,_),(3,_),(13,_)] ⟨Z,Z,Z,Jt⟩ (λz=>[(19,.bool z)]) (λz=>H) (λz=>[.box b3 (zD (cW op)) 137,.box b1 [.int .u8 op.toNat,cJ nm,.int .i64 nn.toInt,.slice p args.length c] 27]) (λz=>z=decide (op=5\/op=8)) ?_ λz hC=>?_
 ·
  refine .sr<|.yw (.eql Z Z)<|.aq Z<|.cd Z (λh19=>?_) (λh19=>?_)
  ·exact .sk<|.tN<|.me _ ⟨Z,Jt⟩ ⟨Z,Z,Z,Jt⟩ (λ_ s=>s) (by rw [bD];simp only [aB,<-bT,show (UInt8.toNat 5)=5 from Z,show (UInt8.toNat 8)=8 from Z];(try simp only [aB,bM] at *);omega)
  exact .rg<|.yw (.eql Z Z)<|.aq Z<|.me _ ⟨Z,Jt⟩ ⟨Z,Z,Z,Jt⟩ (λ_ s=>s) (by rw [bD];simp only [aB,<-bT,show (UInt8.toNat 5)=5 from Z,show (UInt8.toNat 8)=8 from Z];(try simp only [aB,bM] at *);omega)
 have e2:=hC;refine .cd Z (λh19=>?_) (λh19=>?_)
 ·have q2:op=5\/op=8:=by rw [h19] at e2;simpa using e2.symm
  have ht:=EP op;refine .sr<|.fA Z xB<|.lD Z bZ Hm Z<|.fA Z tG<|.lD Z bZ dN Z<|.yw (.app Z Z (by (try simp only [aD,aH,aS]);omega))<|.az Z<|.bR<|.tR<|?_
  refine y9 Z Z λW s=>⟨?_,s.ext⟩
  first
   | (rw [gN,txt,aE e1] <;> rfl)
   | (rw [gN,txt,aA e1,aE q2] <;> rfl)
   | (rw [gN,txt,aA e1,aA q2,aE q3,jM h0] <;> rfl)
   | (rw [gN,txt,aA e1,aA q2,aA q3,aE q4,jM h0] <;> rfl)
   | (rw [gN,txt,aA e1,aA q2,aA q3,aA q4,aE q5] <;> rfl)
   | (rw [gN,txt,aA e1,aA q2,aA (nP.2 q3),aA (nP.2 q4),aA q5,jM h0,jM h1] <;> rfl)
 have q2:¬ (op=5\/op=8):=by rw [h19] at e2;simpa using e2.symm
 refine .cu (X:=Bool) [(1,_),(3,_),(13,_)] ⟨Z,Z,Z,Jt⟩ (λz=>[(27,.bool z)]) (λz=>H) (λz=>[.box b3 (zD (cW op)) 137,.box b1 [.int .u8 op.toNat,cJ nm,.int .i64 nn.toInt,.slice p args.length c] 27]) (λz=>z=decide (op=6\/op=7)) ?_ λz hC=>?_
 ·
  refine .sr<|.yw (.eql Z Z)<|.aq Z<|.cd Z (λh27=>?_) (λh27=>?_)
  ·exact .sk<|.tN<|.me _ ⟨Z,Jt⟩ ⟨Z,Z,Z,Jt⟩ (λ_ s=>s) (by rw [bD];simp only [aB,<-bT,show (UInt8.toNat 6)=6 from Z,show (UInt8.toNat 7)=7 from Z];(try simp only [aB,bM] at *);omega)
  exact .rg<|.yw (.eql Z Z)<|.aq Z<|.me _ ⟨Z,Jt⟩ ⟨Z,Z,Z,Jt⟩ (λ_ s=>s) (by rw [bD];simp only [aB,<-bT,show (UInt8.toNat 6)=6 from Z,show (UInt8.toNat 7)=7 from Z];(try simp only [aB,bM] at *);omega)
 have e3:=hC;refine .cd Z (λh27=>?_) (λh27=>?_)
 ·have q3:op=6\/op=7:=by rw [h27] at e3;simpa using e3.symm
  have ht:=EP op;have hn1:(cW op).n=1:=by rcases q3 with rfl | rfl <;> decide
  have h0:0<args.length:=by omega
  obtain ⟨b0,o0,c0,hp0,r0,l0,m0⟩:=hs.elem (eL h0);cases hp0;have hf0:=EY h0 hf2;rw [gN,txt,aA e1,aA q2,aE q3,jM h0] at hl;simp only [aD,aH,aS] at hl;refine .sq<|.fL 13 [(0,0),(1,0),(2,0),(3,0),(4,0),(5,0),(6,0),(7,0),(8,0),(9,0),(10,0),(11,0),(12,0)]<|.fA Z xB<|.lD Z bZ Hm Z<|.fA Z tG<|.lD Z bZ dN Z<|.yw (.app Z Z (by (try simp only [aD,aH,aS]);omega))<|.yw (.app Z Z (by (try simp only [aD,aH,aS]);omega))<|.fA Z jQ<|.lD Z fR dN Z<|.yw (.indexSl dW Z Z (i:=0) Z (by omega) (q:=o0+0 * 4) Z)<|.yw (.loadMW Z fI m0 l0)<|.yw (.call GG Z (λW s=>ih _ (cD h0) _ W r0 hf0 (by omega) s.agr))<|.yw (.app Z Z (by (try simp only [aD,aH,aS]);omega))<|.yw (.app Z Z (by (try simp only [aD,aH,aS]);omega))<|.fn (tl:=[_]) Z<|.az Z<|.bR<|.tR<|?_
  refine y9 Z Z λW s=>⟨?_,s.ext⟩
  first
   | (rw [gN,txt,aE e1] <;> rfl)
   | (rw [gN,txt,aA e1,aE q2] <;> rfl)
   | (rw [gN,txt,aA e1,aA q2,aE q3,jM h0] <;> rfl)
   | (rw [gN,txt,aA e1,aA q2,aA q3,aE q4,jM h0] <;> rfl)
   | (rw [gN,txt,aA e1,aA q2,aA q3,aA q4,aE q5] <;> rfl)
   | (rw [gN,txt,aA e1,aA q2,aA (nP.2 q3),aA (nP.2 q4),aA q5,jM h0,jM h1] <;> rfl)
 have q3:¬ (op=6\/op=7):=by rw [h27] at e3;simpa using e3.symm
 refine .cu (X:=Bool) [(1,_),(3,_)] ⟨Z,Z,Jt⟩ (λz=>[(43,.bool z)]) (λz=>H) (λz=>[.box b3 (zD (cW op)) 137,.box b1 [.int .u8 op.toNat,cJ nm,.int .i64 nn.toInt,.slice p args.length c] 27]) (λz=>z=decide (op=9\/op=10)) ?_ λz hC=>?_
 ·
  refine .sr<|.yw (.eql Z Z)<|.aq Z<|.cd Z (λh43=>?_) (λh43=>?_)
  ·exact .sk<|.tN<|.me _ ⟨Z,Jt⟩ ⟨Z,Z,Jt⟩ (λ_ s=>s) (by rw [bD];simp only [aB,<-bT,show (UInt8.toNat 9)=9 from Z,show (UInt8.toNat 10)=10 from Z];(try simp only [aB,bM] at *);omega)
  exact .rg<|.yw (.eql Z Z)<|.aq Z<|.me _ ⟨Z,Jt⟩ ⟨Z,Z,Jt⟩ (λ_ s=>s) (by rw [bD];simp only [aB,<-bT,show (UInt8.toNat 9)=9 from Z,show (UInt8.toNat 10)=10 from Z];(try simp only [aB,bM] at *);omega)
 have e4:=hC;refine .cd Z (λh43=>?_) (λh43=>?_)
 ·have q4:op=9\/op=10:=by rw [h43] at e4;simpa using e4.symm
  have ht:=EP op;have hn1:(cW op).n=1:=by rcases q4 with rfl | rfl <;> decide
  have h0:0<args.length:=by omega
  obtain ⟨b0,o0,c0,hp0,r0,l0,m0⟩:=hs.elem (eL h0);cases hp0;have hf0:=EY h0 hf2;rw [gN,txt,aA e1,aA q2,aA q3,aE q4,jM h0] at hl;simp only [aD] at hl;have ho:=BT (cW op).lv ((cW args[0].op).lv,args[0].text);dsimp only at ho;refine .sq<|.fL 10 [(0,0),(1,0),(2,0),(3,0),(4,0),(5,0),(6,0),(7,0),(8,0),(9,0)]<|.fA Z xB<|.lD Z bZ Hm Z<|.fA Z jQ<|.lD Z fR dN Z<|.yw (.indexSl dW Z Z (i:=0) Z (by omega) (q:=o0+0 * 4) Z)<|.yw (.loadMW Z fI m0 l0)<|.fA Z AL<|.lD Z dZ Hm Z<|.yw (.call LM Z (λW s=>GZ H G _ (ih _ (cD h0)) _ r0 hf0 (by omega) (cW op).lv W s.agr))<|.yw (.app Z Z (by (try simp only [aD,aH,aS]);omega))<|.fn (tl:=[_]) Z<|.az Z<|.bR<|.tR<|?_
  refine y9 Z Z λW s=>⟨?_,s.ext⟩
  first
   | (rw [gN,txt,aE e1] <;> rfl)
   | (rw [gN,txt,aA e1,aE q2] <;> rfl)
   | (rw [gN,txt,aA e1,aA q2,aE q3,jM h0] <;> rfl)
   | (rw [gN,txt,aA e1,aA q2,aA q3,aE q4,jM h0] <;> rfl)
   | (rw [gN,txt,aA e1,aA q2,aA q3,aA q4,aE q5] <;> rfl)
   | (rw [gN,txt,aA e1,aA q2,aA (nP.2 q3),aA (nP.2 q4),aA q5,jM h0,jM h1] <;> rfl)
 have q4:¬ (op=9\/op=10):=by rw [h43] at e4;simpa using e4.symm
 refine .sk<|.bN<|.tN<|.sq<|.sr<|.fA Z KO<|.lD Z dZ Hm Z<|.yw (.eql Z Z)<|.nt<|.ce Z (λh58=>?_) (λh58=>?_)
 ·have q5:(cW op).n=0:=by omega
  refine .sr<|.fA Z xB<|.lD Z bZ Hm Z<|.az Z<|.tR<|?_
  refine y9 Z Z λW s=>⟨?_,s.ext⟩
  first
   | (rw [gN,txt,aE e1] <;> rfl)
   | (rw [gN,txt,aA e1,aE q2] <;> rfl)
   | (rw [gN,txt,aA e1,aA q2,aE q3,jM h0] <;> rfl)
   | (rw [gN,txt,aA e1,aA q2,aA q3,aE q4,jM h0] <;> rfl)
   | (rw [gN,txt,aA e1,aA q2,aA q3,aA q4,aE q5] <;> rfl)
   | (rw [gN,txt,aA e1,aA q2,aA (nP.2 q3),aA (nP.2 q4),aA q5,jM h0,jM h1] <;> rfl)
 have q5:¬ (cW op).n=0:=by omega
 have ht:=EP op;have hlv:=bY6 op;simp only [nP] at q3 q4;have hn2:(cW op).n=2:=(cL0 hok q3.1 q3.2 q4.1 q4.2).resolve_left q5;have h0:0<args.length:=by omega
 obtain ⟨b0,o0,c0,hp0,r0,l0,m0⟩:=hs.elem (eL h0);cases hp0;have hf0:=EY h0 hf2;have h1:1<args.length:=by omega
 obtain ⟨b1x,o1,c1,hp1,r1,l1,m1⟩:=hs.elem (eL h1);cases hp1;have hf1:=EY h1 hf2;rw [gN,txt,aA e1,aA q2,aA (nP.2 q3),aA (nP.2 q4),aA q5,jM h0,jM h1] at hl;simp only [aD] at hl;have ho:=BT (JO (cW op).lv) ((cW args[0].op).lv,args[0].text);have ho1:=BT ((cW op).lv+1) ((cW args[1].op).lv,args[1].text);dsimp only at ho ho1;refine .sk<|.tN<|.sr<|.fA Z AL<|.lD Z dZ Hm Z<|.aq Z<|.cu (X:=Unit) [(1,_),(3,_)] ⟨Z,Z,Jt⟩ (λz=>[(5,iN (JO (cW op).lv))]) (λz=>H) (λz=>[.box b3 (zD (cW op)) 137,.box b1 [.int .u8 op.toNat,cJ nm,.int .i64 nn.toInt,.slice (some ⟨b0,o0,none⟩) args.length c] 27]) (λz=>True) ?_ λz hC=>?_
 ·
  refine .sm Z<|.yw (.eql Z Z)<|.nt<|.ce Z (λh64=>?_) (λh64=>?_)
  ·exact .rg<|.mv Z<|.yw (.add Z Z w7)<|.aq Z<|.me () ⟨(by first | (rw [JO,aE (by omega)];rfl) | (rw [JO,aA (by omega)];rfl)),Jt⟩ ⟨Z,Z,Jt⟩ (λ_ s=>s) trivial
  exact .sk<|.tN<|.me () ⟨(by first | (rw [JO,aE (by omega)];rfl) | (rw [JO,aA (by omega)];rfl)),Jt⟩ ⟨Z,Z,Jt⟩ (λ_ s=>s) trivial
 refine .sq<|.fL 18 [(0,0),(1,0),(2,0),(3,0),(4,0),(5,0),(6,0),(7,0),(8,0),(9,0),(10,0),(11,0),(12,0),(13,0),(14,0),(15,0),(16,0),(17,0)]<|.fA Z jQ<|.lD Z fR dN Z<|.yw (.indexSl dW Z Z (i:=0) Z (by omega) (q:=o0+0 * 4) Z)<|.yw (.loadMW Z fI m0 l0)<|.mv Z<|.yw (.call LM Z (λW s=>GZ H G _ (ih _ (cD h0)) _ r0 hf0 (by omega) (JO (cW op).lv) W s.agr))<|.fA Z xB<|.lD Z bZ Hm Z<|.yw (.app Z Z (by (try simp only [aD,aH,aS]);omega))<|.fA Z jQ<|.lD Z fR dN Z<|.yw (.indexSl dW Z Z (i:=1) Z (by omega) (q:=o0+1 * 4) Z)<|.yw (.loadMW Z fI m1 l1)<|.fA Z AL<|.lD Z dZ Hm Z<|.yw (.add Z Z w7)<|.yw (.call LM Z (λW s=>GZ H G _ (ih _ (cD h1)) _ r1 hf1 (by omega) ((cW op).lv+1) W s.agr))<|.yw (.app Z Z (by (try simp only [aD,aH,aS]);omega))<|.fn (tl:=[_]) Z<|.az Z<|?_
 refine y9 Z Z λW s=>⟨?_,s.ext⟩
 first
  | (rw [gN,txt,aE e1] <;> rfl)
  | (rw [gN,txt,aA e1,aE q2] <;> rfl)
  | (rw [gN,txt,aA e1,aA q2,aE q3,jM h0] <;> rfl)
  | (rw [gN,txt,aA e1,aA q2,aA q3,aE q4,jM h0] <;> rfl)
  | (rw [gN,txt,aA e1,aA q2,aA q3,aA q4,aE q5] <;> rfl)
  | (rw [gN,txt,aA e1,aA q2,aA (nP.2 q3),aA (nP.2 q4),aA q5,jM h0,jM h1] <;> rfl)
theorem sK:jP prg 40=some none:=by kernel_rfl
theorem PT:jP prg 113=some none:=by kernel_rfl
theorem cI6:bI0 prg 40=some 5:=by kernel_rfl
theorem UW:cU prg 126=true:=by kernel_rfl
theorem AN:dL prg 115 0=some 0:=by kernel_rfl
theorem uC:dL prg 115 1=some 1:=by kernel_rfl
theorem PG:bZ5 prg 113=some 115:=by kernel_rfl
theorem ZF:aV3 prg 113=some (115,2):=by kernel_rfl
theorem bQ1:aV3 prg 194=some (5,1):=by kernel_rfl
theorem cI3:tM prg 40=some (5,1,1):=by kernel_rfl
theorem JB:gH prg 40=some 1:=by kernel_rfl
theorem aZ1:gH prg 113=some 1:=by kernel_rfl
theorem AE:slN prg 40=some 1:=by kernel_rfl
theorem YU:bW5 prg 247=true:=by kernel_rfl
theorem bC5 (x0:Int):oK prg 40 1 [(0,.int .u8 x0)]=some (5,[.int .u8 x0]):=by kernel_rfl
theorem ZK:cU prg 83=true:=by kernel_rfl
theorem bR0:cU prg 84=true:=by kernel_rfl
theorem AM:dL prg 117 0=some 0:=by kernel_rfl
theorem iK:dL prg 117 1=some 2:=by kernel_rfl
theorem iI:cU prg 43=true:=by kernel_rfl
theorem DA:cU prg 129=true:=by kernel_rfl
theorem jY (x0:ByteArray):oK prg 52 1 [(0,.string x0)]=some (9,[.string x0]):=by kernel_rfl
theorem zX (x0 x1:ByteArray):oK prg 52 2 [(0,.string x0),(1,.string x1)]=some (9,[.string x0,.string x1]):=by kernel_rfl
theorem LR:cU prg 128=true:=by kernel_rfl
theorem UR:cU prg 171=true:=by kernel_rfl
theorem qJ:tM prg 52=some (9,1,16):=by kernel_rfl
theorem qY:gH prg 9=some 1:=by kernel_rfl
theorem cI0:mD prg 9=some [Go.Value.string { data:={ toList:=[] } }]:=by kernel_rfl
theorem qK (x0 x1 x2:ByteArray):oK prg 52 3 [(0,.string x0),(1,.string x1),(2,.string x2)]=some (9,[.string x0,.string x1,.string x2]):=by kernel_rfl
theorem bC2 (x0 x1 x2 x3:ByteArray):oK prg 52 4 [(0,.string x0),(1,.string x1),(2,.string x2),(3,.string x3)]=some (9,[.string x0,.string x1,.string x2,.string x3]):=by kernel_rfl
theorem DD (x0 x1 x2 x3 x4:ByteArray):oK prg 52 5 [(0,.string x0),(1,.string x1),(2,.string x2),(3,.string x3),(4,.string x4)]=some (9,[.string x0,.string x1,.string x2,.string x3,.string x4]):=by kernel_rfl
theorem VE (x0 x1 x2 x3 x4 x5:ByteArray):oK prg 52 6 [(0,.string x0),(1,.string x1),(2,.string x2),(3,.string x3),(4,.string x4),(5,.string x5)]=some (9,[.string x0,.string x1,.string x2,.string x3,.string x4,.string x5]):=by kernel_rfl
theorem LW (x0 x1 x2 x3 x4 x5 x6:ByteArray):oK prg 52 7 [(0,.string x0),(1,.string x1),(2,.string x2),(3,.string x3),(4,.string x4),(5,.string x5),(6,.string x6)]=some (9,[.string x0,.string x1,.string x2,.string x3,.string x4,.string x5,.string x6]):=by kernel_rfl
theorem iO:jP prg 208=some (some 6):=by kernel_rfl
theorem aZ7:cU prg 156=true:=by kernel_rfl
theorem jG:gH prg 3=some 1:=by kernel_rfl
theorem lV:gH prg 208=some 6:=by kernel_rfl
theorem vF:mD prg 208=some
 [Go.Value.int Go.IntKind.u8 (Int.ofNat 0),Go.Value.string { data:={ toList:=[] } },
  Go.Value.string { data:={ toList:=[] } },Go.Value.slice none 0 0,Go.Value.slice none 0 0,
  Go.Value.slice none 0 0]:=by kernel_rfl
theorem ZQ:cU prg 44=true:=by kernel_rfl
theorem ZP:cU prg 45=true:=by kernel_rfl
theorem ZI:cU prg 88=true:=by kernel_rfl
theorem bU3:cU prg 15=true:=by kernel_rfl
theorem PM:cU prg 35=true:=by kernel_rfl
theorem bS8:cU prg 46=true:=by kernel_rfl
theorem bS7:cU prg 47=true:=by kernel_rfl
theorem KP:dL prg 102 1=some 1:=by kernel_rfl
theorem bU5  : gE prg 117 []=some [.pointer none,.slice none 0 0,.int .i64 0]:=by kernel_rfl
theorem xD:jP prg 31=some none:=by kernel_rfl
theorem dM:jP prg 33=some (some 4):=by kernel_rfl
theorem JJ:cU prg 14=true:=by kernel_rfl
theorem NK:dL prg 33 0=some 0:=by kernel_rfl
theorem aG4:dL prg 33 1=some 1:=by kernel_rfl
theorem aG3:dL prg 33 2=some 2:=by kernel_rfl
theorem GF:dL prg 33 3=some 3:=by kernel_rfl
theorem tD:QW prg 3=some Go.IntKind.i64:=by kernel_rfl
theorem cI4:QW prg 24=some Go.IntKind.u8:=by kernel_rfl
theorem pD:tM prg 25=some (27,4,56):=by kernel_rfl
theorem iH:gH prg 25=some 1:=by kernel_rfl
theorem eI:gH prg 33=some 4:=by kernel_rfl
theorem DT:slN prg 31=some 4:=by kernel_rfl
theorem jW:mD prg 33=some
 [Go.Value.int Go.IntKind.i64 (Int.ofNat 0),Go.Value.string { data:={ toList:=[] } },
  Go.Value.int Go.IntKind.i64 (Int.ofNat 0),Go.Value.slice none 0 0]:=by kernel_rfl
theorem VK (x0:Int) (x1:ByteArray) (x2:Int):gE prg 27 [(0,.int .u8 x0),(1,.string x1),(2,.int .i64 x2)]=some [.int .u8 x0,.string x1,.int .i64 x2,.slice none 0 0]:=by kernel_rfl
theorem kL (x00 x01 x02 x03:Value):oK prg 25 1 [(0,.agg [x00,x01,x02,x03].toArray)]=some (27,[x00,x01,x02,x03]):=by kernel_rfl
def dA1 (e:Ex):Prop:=Ex.all oS e=true->∀ (H:Hp) (cs:List Value) (w:World),Rep H (dEx .i64 e) cs->Agr H w ->
 Calls prg 14 #[.agg cs.toArray] w λr w'=>∃ x H',Rep H' (dEx .u8 e) x/\r=.returned (.agg x.toArray)/\BX H w H' w'
theorem TM (e:Ex):dA1 e:=by
 induction e using Ex.ind with | _ op nm nn args ih
 intro hnr H cs w h hA;rw [nK,aF,zG,aB] at hnr;obtain ⟨p,c,rfl,hs,hnm⟩:=iR h;have hcap:=hs.cap;have hn3:=hnr.1;refine Sx.enter (H:=H) func14 rfl ntmps14 rfl hA ?_;refine .sr<|.bx Z Z Z λb1=>.al jX Z λb2=>?_
 refine Sx.row0 27 4 ?_;refine .ns<|.fA Z NK<|.lD Z dZ fN Z<|.yw (.conv Z tD cI4 (c:=(op.toNat:Nat)) (by have:=op.toNat_lt;simp only [IntKind.wrap,IntKind.signed,IntKind.bits];simp;omega))<|.fA Z aG4<|.lD Z bZ fN Z<|.fA Z aG3<|.lD Z nX fN Z<|.yw (.build Z (VK _ _ _))<|.al jX Z λb3=>.sX .head Z Z dO Z<|.nt<|.sq<|.sr<|.fA Z GF<|.lD Z xD oU Z<|.yw (.lenSl DT Z)<|.mv Z<|.nt<|.bk<|.lp (X:=Nat × Hp × Value × List Value) [(2,_),(3,_),(15,_),(16,_)] ⟨Z,Z,Z,Z,Jt⟩ [_,_] (λz=>[(17,iN z.1)]) (λz=>z.2.1) (λz=>[.box b3 [.int .u8 op.toNat,cJ nm,.int .i64 nn.toInt,z.2.2.1] 27,.row 27 4 z.2.2.1 z.1 z.2.2.2]) (λz=>z.1<=args.length/\HUp w H z.2.1/\dA z.2.1 4 ((args.take z.1).map (dEx .u8)) z.2.2.2) (λz=>args.length - z.1) (0,H,.slice none 0 0,[]) (λ_ s=>s) ⟨Z,Jt⟩ ⟨by simp,.refl,dA.nil⟩ λz hC=>?_
 obtain ⟨k,H1,r,xs⟩:=z;dsimp only at hC|-;obtain ⟨hk0,u1,hz⟩:=hC;refine .sr<|.yw (.lss Z Z)<|.nt<|.sq<|.ce Z (λh18=>?_) (λh18=>?_)
 ·have hk:k<args.length:=by omega
  obtain ⟨bE,oE,cE,hpE,rE,lE,mE⟩:=(hs.up u1.up).elem (eL hk);cases hpE;have hnr1:=EY hk hnr.2;refine .sk<|.tN<|.sq<|.bk<|.sr<|.yw (.indexSl DT Z Z Z (by omega) (q:=oE+k * 4) Z)<|.yw (.loadMW Z dM mE lE)<|.al jW Z λb5=>.sV .head Z Z eI lE rE.one Z<|.nt<|.fL 5 [(0,0),(1,0),(2,0),(3,1),(4,1)]<|.fA Z jQ<|.lD Z fR dN Z<|.yw (.loadW Z dM Hm lE)<|.ct (X:=List Value) JJ Z (λW s=>ih _ (cD hk) hnr1 H1 cE W rE s.agr) Z λx2 H2 hc2 u2=>?_
  generalize hx:args[k]=x at hc2;obtain ⟨op2,nm2,n2,zC⟩:=x;obtain ⟨p2,c2,rfl,hs2,hnm2⟩:=iR hc2;refine .bl Z (kL _ _ _ _) Z λb25=>.fn (tl:=[_,_,_]) Z<|.ap (news:=[.int .u8 op2.toNat,cJ nm2,.int .i64 n2.toInt,.slice p2 zC.length c2]) pD Z (λ_=>oB) Z (.box Hm z0) Z (by simp [Value.oneCell',cJ]) (by simp [maxLen];omega) (by omega) Z λr26 _=>?_
  refine At.ra (.tail _ (.tail _ (.tail _ Hm))) λp26 c26 e26=>?_;exact .fA Z jQ<|.st fU Z Z iH (by rw [e26];rfl) (nb Z) Z<|.nl<|.bN<|.tN<|.rg<|.yw (.add Z Z w7)<|.mv Z<|.nt<|.ag (x:=(k,H1,r,xs)) (k+1,H2,r26,xs++[.int .u8 op2.toNat,cJ nm2,.int .i64 n2.toInt,.slice p2 zC.length c2]) ⟨Z,Jt⟩ ⟨Z,Z,Z,Z,Jt⟩ (λ_ s=>(s.pick [2,3,4,5] _ Z Z)) ⟨by dsimp only;omega,u1.trans u2,by dsimp only;rw [gC hk,hx,aV];exact (hz.up u2.up).snoc hc2 Z⟩ (by dsimp only;omega)
 obtain rfl:k=args.length:=by omega
 rw [aI] at hz;refine At.ra (.tail _ Hm) λp26 c26 e26=>?_;subst e26;refine .ex<|.eb<|.sr<|.yw (.loadW Z fI Hm Z)<|.sX fU Z Z dO Z<|.nt<|.rt<|?_
 refine At.pm [1,2] [_,_] rfl rfl ?_;refine dC (ds:=args.map (dEx .u8)) (by simp) hz λH3 p3 c3 u3 hr3 hs3=>?_;refine y8 Z (.cell Z fI Hm rfl) λW s=>⟨_,H3,iE hnm hs3,Z,(u1.trans u3).grow s⟩
end Go.Proofs.YthhoebdlfjffkaaGreatDoor
namespace Go.Sx
open Go.RowKit Go.Par
section
variable {dfs:List Deferred} {P:Program} {n:Nat} {L:Sl} {H:Hp} {w0:World} {bs:List Res} {Q:Exit->Act->World->Prop} {ops:Array Oper} {K:Act->World->Prop}
def exN (K:Act->World->Prop) (Q:Exit->Act->World->Prop):Exit->Act->World->Prop:=λe=>match e with | .normal=>K | e=>Q e
theorem At.ae {listed:Array Bool} (hr:Region.ready .any ops listed=[]) (h:At dfs n L H w0 bs (Q .normal)):At dfs n L H w0 bs (wpAny P .any ops Q 0 listed):=dA0 hr h
theorem Yl.cutHi2 {d:Option Tmp} {ty:TypeId} {pos:String} {aft:Array Edge} {g:Option (Nat × Bool)} {x y:Operand} {T:TypeId} {p:Option Addr} {len c z h:Nat} {k:IntKind} {i:Int} (hT:slN P T=some z) (hx:ev L x=some (.slice p len c)) (hy:ev L y=some (.int k i)) (e:i=(h:Int)) (hh:h<=c) :
 Yl P L H w0 bs ⟨d,.slice T x none (some y) none,ty,pos,aft,g⟩ (.slice (if c=0 then p else p.map λq=>q.add 0) h c):=.of_run λa W f _=>by
 subst e;obtain ⟨el,hu,hz⟩:=aJ0 hT;unfold execOp;simp [f x _ hx,f y _ hy,Instr.sliceAt,Instr.slice,underlying,program,Sem.run,Result.andThen,hu,Instr.sliceBounds,Instr.sliceBound,asIntOf,hh,rK hz]
theorem ET {z n c hi:Nat} {ds:List D} {p:Option Addr} (h:Rep H (.seq z ds) [.slice p n c]) (hl:hi<=n):Rep H (.seq z (ds.take hi)) [.slice (if c=0 then p else p.map λq=>q.add 0) hi c]:=by
 have hn:=h.len
 by_cases hc:c=0
 ·have h0:ds=[]:=cQ (by omega);rw [aE hc,h0,List.take_nil,show hi=0 by omega];exact .empty (by omega)
 rw [aA hc];unfold Rep at h;obtain ⟨p',c',h1,h2,h3,h4⟩:=h;injection h1 with h1 _
 injection h1 with h5 h6 h7
 subst h5 h7;rcases h4 with h4 | ⟨b',off',cs,rfl,h9,h10⟩
 ·subst h4;obtain rfl:hi=0:=by simp only [aS] at h6;omega
  exact .empty (by omega)
 ·exact .mk (h9.take (hi * z)) (h10.take hi) (by rw [dJ];omega) (by omega) (by omega)
end
end Go.Sx
namespace Go.Proofs.YthhoebdlfjffkaaGreatDoor
open Go.RowKit Go.Par Go.Sx
theorem xN:QW prg 5=some Go.IntKind.u8:=by kernel_rfl
structure Sp where
 wh:UInt8
 i:UInt8
 nm:UInt8
 n:Int64
 nodes:List Nd
def okE (e:Ex):Bool:=decide (e.depth<=64) && Ex.all oS e
def QT (N:Nat):Sm->Bool
 | .mk _ _ _ ex _ _=>decide (ex.length<=N) && ex.all okE
structure okL (N:Nat) (l:List Sm):Prop where
 cnt:Sm.counts l<=N
 dep:Sm.deeps l<=N
 all:Sm.alls (QT N) l=true
mutual
theorem bZ0 {q q':Sm->Bool} (h:∀ s,q s=true->q' s=true):∀ s,Sm.all q s=true->Sm.all q' s=true
 | .mk kd nm hd ex th el,hh=>by
  rw [oM] at hh|-;simp only [aF] at hh|-;exact ⟨⟨h _ hh.1.1,tW h th hh.1.2⟩,tW h el hh.2⟩
theorem tW {q q':Sm->Bool} (h:∀ s,q s=true->q' s=true):∀ l,Sm.alls q l=true->Sm.alls q' l=true
 | [],_=>rfl
 | s::r,hh=>by
  rw [Sm.alls,aF] at hh|-;exact ⟨bZ0 h s hh.1,tW h r hh.2⟩
end
variable {N:Nat}
theorem IL {M:Nat} (h:N<=M):∀ s,QT N s=true->QT M s=true
 | .mk _ _ _ ex _ _,hh=>by
  simp only [QT,aF,aB] at hh|-;exact ⟨by omega,hh.2⟩
theorem okL.mono {M:Nat} {l:List Sm} (h:okL N l) (k:N<=M):okL M l:=⟨by have:=h.cnt;omega,by have:=h.dep;omega,tW (IL k) l h.all⟩
theorem okL.len {l:List Sm} (h:okL N l):l.length<=N:=cN (yG l) h.cnt
theorem okL.left {a b:List Sm} (h:okL N (a++b)):okL N a:=by
 obtain ⟨h1,h2,h3⟩:=h;rw [oD] at h1;rw [qF] at h2;rw [sC,aF] at h3;exact ⟨by omega,by omega,h3.1⟩
theorem okL.right {a b:List Sm} (h:okL N (a++b)):okL N b:=by
 obtain ⟨h1,h2,h3⟩:=h;rw [oD] at h1;rw [qF] at h2;rw [sC,aF] at h3;exact ⟨by omega,by omega,h3.2⟩
variable {j:Nat}
theorem SK {α:Type} {l:List α} (h:j<l.length):l=l.take j++([l[j]]++l.drop (j+1)):=by simp
theorem cV6 {α:Type} {l:List α} (h:j<l.length) (s:α):l.set j s=l.take j++([s]++l.drop (j+1)):=by
 rw [List.set_eq_take_append_cons_drop,aE h];rfl
theorem okL.at {l:List Sm} (h:okL N l) (hj:j<l.length):okL N [l[j]]:=by
 have h2:=h;rw [SK hj] at h2;exact h2.right.left
theorem okL.put {M:Nat} {l:List Sm} (h:okL N l) (hj:j<l.length) {s:Sm} (k:okL (N+M) [s]):okL (N+(N+M)) (l.set j s):=by
 have h2:=h;rw [SK hj] at h2
 have h3:okL N (l.take j++l.drop (j+1)):=by
  obtain ⟨a1,a2,a3⟩:=h2;simp only [oD,qF,sC,aF] at a1 a2 a3;refine ⟨?_,?_,?_⟩
  ·rw [oD];omega
  ·rw [qF];omega
  ·rw [sC,a3.1,a3.2.2];rfl
 rw [cV6 hj];obtain ⟨a1,a2,a3⟩:=h3;obtain ⟨b1,b2,b3⟩:=k;rw [oD] at a1;rw [qF] at a2;rw [sC,aF] at a3;have m1:=IL (N:=N) (M:=N+(N+M)) (by omega);have m2:=IL (N:=N+M) (M:=N+(N+M)) (by omega);refine ⟨?_,?_,?_⟩
 ·rw [oD,oD];omega
 ·rw [qF,qF];omega
 ·rw [sC,sC,tW m1 _ a3.1,tW m2 _ b3,tW m1 _ a3.2];rfl
structure bM4 (N:Nat) (h:Hd):Prop where
 ps:h.ps.length<=N
 body:okL N h.body
variable {h:Hd}
theorem bM4.mono {M:Nat} (k:bM4 N h) (l:N<=M):bM4 M h:=⟨by have:=k.ps;omega,k.body.mono l⟩
structure cM2 (N:Nat) (v:List Hd):Prop where
 len:v.length<=N
 all:∀ h∈v,bM4 N h
theorem cM2.mono {M:Nat} {v:List Hd} (k:cM2 N v) (l:N<=M):cM2 M v:=⟨by have:=k.len;omega,λh m=>(k.all h m).mono l⟩
structure cM5 (N:Nat) (c:Cp):Prop where
 vars:c.vars.length<=N
 vers:c.vers.length<=N
 all:∀ v∈c.vers,cM2 N v
theorem cM5.mono {M:Nat} {c:Cp} (k:cM5 N c) (l:N<=M):cM5 M c:=⟨by have:=k.vars;omega,by have:=k.vers;omega,λv m=>(k.all v m).mono l⟩
structure aL4 (N:Nat) (f:Ft):Prop where
 flags:f.flags.length<=N
 links:f.links.length<=N
 comps:f.comps.length<=N
 pos:0<f.comps.length
 all:∀ c∈f.comps,cM5 N c
theorem aL4.mono {M:Nat} {f:Ft} (k:aL4 N f) (l:N<=M):aL4 M f:=⟨by have:=k.flags;omega,by have:=k.links;omega,by have:=k.comps;omega,k.pos,λc m=>(k.all c m).mono l⟩
def okD (D:Nat) (e:Ex):Prop:=e.depth<=D/\Ex.all oS e=true
variable {D:Nat}
theorem okD.mono {D':Nat} {e:Ex} (h:okD D e) (k:D<=D'):okD D' e:=⟨cN h.1 k,h.2⟩
theorem VR {op:UInt8} {nm:Str} {n:Int64} :okD (D+1) (.mk op nm n []):=⟨by rw [sH];simp [Ex.deeps],by rw [nK,zG];rfl⟩
variable {a:Ex}
theorem cM4 {op:UInt8} {nm:Str} {n:Int64} (h:okD D a):okD (D+1) (.mk op nm n [a]):=by
 refine ⟨?_,?_⟩
 ·rw [sH];simp only [Ex.deeps];have:=h.1;omega
 ·rw [nK,zG];simp [Ex.alls,h.2]
theorem cW6 {op:UInt8} {nm:Str} {n:Int64} {b:Ex} (h:okD D a) (k:okD D b):okD (D+1) (.mk op nm n [a,b]):=by
 refine ⟨?_,?_⟩
 ·rw [sH];simp only [Ex.deeps];have:=h.1;have:=k.1;omega
 ·rw [nK,zG];simp [Ex.alls,h.2,k.2]
variable {M:Mk} {k:Nat}
theorem bF5 {d:Nat} {rec:Bs->Ex × Bs} (h:∀ b,okD D (rec b).1) (b:Bs):okD (D+1) (EA M d rec k b).1:=by
 unfold EA
 split
 ·exact VR
 split
 ·exact VR
 split
 ·exact VR
 split
 ·exact VR
 split
 ·exact cM4 (h _)
 split
 ·exact VR
 split
 ·exact cM4 (h _)
 ·exact cW6 (h _) (h _)
theorem RM (M:Mk):∀ f b,okD (f+2) (pM M f b).1
 | 0,b=>bF5 (λ_=>VR) _
 | f+1,b=>bF5 (RM M f) _
theorem DM (M:Mk):∀ n b,(yJ M n b).1.length=n/\∀ e∈(yJ M n b).1,okD 4 e
 | 0,b=>⟨Z,λ_ h=>by cases h⟩
 | n+1,b=>by
  obtain ⟨h1,h2⟩:=DM M n (pM M 2 b).2;refine ⟨by simp [yJ,h1],λe he=>?_⟩;rcases bJ.1 he with rfl | he
  ·exact RM M 2 b
  ·exact h2 e he
theorem bD7 {d:Nat} {rec:Bs->Ex × Bs} (hD:4<=D) (h:∀ b,okD D (rec b).1) (b:Bs):okD (D+1) (FP M d rec k b).1:=by
 have hn:∀ b,okD D (pM M 2 b).1:=λb=>(RM M 2 b).mono hD;unfold FP
 split
 ·exact VR
 split
 ·exact VR
 split
 ·exact VR
 split
 ·exact cM4 (hn _)
 split
 ·exact cM4 (h _)
 split
 ·exact cW6 (h _) (h _)
 ·exact cW6 (hn _) (hn _)
theorem bD9 (M:Mk):∀ f b,okD (f+6) (BC M f b).1
 | 0,b=>bD7 (D:=5) (by omega) (λ_=>VR (D:=4)) _
 | f+1,b=>bD7 (by omega) (bD9 M f) _
mutual
theorem bL0:∀ s:Sm,Sm.depth s<=Sm.count s
 | .mk kd nm hd ex th el=>by
  rw [yF,iG];have:=IH th;have:=IH el;omega
theorem IH:∀ l:List Sm,Sm.deeps l<=Sm.counts l
 | []=>by simp [Sm.deeps]
 | s::r=>by
  simp only [Sm.deeps,Sm.counts];have:=bL0 s;have:=IH r;omega
end
structure bP2 (lf:Nat) (l:List Sm) (lf':Nat):Prop where
 cnt:Sm.counts l+lf'<=lf
 all:Sm.alls (QT 10) l=true
theorem vC {lf lf':Nat} {kd:UInt8} {nm hd:Str} {ex:List Ex} {th el:List Sm} (h1:Sm.counts th+Sm.counts el+lf'<=lf) (h2:ex.length<=10) (h3:∀ e∈ex,okD 40 e) (h4:Sm.alls (QT 10) th=true) (h5:Sm.alls (QT 10) el=true) :
 bP2 (lf+1) [.mk kd nm hd ex th el] lf':=by
 refine ⟨by simp only [Sm.counts,iG];omega,?_⟩;simp only [Sm.alls,oM,QT,aF,aB,aP];refine ⟨⟨⟨⟨h2,λe he=>?_⟩,h4⟩,h5⟩,Jt⟩;simp only [okE,aF,aB];have:=h3 e he;exact ⟨by have:=this.1;omega,this.2⟩
theorem EX {e:Ex} (h:okD 40 e):∀ x∈[e],okD 40 x:=λx hx=>by rw [dQ.1 hx];exact h
theorem cC4 {e e2:Ex} (h:okD 40 e) (k:okD 40 e2):∀ x∈[e,e2],okD 40 x:=λx hx=>by
 rcases bJ.1 hx with rfl | hx
 ·exact h
 ·rw [dQ.1 hx];exact k
variable {n:Nat}
theorem TD {b:Bs} :∀ x∈(yJ M n b).1,okD 40 x:=λx hx=>((DM M n b).2 x hx).mono (by omega)
theorem bN1 {e:Ex} (h:okD 40 e) {b:Bs} :∀ x∈e::(yJ M n b).1,okD 40 x:=λx hx=>by
 rcases bJ.1 hx with rfl | hx
 ·exact h
 ·exact TD x hx
theorem XA (hM:∀ c h,arN M c h<=2) (k d:Nat) {bd:Bs × Nat->List Sm × (Bs × Nat)} (hb:∀ x,bP2 x.2 (bd x).1 (bd x).2.2) (b:Bs) (lf:Nat):bP2 (lf+1) [(jI M k d bd b lf).1] (jI M k d bd b lf).2.2:=by
 have hn:∀ f b,f<=30->okD 40 (pM M f b).1:=λf b hf=>(RM M f b).mono (by omega);have ht:∀ b,okD 40 (BC M 2 b).1:=λb=>(bD9 M 2 b).mono (by omega);have z:Sm.counts []=0:=rfl;unfold jI
 split
 ·exact vC (lf':=lf) (by simp only [z];omega) (by simp) (EX (ht _)) rfl rfl
 split
 ·exact vC (lf':=lf) (by simp only [z];omega) (by simp) (cC4 (hn _ _ (by omega)) (hn _ _ (by omega))) rfl rfl
 split
 ·exact vC (lf':=lf) (by simp only [z];omega) (by simp) (EX (hn _ _ (by omega))) rfl rfl
 split
 ·have h1:=hb ((BC M 2 b).2,lf);have h2:=hb (bd ((BC M 2 b).2,lf)).2;exact vC (by have:=h1.cnt;have:=h2.cnt;simp only at *;omega) (by simp) (EX (ht _)) h1.all h2.all
 split
 ·have h1:=hb ((BC M 2 b).2,lf);exact vC (by have:=h1.cnt;simp only at *;omega) (by simp) (EX (ht _)) h1.all rfl
 split
 ·exact vC (lf':=lf) (by simp only [z];omega) (by rw [(DM _ _ _).1];have:=hM (bY b M.ars.length).1 (bY (bY b M.ars.length).2 (arL M (bY b M.ars.length).1)).1;omega) TD rfl rfl
 split
 ·exact vC (lf':=lf) (by simp only [z];omega) (by rw [aH,(DM _ _ _).1];have:=hM M.own (bY b (arL M M.own)).1;omega) (bN1 (hn _ _ (by omega))) rfl rfl
 split
 ·split
  ·have h1:=hb ((yJ M 2 (bY b 2).2).2,lf);exact vC (by have:=h1.cnt;simp only at *;omega) (by rw [(DM _ _ _).1];omega) TD rfl h1.all
  ·have h1:=hb ((pM M 3 (bY (bY b 2).2 M.ints).2).2,lf);exact vC (lf':=(bd ((pM M 3 (bY (bY b 2).2 M.ints).2).2,lf)).2.2) (by have:=h1.cnt;simp only at *;omega) (by simp) (EX (hn _ _ (by omega))) rfl h1.all
 split
 ·exact vC (lf':=lf) (by simp only [z];omega) (by simp) (λ_ h=>by cases h) rfl rfl
 ·exact vC (lf':=lf) (by simp only [z];omega) (by simp) (EX (hn _ _ (by omega))) rfl rfl
theorem OW {st:Nat->Bs->Nat->Sm × (Bs × Nat)} (hs:∀ k b lf,bP2 (lf+1) [(st k b lf).1] (st k b lf).2.2):∀ f x,bP2 x.2 (BF st f x).1 (BF st f x).2.2
 | 0,x=>⟨by simp [BF,Sm.counts],Z⟩
 | f+1,(b,lf)=>by
  unfold BF
  split
  ·exact ⟨by simp [Sm.counts],Z⟩
  ·rename_i hne
   split
   ·exact ⟨by simp [Sm.counts],Z⟩
   ·have h1:=hs (bY b 14).1 (bY b 14).2 (lf - 1);have h2:=OW hs f (st (bY b 14).1 (bY b 14).2 (lf - 1)).2;have hl:lf≠0:=λe=>hne (.inr e);refine ⟨?_,?_⟩
    ·have a1:=h1.cnt;have a2:=h2.cnt;simp only [Sm.counts] at a1|-;omega
    ·have a1:=h1.all;simp only [Sm.alls,aF] at a1|-;exact ⟨a1.1,h2.all⟩
theorem YP {M:Mk} (hM:∀ c h,arN M c h<=2):∀ f x,bP2 x.2 (OX M f x).1 (OX M f x).2.2
 | 0,x=>OW (λk b lf=>XA hM k 3 (λx=>⟨by simp [Sm.counts],Z⟩) b lf) 13 x
 | f+1,x=>OW (λk b lf=>XA hM k (2 - f) (YP hM f) b lf) 13 x
theorem cY4 (hM:∀ c h,arN M c h<=2) (k:Nat) (c:Cd):bM4 100 (hdS M k c):=by
 have h:=YP (M:=M.at k) hM 3 (c.bytes.take 40,12);have hc:=h.cnt;simp only at hc;refine ⟨by simp only [hdS,lK];have:=hM M.own k;omega,?_,?_,?_⟩
 ·simp only [hdS];omega
 ·simp only [hdS];have:=IH (OX (M.at k) 3 (c.bytes.take 40,12)).1;omega
 ·exact tW (IL (by omega)) _ h.all
theorem aD8 {M:Mk} (hM:∀ c h,arN M c h<=2):∀ (l:List Cd) (k:Nat),∀ h∈BV M k l,bM4 100 h
 | [],k,h,hh=>by cases hh
 | c::r,k,h,hh=>by
  rcases bJ.1 hh with rfl | hh
  ·exact cY4 hM k c
  ·exact aD8 hM r (k+1) h hh
variable {i:Nat}
theorem aY0 {p:Pln} {nf:Nat} {x:Prt} (c h:Nat):arN (mkP (rW p) nf i x) c h<=2:=by
 show ((rW p).getD c []).getD h 0<=2
 by_cases hc:c<(rW p).length
 ·rw [oO hc];have hm:=cD hc;generalize (rW p)[c]=l at hm;obtain ⟨y,_,rfl⟩:=jC.1 hm
  by_cases hh:h<(arP y).length
  ·rw [oO hh];exact bI2 (cD hh)
  ·have e:(arP y)[h]? = none:=List.getElem?_eq_none_iff.2 (by omega);rw [List.getD_eq_getElem?_getD,e];simp
 ·have e:(rW p)[c]? = none:=List.getElem?_eq_none_iff.2 (by omega);rw [List.getD_eq_getElem?_getD,List.getD_eq_getElem?_getD,e];simp
theorem aO1 (x:Prt):(VV x).length<=3:=by
 unfold VV
 split
 ·simp
 ·rw [dJ];omega
theorem OU (p:Pln):aL4 100 (mX p):=by
 have hp:=IJ p;refine ⟨?_,?_,?_,?_,?_⟩
 ·simp only [mX,OM];omega
 ·have:=IP (fJ p).length p.links (min p.links.length ((fJ p).length * (fJ p).length));have h9:(fJ p).length * (fJ p).length<=9:=yU hp.2 hp.2;simp only [mX];have:min p.links.length ((fJ p).length * (fJ p).length)<=(fJ p).length * (fJ p).length:=Nat.min_le_right _ _;omega
 ·simp only [mX,IW];omega
 ·simp only [mX,IW];omega
 ·intro c hc;simp only [mX,JY] at hc;obtain ⟨i,hi,rfl⟩:=List.mem_mapIdx.1 hc;generalize (fJ p)[i]=x;refine ⟨?_,?_,?_⟩
  ·simp only [aE7,PU,aD,SB,SA,gT,sF,yD];omega
  ·simp only [aE7,EN];split <;> simp
  ·intro v hv;simp only [aE7,EN] at hv;rcases bJ.1 hv with rfl | hv
   ·exact ⟨by rw [AV];have:=aO1 x;omega,aD8 aY0 _ _⟩
   ·split at hv
    ·rw [dQ.1 hv];exact ⟨by rw [AV,dJ];omega,aD8 aY0 _ _⟩
    ·cases hv
end Go.Proofs.YthhoebdlfjffkaaGreatDoor
