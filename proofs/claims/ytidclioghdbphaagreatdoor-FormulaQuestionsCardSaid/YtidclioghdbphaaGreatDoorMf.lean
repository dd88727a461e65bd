/- Texts of the proof, one behind the other. -/
import Derived.Test.YtidclioghdbphaaGreatDoorMe
import Derived.Shelf.Strings.Builder1
import Derived.Shelf.Strings.Builder2
import Derived.Shelf.Strings.OnBuilder
import Derived.Shelf.Strings.BuilderF
import Derived.Shelf.Strings.BuilderK
import Derived.Shelf.Strings.Builder2Cap
import Derived.Shelf.Strconv.Itoa0
import Derived.Shelf.Strconv.Itoa1
import Derived.Shelf.LaysM
import Derived.Shelf.Strconv.Itoa2
import Derived.Shelf.Strconv.Itoa3
import Derived.Shelf.Strconv.Itoa4
import Derived.Shelf.Strings.Search1
import Derived.Shelf.Strings.Search2
import Derived.Shelf.Strings.Cut
import Derived.Shelf.Strings.Shaped
import Derived.Shelf.Strings.Prefix
import Derived.Shelf.Strings.BuilderCap
import Derived.Test.YtidclioghdbphaaGreatDoorProg
set_option linter.all false
set_option maxRecDepth 100000
namespace Go.Proofs.YtidclioghdbphaaGreatDoor
open Go.RowKit Go.Par Go.Sx Tryz
variable {H:Hp} {w0 W:World} {bs:List Res} {b:Nat}
theorem aD1 {ft:Ft} {pf pl pk:Option Addr} {cf cl ck:Nat} {z:Wz} (E:qN H ft pf cf pk ck) (hz:Wok H z) (n:Nat) (hn:0<n) (s:St H w0 (.box b [bJ ft.nm,.slice pf ft.flags.length cf,.slice pl ft.links.length cl,.slice pk ft.comps.length ck,.slice z.tp z.l.length z.tc,.int .i64 z.lf,iN z.bd] 113::bs) W) :
 Calls prg 117 #[.pointer (dI b),iN n] W λe W'=>∃ x:Nat × List UInt8 × Option Addr × Nat,(x.1<n/\Wok H ⟨x.2.1,x.2.2.1,x.2.2.2,z.lf,z.bd⟩)/\e=.returned (iN x.1)/\St H w0 (.box b [bJ ft.nm,.slice pf ft.flags.length cf,.slice pl ft.links.length cl,.slice pk ft.comps.length ck,.slice (⟨x.2.1,x.2.2.1,x.2.2.2,z.lf,z.bd⟩:Wz).tp (⟨x.2.1,x.2.2.1,x.2.2.2,z.lf,z.bd⟩:Wz).l.length (⟨x.2.1,x.2.2.1,x.2.2.2,z.lf,z.bd⟩:Wz).tc,.int .i64 (⟨x.2.1,x.2.2.1,x.2.2.2,z.lf,z.bd⟩:Wz).lf,iN ((⟨x.2.1,x.2.2.1,x.2.2.2,z.lf,z.bd⟩:Wz).bd)] 113::bs) W' :=
 (rH E hz n hn s).mono λe W' h=>by
  obtain ⟨⟨k,l,tp,tc,lf,bd⟩,⟨h1,h2,h3,h4⟩,he,hs⟩:=h;dsimp only at h1 h2 h3 h4 he hs;subst h3;subst h4;exact ⟨(k,l,tp,tc),⟨h1,h2⟩,he,hs⟩
def DF:Nat->Nat
 | 0=>21
 | k+1=>2 * DF k+22
theorem bP8:∀ k,21<=DF k
 | 0=>aY _
 | k+1=>by have:=bP8 k;rw [DF];omega
theorem cO4 {n:Int} (h1:-1000000<=n) (h2:n<=1000000):(Int64.ofInt n).toInt=n:=Int64.toInt_ofInt_of_le aD aD
def cB6 (d k:Nat):Prop:=∀ {H:Hp} {w0 W:World} {bs:List Res} {b:Nat} {ft:Ft} {pf pl pk:Option Addr} {cf cl ck:Nat} {z:Wz},(_ :  qN H ft pf cf pk ck)->(_ :  Wok H z)->-100000<=z.lf - (DF k:Nat)->z.lf<=100->St H w0 (.box b [bJ ft.nm,.slice pf ft.flags.length cf,.slice pl ft.links.length cl,.slice pk ft.comps.length ck,.slice z.tp z.l.length z.tc,.int .i64 z.lf,iN z.bd] 113::bs) W ->
 Calls prg 59 #[.pointer (some ⟨b,0,none⟩),iN d] W λe W'=>∃ x:Fm × List Value × Hp × Wz,(Rep x.2.2.1 (dFm .i64 x.1) x.2.1/\HUp w0 H x.2.2.1/\(gdF x.1=true/\x.1.count<=DF k)/\Wok x.2.2.1 x.2.2.2/\(z.lf - (DF k:Nat)<=x.2.2.2.lf/\x.2.2.2.lf<=z.lf)/\x.2.2.2.bd=z.bd)/\e=.returned (.agg x.2.1.toArray)/\St x.2.2.1 w0 (.box b [bJ ft.nm,.slice pf ft.flags.length cf,.slice pl ft.links.length cl,.slice pk ft.comps.length ck,.slice x.2.2.2.tp x.2.2.2.l.length x.2.2.2.tc,.int .i64 x.2.2.2.lf,iN x.2.2.2.bd] 113::bs) W'
variable {a:Int64} {g:Fm}
theorem bW4 {op:UInt8} {nm:Str} {b:Int64} {ex:List Ex} (ho:op.toNat<=18) (hl:ex.length<=4) (h:(∀ e∈ex,gdE e=true)) (hg:gdF g=true):gdF (.mk op nm [] a b ex [g])=true:=JP.2 ⟨⟨ho,hl,(by decide:1<=3),h⟩,λx hx=>by rw [bS.1 hx];exact hg⟩
theorem cO8 {op:UInt8} {b:Int64} {h:Fm} (ho:op.toNat<=18) (hg:gdF g=true) (hh:gdF h=true):gdF (.mk op [] [] a b [] [g,h])=true:=JP.2 ⟨⟨ho,aS,(by decide:2<=3),QJ⟩,λx hx=>by
 simp only [bM,List.not_mem_nil,or_false] at hx;rcases hx with rfl | rfl
 ·exact hg
 ·exact hh⟩
variable {i bb:Nat}
theorem bX1 {nm:Str} {a b:Int} {c1:List Value} {ex:List Ex} {s:Value} (hi:i<=18) (hn:nm.length<=1000000) (ha:-1000000<=a/\a<=1000000) (hb:-1000000<=b/\b<=1000000) (hx:Rep H (.seq 4 (ex.map (dEx .i64))) [s]) (h1:Rep H (dFm .i64 g) c1) (hl:c1.length=7) (m:EA H bb 0 c1) :
 Rep H (dFm .i64 (.mk (UInt8.ofNat i) nm [] (Int64.ofInt a) (Int64.ofInt b) ex [g])) [iN i,bJ nm,dV,.int .i64 a,.int .i64 b,s,.slice (dI bb) 1 1]:=by
 have:=xI (H:=H) (k:=.i64) (op:=UInt8.ofNat i) (nm:=nm) (fd:=[]) (a:=Int64.ofInt a) (b:=Int64.ofInt b) (ex:=ex) (args:=[g]) hn aS hx (Rep.mk (n:=1) (c:=1) m (dT.single h1 hl) rfl (aY _) aS);unfold cFm at this;rw [show (UInt8.ofNat i).toNat=i from dH (show i<256 by omega),cO4 ha.1 ha.2,cO4 hb.1 hb.2] at this;exact this
theorem VF {b:Int64} {c1:List Value} (hi:i<=18) (h1:Rep H (dFm .i64 g) c1) (hl:c1.length=7) (m:EA H bb 0 c1) :
 Rep H (dFm .i64 (.mk (UInt8.ofNat i) [] [] a b [] [g])) [iN i,dV,dV,.int .i64 a.toInt,.int .i64 b.toInt,cL,.slice (dI bb) 1 1]:=by
 have:=xI (H:=H) (k:=.i64) (op:=UInt8.ofNat i) (nm:=[]) (fd:=[]) (a:=a) (b:=b) (ex:=[]) (args:=[g]) aS aS (Rep.empty (p:=none) (c:=0) aS) (Rep.mk (n:=1) (c:=1) m (dT.single h1 hl) rfl (aY _) aS);unfold cFm at this;rw [show (UInt8.ofNat i).toNat=i from dH (show i<256 by omega)] at this;exact this
theorem aL3 {b:Int64} {h:Fm} {c1 c2:List Value} (hi:i<=18) (h1:Rep H (dFm .i64 g) c1) (hl:c1.length=7) (h2:Rep H (dFm .i64 h) c2) (hl2:c2.length=7) (m:EA H bb 0 (c1++c2)) :
 Rep H (dFm .i64 (.mk (UInt8.ofNat i) [] [] a b [] [g,h])) [iN i,dV,dV,.int .i64 a.toInt,.int .i64 b.toInt,cL,.slice (dI bb) 2 2]:=by
 have:=xI (H:=H) (k:=.i64) (op:=UInt8.ofNat i) (nm:=[]) (fd:=[]) (a:=a) (b:=b) (ex:=[]) (args:=[g,h]) aS aS (Rep.empty (p:=none) (c:=0) aS) (Rep.mk (n:=2) (c:=2) m (dT.app (dT.single h1 hl) (dT.single h2 hl2)) rfl (aY _) aS);unfold cFm at this;rw [show (UInt8.ofNat i).toNat=i from dH (show i<256 by omega)] at this;exact this
variable {f:Fm} {cs:List Value}
theorem fm7 (h:Rep H (dFm .i64 f) cs):∃ a b c d e f g,cs=[a,b,c,d,e,f,g]/\cs.length=7:=by
 obtain ⟨op,nm,fd,a,b,ex,args⟩:=f;obtain ⟨_,_,_,_,rfl,_⟩:=gK h;exact ⟨_,_,_,_,_,_,_,Z,Z⟩
set_option maxHeartbeats 8000000 in
theorem IA (d k:Nat) (hdk:d+k=4) (hih:∀ k',k=k'+1->cB6 (d+1) k'):cB6 d k:=by
 intro H w0 W bs b ft pf pl pk cf cl ck z E hz hlo hhi s;have hDP:=bP8 k;refine iB func59 rfl ntmps59 rfl s ?_;refine .sr<|.al lH Z λb4=>.ns<|.mv Z<|.nC Z<|.fA Z kI<|.lD Z bQ cU Z<|.yw (.sub Z Z (c:=z.lf - 1) (w6 aD))<|.nC Z<|.fA Z kI<|.st iJ Z Z iM Z (nb Z) Z<|.nt<|.sq<|.sq<|?_
 have hz0:Wok H (⟨z.l,z.tp,z.tc,z.lf - 1,z.bd⟩:Wz):=⟨hz.rep,hz.bd⟩;refine .rg<|.mv Z<|.nC Z<|.fA Z kI<|.lD Z bQ cU Z<|.yw (.leq Z Z)<|.nt<|.ce Z (λh24=>?_) (λh24=>?_)
 ·refine .sr<|.yw (.build Z (QA _))<|.sX .head Z Z gC Z<|.nt<|.rt<|.tR<|?_
  refine y8 Z (.cell Z dP Hm rfl) λW s=>?_;exact ⟨(.mk 1 [] [] 0 0 [] [],[.int .i64 1,dV,dV,.int .i64 0,.int .i64 0,cL,cL],H,⟨z.l,z.tp,z.tc,z.lf - 1,z.bd⟩),⟨MS (op:=1) (nm:=[]) (fd:=[]) aS aS,.refl,⟨aD8 aS aS QJ,aZ cA1 aD⟩,hz0,⟨by dsimp only;omega,by dsimp only;omega⟩,Z⟩,Z,s.p2_1 [1] rfl⟩
 refine .sk<|.tN<|.sm Z<|.xs (X:=Nat × Wz) Z (λW s=>rH E hz0 22 aS (s.p2_2 [1,0] Z)) λx1 hx1=>?_
 obtain ⟨k1,z1⟩:=x1;obtain ⟨hk1,hz1,e1l,e1b⟩:=hx1;dsimp only at hk1 hz1 e1l e1b|-;refine .aq Z<|.sq<|.cu (X:=Bool) [(0,_),(1,_),(4,_),(5,_)] ⟨Z,Z,Z,Z,Jt⟩ (λq33=>[(33,.bool q33)]) (λq33=>H) (λq33=>(.box b4 [.int .i64 0,dV,dV,.int .i64 0,.int .i64 0,cL,cL] 27::.box b [bJ ft.nm,.slice pf ft.flags.length cf,.slice pl ft.links.length cl,.slice pk ft.comps.length ck,.slice z1.tp z1.l.length z1.tc,.int .i64 z1.lf,iN z1.bd] 113::bs)) (λq33=>q33=false->d<=3/\9<=k1) ?_ λq33 hC=>?_
 ·
  refine .rg<|.mv Z<|.yw (.gtr Z Z)<|.mv Z<|.e2 (λh30=>?_) (λh30=>?_)
  ·exact .g2<|.pT Z<|.nt<|.me _ ⟨Z,Jt⟩ ⟨Z,Z,Z,Z,Jt⟩ (λ_ s=>(s.p2_2 [1,0] Z)) (λh=>by first | (cases h;done) | (have h2:=aJ h;omega))
  exact .gy (.move Z)<|.gy (.lss Z Z)<|.pF Z<|.nt<|.me _ ⟨Z,Jt⟩ ⟨Z,Z,Z,Z,Jt⟩ (λ_ s=>(s.p2_2 [1,0] Z)) (λh=>by first | (cases h;done) | (have h2:=aJ h;omega))
 have e33q:=hC;refine .cd Z (λh33=>?_) (λh33=>?_)
 ·refine .sm Z<|.mv Z<|.yw (.rem Z Z aS (c:=((k1 % 9:Nat):Int)) (CW (n:=9) aS))<|.xs (X:=Fm × List Value × Hp × Wz) Z (λW s=>bN3 E hz1 (k1 % 9) aD (by first | omega | (dsimp only;omega) | (dsimp only at *;omega)) (by first | omega | (dsimp only;omega) | (dsimp only at *;omega)) (s.p2_2 [1,0] Z)) λy3 hy3=>?_
  obtain ⟨f3,cs3,H3,z3⟩:=y3;obtain ⟨rf3,u3,g3,hz3,l3,b3d⟩:=hy3;dsimp only at rf3 u3 g3 hz3 l3 b3d|-;obtain ⟨w3a,w3b,w3c,w3d,w3e,w3f,w3g,rfl,_⟩:=fm7 rf3;have E3:=qN.up E u3.up;refine .sW iJ Z Z gC (Rep.one rf3) Z<|.nt<|.rt<|.tR<|?_
  refine y8 Z (.cell Z dP cU rfl) λW s=>?_;exact ⟨(f3,[w3a,w3b,w3c,w3d,w3e,w3f,w3g],H3,z3),⟨rf3,u3,⟨g3.1,aZ g3.2 aD⟩,hz3,⟨by dsimp only;omega,by dsimp only;omega⟩,by dsimp only;omega⟩,Z,s.p2_1 [0] rfl⟩
 have hk9:=(e33q h33).2;have hd1:d<=3:=(e33q h33).1;obtain ⟨k',rfl⟩:∃ k',k=k'+1:=⟨k - 1,aD⟩;have ih:cB6 (d+1) k':=hih k' rfl;have hTD:DF (k'+1)=2 * DF k'+22:=rfl;refine .sk<|.tN<|.sq<|.sm Z<|.nt<|.bk<|.cu (X:=Bool) [(0,_),(1,_),(4,_),(5,_),(38,_)] ⟨Z,Z,Z,Z,Z,Jt⟩ (λq39=>[(39,.bool q39)]) (λq39=>H) (λq39=>(.box b4 [.int .i64 0,dV,dV,.int .i64 0,.int .i64 0,cL,cL] 27::.box b [bJ ft.nm,.slice pf ft.flags.length cf,.slice pl ft.links.length cl,.slice pk ft.comps.length ck,.slice z1.tp z1.l.length z1.tc,.int .i64 z1.lf,iN z1.bd] 113::bs)) (λq39=>q39=false->k1≠20) ?_ λq39 hC=>?_
 ·
  refine .sr<|.yw (.eql Z Z)<|.aq Z<|.cd Z (λh39=>?_) (λh39=>?_)
  ·try simp only [dt] at h39
   exact .sk<|.tN<|.me _ ⟨Z,Jt⟩ ⟨Z,Z,Z,Z,Z,Jt⟩ (λ_ s=>s) (λh=>by have h2:=aJ h;omega)
  try simp only [df] at h39
  exact .rg<|.yw (.eql Z Z)<|.aq Z<|.me _ ⟨Z,Jt⟩ ⟨Z,Z,Z,Z,Z,Jt⟩ (λ_ s=>s) (λh=>by have h2:=aJ h;omega)
 have e39q:=hC;refine .cd Z (λh39=>?_) (λh39=>?_)
 ·refine .sm Z<|.mv Z<|.yw (.add Z Z (c:=((d+1:Nat):Int)) ((w6 aD).trans aD))<|.xs (X:=Fm × List Value × Hp × Wz) Z (λW s=>ih E hz1 (by first | omega | (dsimp only;omega) | (dsimp only at *;omega)) (by first | omega | (dsimp only;omega) | (dsimp only at *;omega)) (s.p2_2 [1,0] Z)) λy3 hy3=>?_
  obtain ⟨f3,cs3,H3,z3⟩:=y3;obtain ⟨rf3,u3,g3,hz3,l3,b3d⟩:=hy3;dsimp only at rf3 u3 g3 hz3 l3 b3d|-;obtain ⟨w3a,w3b,w3c,w3d,w3e,w3f,w3g,rfl,_⟩:=fm7 rf3;have E3:=qN.up E u3.up;refine .bl Z (CA _ _ _ _ _ _ _) Z λb46=>?_;refine Sx.freezeBoxN λH6 u6 m6=>?_;refine .yw (.build Z (CE _ _ _ _))<|.sX iJ Z Z gC Z<|.zR<|?_
  refine y8 Z (.cell Z dP cU rfl) λW s=>?_;exact ⟨(.mk (UInt8.ofNat 8) [] [] 0 0 [] [f3],[iN 8,dV,dV,.int .i64 0,.int .i64 0,cL,.slice (dI b46) 1 1],H6,z3),⟨VF (i:=8) (a:=0) (b:=0) aS (rf3.up u6.up) rfl m6,u3.trans u6,⟨bW4 (GI aS) aS QJ g3.1,by rw [iA,bY4,Ex.counts];omega⟩,hz3.up u6.up,⟨by dsimp only;omega,by dsimp only;omega⟩,by dsimp only;omega⟩,Z,s.p2_1 [0] rfl⟩
 have hq39:=e39q h39;refine .cu (X:=Bool) [(0,_),(1,_),(4,_),(5,_),(38,_)] ⟨Z,Z,Z,Z,Z,Jt⟩ (λq48=>[(48,.bool q48)]) (λq48=>H) (λq48=>(.box b4 [.int .i64 0,dV,dV,.int .i64 0,.int .i64 0,cL,cL] 27::.box b [bJ ft.nm,.slice pf ft.flags.length cf,.slice pl ft.links.length cl,.slice pk ft.comps.length ck,.slice z1.tp z1.l.length z1.tc,.int .i64 z1.lf,iN z1.bd] 113::bs)) (λq48=>q48=true->10<=k1/\k1<=12) ?_ λq48 hC=>?_
 ·
  refine .sr<|.yw (.eql Z Z)<|.aq Z<|.cd Z (λh48=>?_) (λh48=>?_)
  ·try simp only [dt] at h48
   exact .sk<|.tN<|.me _ ⟨Z,Jt⟩ ⟨Z,Z,Z,Z,Z,Jt⟩ (λ_ s=>s) (λh=>by have h2:=aI h;omega)
  try simp only [df] at h48
  refine .sr<|.yw (.eql Z Z)<|.aq Z<|.cd Z (λh48=>?_) (λh48=>?_)
  ·try simp only [dt] at h48
   exact .sk<|.tN<|.me _ ⟨Z,Jt⟩ ⟨Z,Z,Z,Z,Z,Jt⟩ (λ_ s=>s) (λh=>by have h2:=aI h;omega)
  try simp only [df] at h48
  exact .rg<|.yw (.eql Z Z)<|.aq Z<|.me _ ⟨Z,Jt⟩ ⟨Z,Z,Z,Z,Z,Jt⟩ (λ_ s=>s) (λh=>by have h2:=aI h;omega)
 have e48q:=hC;refine .cd Z (λh48=>?_) (λh48=>?_)
 ·have hq:=e48q h48;refine .sm Z<|.mv Z<|.yw (.add Z Z (c:=((d+1:Nat):Int)) ((w6 aD).trans aD))<|.xs (X:=Fm × List Value × Hp × Wz) Z (λW s=>ih E hz1 (by first | omega | (dsimp only;omega) | (dsimp only at *;omega)) (by first | omega | (dsimp only;omega) | (dsimp only at *;omega)) (s.p2_2 [1,0] Z)) λy3 hy3=>?_
  obtain ⟨f3,cs3,H3,z3⟩:=y3;obtain ⟨rf3,u3,g3,hz3,l3,b3d⟩:=hy3;dsimp only at rf3 u3 g3 hz3 l3 b3d|-;obtain ⟨w3a,w3b,w3c,w3d,w3e,w3f,w3g,rfl,_⟩:=fm7 rf3;have E3:=qN.up E u3.up;refine .al lH Z λb6=>.sW .head Z Z gC (Rep.one rf3) Z<|.nt<|.sq<|.fL 9 [(0,0),(1,0),(2,0),(3,0),(4,0),(5,0),(6,3),(7,1),(8,0)]<|.mv Z<|.yw (.sub Z Z (c:=((k1 - 1:Nat):Int)) ((w6 aD).trans aD))<|.yw (.loadW Z dP Hm Z)<|.mv Z<|.mv Z<|.yw (.add Z Z (c:=((d+1:Nat):Int)) ((w6 aD).trans aD))<|.x3 (X:=Fm × List Value × Hp × Wz) Z (λW s=>ih E3 hz3 (by first | omega | (dsimp only;omega) | (dsimp only at *;omega)) (by first | omega | (dsimp only;omega) | (dsimp only at *;omega)) (s.p3_3 [1,0,2] Z)) (λ_ _=>(.d3<|.yv (.loadW Z dP cU Z)<|.yv (.sub Z Z (c:=((k1 - 1:Nat):Int)) ((w6 aD).trans aD))<|.yv (.move Z)<|.nl)) λy5 hy5=>?_
  obtain ⟨f5,cs5,H5,z5⟩:=y5;obtain ⟨rf5,u5,g5,hz5,l5,b5d⟩:=hy5;dsimp only at rf5 u5 g5 hz5 l5 b5d|-;obtain ⟨w5a,w5b,w5c,w5d,w5e,w5f,w5g,rfl,_⟩:=fm7 rf5;have E5:=qN.up E3 u5.up;refine .blF Z (PV _ _ _ _ _ _ _ _ _ _ _ _ _ _) Z λb63 H6 u6 m6=>.yw (.build Z (CE _ _ _ _))<|.fn (tl:=[_]) Z<|.sX iE Z Z gC Z<|.zR<|?_
  refine y8 Z (.cell Z dP iG rfl) λW s=>?_;exact ⟨(.mk (UInt8.ofNat (k1 - 1)) [] [] 0 0 [] [f3,f5],[iN (k1 - 1),dV,dV,.int .i64 0,.int .i64 0,cL,.slice (dI b63) 2 2],H6,z5),⟨aL3 (i:=k1 - 1) (a:=0) (b:=0) aD (rf3.up (u5.trans u6).up) rfl (rf5.up u6.up) rfl m6,(u3.trans u5).trans u6,⟨cO8 (GI aD) g3.1 g5.1,by rw [iA,cP7,Ex.counts];omega⟩,hz5.up u6.up,⟨by dsimp only;omega,by dsimp only;omega⟩,by dsimp only;omega⟩,Z,s.p3_1 [0] rfl⟩
 refine .sr<|.yw (.eql Z Z)<|.aq Z<|.ce Z (λh65=>?_) (λh65=>?_)
 ·refine .sm Z<|.mv Z<|.yw (.add Z Z (c:=((d+1:Nat):Int)) ((w6 aD).trans aD))<|.xs (X:=Fm × List Value × Hp × Wz) Z (λW s=>ih E hz1 (by first | omega | (dsimp only;omega) | (dsimp only at *;omega)) (by first | omega | (dsimp only;omega) | (dsimp only at *;omega)) (s.p2_2 [1,0] Z)) λy3 hy3=>?_
  obtain ⟨f3,cs3,H3,z3⟩:=y3;obtain ⟨rf3,u3,g3,hz3,l3,b3d⟩:=hy3;dsimp only at rf3 u3 g3 hz3 l3 b3d|-;obtain ⟨w3a,w3b,w3c,w3d,w3e,w3f,w3g,rfl,_⟩:=fm7 rf3;have E3:=qN.up E u3.up;refine .bl Z (CA _ _ _ _ _ _ _) Z λb71=>?_;refine Sx.freezeBoxN λH6 u6 m6=>?_;refine .yw (.build Z (CE _ _ _ _))<|.sX iJ Z Z gC Z<|.zR<|?_
  refine y8 Z (.cell Z dP cU rfl) λW s=>?_;exact ⟨(.mk (UInt8.ofNat 12) [] [] 0 0 [] [f3],[iN 12,dV,dV,.int .i64 0,.int .i64 0,cL,.slice (dI b71) 1 1],H6,z3),⟨VF (i:=12) (a:=0) (b:=0) aS (rf3.up u6.up) rfl m6,u3.trans u6,⟨bW4 (GI aS) aS QJ g3.1,by rw [iA,bY4,Ex.counts];omega⟩,hz3.up u6.up,⟨by dsimp only;omega,by dsimp only;omega⟩,by dsimp only;omega⟩,Z,s.p2_1 [0] rfl⟩
 refine .cu (X:=Bool) [(0,_),(1,_),(4,_),(5,_),(38,_)] ⟨Z,Z,Z,Z,Z,Jt⟩ (λq73=>[(73,.bool q73)]) (λq73=>H) (λq73=>(.box b4 [.int .i64 0,dV,dV,.int .i64 0,.int .i64 0,cL,cL] 27::.box b [bJ ft.nm,.slice pf ft.flags.length cf,.slice pl ft.links.length cl,.slice pk ft.comps.length ck,.slice z1.tp z1.l.length z1.tc,.int .i64 z1.lf,iN z1.bd] 113::bs)) (λq73=>q73=false->k1≠21) ?_ λq73 hC=>?_
 ·
  refine .sr<|.yw (.eql Z Z)<|.aq Z<|.cd Z (λh73=>?_) (λh73=>?_)
  ·try simp only [dt] at h73
   exact .sk<|.tN<|.me _ ⟨Z,Jt⟩ ⟨Z,Z,Z,Z,Z,Jt⟩ (λ_ s=>s) (λh=>by have h2:=aJ h;omega)
  try simp only [df] at h73
  refine .sr<|.yw (.eql Z Z)<|.aq Z<|.cd Z (λh73=>?_) (λh73=>?_)
  ·try simp only [dt] at h73
   exact .sk<|.tN<|.me _ ⟨Z,Jt⟩ ⟨Z,Z,Z,Z,Z,Jt⟩ (λ_ s=>s) (λh=>by have h2:=aJ h;omega)
  try simp only [df] at h73
  exact .rg<|.yw (.eql Z Z)<|.aq Z<|.me _ ⟨Z,Jt⟩ ⟨Z,Z,Z,Z,Z,Jt⟩ (λ_ s=>s) (λh=>by have h2:=aJ h;omega)
 have e73q:=hC;refine .cd Z (λh73=>?_) (λh73=>?_)
 ·refine .sm Z<|.xs (X:=(Int64 × Int64) × Wz) Z (λW s=>WI E hz1  (s.p2_2 [1,0] Z)) λx2 hx2=>?_
  obtain ⟨⟨wa2,wb2⟩,z2⟩:=x2;obtain ⟨hz2,e2l,e2b⟩:=hx2;dsimp only at hz2 e2l e2b|-;refine .mv Z<|.yw (.extract Z Z)<|.yw (.extract Z Z)<|.a Z Z<|.a Z Z<|.ns<|.mv Z<|.yw (.rem Z Z aS (c:=((k1 % 2:Nat):Int)) (CW (n:=2) aS))<|.yw (.add Z Z (c:=((13+k1 % 2:Nat):Int)) ((w6 aD).trans aD))<|.mv Z<|.mv Z<|.mv Z<|.mv Z<|.yw (.add Z Z (c:=((d+1:Nat):Int)) ((w6 aD).trans aD))<|.xs (X:=Fm × List Value × Hp × Wz) Z (λW s=>ih E hz2 (by first | omega | (dsimp only;omega) | (dsimp only at *;omega)) (by first | omega | (dsimp only;omega) | (dsimp only at *;omega)) (s.p2_2 [0,1] Z)) λy3 hy3=>?_
  obtain ⟨f3,cs3,H3,z3⟩:=y3;obtain ⟨rf3,u3,g3,hz3,l3,b3d⟩:=hy3;dsimp only at rf3 u3 g3 hz3 l3 b3d|-;obtain ⟨w3a,w3b,w3c,w3d,w3e,w3f,w3g,rfl,_⟩:=fm7 rf3;have E3:=qN.up E u3.up;refine .bl Z (CA _ _ _ _ _ _ _) Z λb91=>?_;refine Sx.freezeBoxN λH6 u6 m6=>?_;refine .yw (.build Z (AX _ _ _ _ _ _))<|.sX iJ Z Z gC Z<|.zR<|?_
  refine y8 Z (.cell Z dP cU rfl) λW s=>?_;exact ⟨(.mk (UInt8.ofNat (13+k1 % 2)) [] [] wa2 wb2 [] [f3],[iN (13+k1 % 2),dV,dV,.int .i64 wa2.toInt,.int .i64 wb2.toInt,cL,.slice (dI b91) 1 1],H6,z3),⟨VF (i:=13+k1 % 2) aD (rf3.up u6.up) rfl m6,u3.trans u6,⟨bW4 (GI aD) aS QJ g3.1,by rw [iA,bY4,Ex.counts];omega⟩,hz3.up u6.up,⟨by dsimp only;omega,by dsimp only;omega⟩,by dsimp only;omega⟩,Z,s.p2_1 [0] rfl⟩
 have hq73:=e73q h73;refine .sr<|.yw (.eql Z Z)<|.aq Z<|.ce Z (λh93=>?_) (λh93=>?_)
 ·refine .sm Z<|.xs (X:=(Int64 × Int64) × Wz) Z (λW s=>WI E hz1  (s.p2_2 [1,0] Z)) λx2 hx2=>?_
  obtain ⟨⟨wa2,wb2⟩,z2⟩:=x2;obtain ⟨hz2,e2l,e2b⟩:=hx2;dsimp only at hz2 e2l e2b|-;refine .mv Z<|.yw (.extract Z Z)<|.yw (.extract Z Z)<|.a Z Z<|.a Z Z<|.ns<|.mv Z<|.mv Z<|.yw (.add Z Z (c:=((d+1:Nat):Int)) ((w6 aD).trans aD))<|.xs (X:=Fm × List Value × Hp × Wz) Z (λW s=>ih E hz2 (by first | omega | (dsimp only;omega) | (dsimp only at *;omega)) (by first | omega | (dsimp only;omega) | (dsimp only at *;omega)) (s.p2_2 [0,1] Z)) λy3 hy3=>?_
  obtain ⟨f3,cs3,H3,z3⟩:=y3;obtain ⟨rf3,u3,g3,hz3,l3,b3d⟩:=hy3;dsimp only at rf3 u3 g3 hz3 l3 b3d|-;obtain ⟨w3a,w3b,w3c,w3d,w3e,w3f,w3g,rfl,_⟩:=fm7 rf3;have E3:=qN.up E u3.up;refine .al lH Z λb11=>.sW .head Z Z gC (Rep.one rf3) Z<|.nt<|.sq<|.fL 9 [(0,0),(1,0),(2,0),(3,0),(4,0),(5,0),(6,3),(7,1),(8,0)]<|.mv Z<|.mv Z<|.yw (.loadW Z dP Hm Z)<|.mv Z<|.mv Z<|.yw (.add Z Z (c:=((d+1:Nat):Int)) ((w6 aD).trans aD))<|.x3 (X:=Fm × List Value × Hp × Wz) Z (λW s=>ih E3 hz3 (by first | omega | (dsimp only;omega) | (dsimp only at *;omega)) (by first | omega | (dsimp only;omega) | (dsimp only at *;omega)) (s.p3_3 [1,0,2] Z)) (λ_ _=>(.d3<|.yv (.loadW Z dP cU Z)<|.yv (.move Z)<|.yv (.move Z)<|.nl)) λy5 hy5=>?_
  obtain ⟨f5,cs5,H5,z5⟩:=y5;obtain ⟨rf5,u5,g5,hz5,l5,b5d⟩:=hy5;dsimp only at rf5 u5 g5 hz5 l5 b5d|-;obtain ⟨w5a,w5b,w5c,w5d,w5e,w5f,w5g,rfl,_⟩:=fm7 rf5;have E5:=qN.up E3 u5.up;refine .blF Z (PV _ _ _ _ _ _ _ _ _ _ _ _ _ _) Z λb111 H6 u6 m6=>.yw (.build Z (AX _ _ _ _ _ _))<|.fn (tl:=[_]) Z<|.sX iE Z Z gC Z<|.zR<|?_
  refine y8 Z (.cell Z dP iG rfl) λW s=>?_;exact ⟨(.mk (UInt8.ofNat 15) [] [] wa2 wb2 [] [f3,f5],[iN 15,dV,dV,.int .i64 wa2.toInt,.int .i64 wb2.toInt,cL,.slice (dI b111) 2 2],H6,z5),⟨aL3 (i:=15) aS (rf3.up (u5.trans u6).up) rfl (rf5.up u6.up) rfl m6,(u3.trans u5).trans u6,⟨cO8 (GI aS) g3.1 g5.1,by rw [iA,cP7,Ex.counts];omega⟩,hz5.up u6.up,⟨by dsimp only;omega,by dsimp only;omega⟩,by dsimp only;omega⟩,Z,s.p3_1 [0] rfl⟩
 have hix:z1.bd % 4<(kZ 107 4).length:=rC _ aS;refine .sk<|.bN<|.tN<|.cu (X:=Nat × Hp × Nat × List UInt8 × Option Addr × Nat) [(0,_),(1,_),(4,_),(5,_)] ⟨Z,Z,Z,Z,Jt⟩ (λv=>[(12,.pointer (some ⟨v.1,0,none⟩))]) (λv=>v.2.1) (λv=>(.box v.1 [iN (k1 - 1),bJ ((kZ 107 4)[z1.bd % 4]),dV,.int .i64 (((v.2.2.1:Nat):Int) - 1),.int .i64 0,cL,cL] 27::.box b4 [.int .i64 0,dV,dV,.int .i64 0,.int .i64 0,cL,cL] 27::.box b [bJ ft.nm,.slice pf ft.flags.length cf,.slice pl ft.links.length cl,.slice pk ft.comps.length ck,.slice (v.2.2.2.2.1) (v.2.2.2.1).length (v.2.2.2.2.2),.int .i64 (z1.lf),.int .i64 ((z1.bd:Nat))] 113::bs)) (λv=>HUp w0 H v.2.1/\v.2.2.1<5/\Wok v.2.1 ⟨v.2.2.2.1,v.2.2.2.2.1,v.2.2.2.2.2,z1.lf,z1.bd⟩/\((kZ 107 4)[z1.bd % 4]).length<=1000000) ?_ λv hC=>?_
 ·
  refine .ft (p:=.light _ _ (.light _ _ (.light _ _ (.light _ _ (.light _ _ (.light _ _ (.light _ _ (.light _ _ (.alt _ _ _ (.light _ _ (.light _ _ (.alt _ _ _ (.light _ _ (.light _ _ (.alt _ _ _ (.done) (.no)))) (.alt _ _ _ (.alt _ _ _ (.light _ _ (.light _ _ (.done))) (.no)) (.no))))) (.alt _ _ _ (.alt _ _ _ (.light _ _ (.light _ _ (.alt _ _ _ (.light _ _ (.light _ _ (.done))) (.no)))) (.no)) (.no))))))))))) 15 (.light 0 (.light 1 (.light 3 (.light 4 (.light 5 (.light 6 (.light 7 (.light 10 (.alt 2 0 (.light 8 (.light 9 (.alt 11 2 (.light 12 (.light 13 (.alt 14 0 (.done) (.no)))) (.alt 14 0 (.alt 11 2 (.light 12 (.light 13 (.done))) (.no)) (.no))))) (.alt 14 0 (.alt 2 0 (.light 8 (.light 9 (.alt 11 2 (.light 12 (.light 13 (.done))) (.no)))) (.no)) (.no))))))))))) fT fT Z<|.mv Z<|.yw (.sub Z Z (c:=((k1 - 1:Nat):Int)) ((w6 aD).trans aD))<|.mv Z<|.nC Z<|.fA Z jS<|.lD Z bQ cU Z<|.yw (.rem Z Z aS (c:=((z1.bd % 4:Nat):Int)) (CW (n:=4) aS))<|.mv Z<|.h ?_ (.h ?_ .nn)
  ·
   refine .xt (X:=Value) Z (λW s=>lZ H 107 4 aS W s.agr) λv9 H9 hv9 u9=>?_;obtain ⟨p9,c9,e9,_⟩:=hv9.sl;simp only [bV,dL] at e9;subst e9;have E9:=qN.up E u9.up;have hz9:=hz1.up u9.up;obtain ⟨bE,oE,cE,hpE,rE,lE,mE⟩:=hv9.elem (eR (f:=zU) hix);cases hpE;obtain rfl:=CV rE;have hnk:((kZ 107 4)[z1.bd % 4]).length<=1000000:=okS.1 (by unfold zU Rep at rE;exact rE.2.2);refine .yw (.indexSl fD Z Z (i:=z1.bd % 4) Z (by rw [aP];exact hix) (q:=oE+z1.bd % 4 * 1) aD)<|.yw (.loadM Z bT mE (k:=0) Z Z)<|.h ?_ (.h ?_ .nn)
   ·
    refine .x3 (X:=Nat × List UInt8 × Option Addr × Nat) Z (λW s=>aD1 E9 hz9 5 aS (s.p2_2 [1,0] Z)) (λ_ _=>(.yv (.loadM Z bT mE (k:=0) Z Z)<|.yv (.indexSl fD Z Z (i:=z1.bd % 4) Z (by rw [aP];exact hix) (q:=oE+z1.bd % 4 * 1) aD)<|.dn<|.yv (.rem Z Z aS (c:=((z1.bd % 4:Nat):Int)) (CW (n:=4) aS))<|.yv (.load Z bQ Hm Z)<|.yv (.fieldAddr Z jS)<|.yv (.nilCheck Z)<|.yv (.move Z)<|.yv (.sub Z Z (c:=((k1 - 1:Nat):Int)) ((w6 aD).trans aD))<|.yv (.move Z)<|.nl)) λx2 hx2=>?_;obtain ⟨k2,bl2,tp2,tc2⟩:=x2;obtain ⟨hk2,hz2⟩:=hx2;dsimp only at hk2 hz2|-;exact .yw (.sub Z Z (c:=((k2:Nat):Int) - 1) (w6 aD))<|.yw (.build Z (yX _ _ _))<|.h1<|.al lH Z λb12=>.fn (tl:=[_]) Z<|.sX .head Z Z gC Z<|.nt<|.me (b12,H9,k2,bl2,tp2,tc2) ⟨Z,Jt⟩ ⟨Z,Z,Z,Z,Jt⟩ (λ_ s=>(s.p3_3 [0,2,1] Z)) ⟨u9,hk2,hz2,hnk⟩
   refine .al lH Z λb12=>.h1<|.x3 (X:=Nat × List UInt8 × Option Addr × Nat) Z (λW s=>aD1 E9 hz9 5 aS (s.p3_3 [2,0,1] Z)) (λ_ _=>(.yv (.loadM Z bT mE (k:=0) Z Z)<|.yv (.indexSl fD Z Z (i:=z1.bd % 4) Z (by rw [aP];exact hix) (q:=oE+z1.bd % 4 * 1) aD)<|.dn<|.yv (.rem Z Z aS (c:=((z1.bd % 4:Nat):Int)) (CW (n:=4) aS))<|.yv (.load Z bQ Hm Z)<|.yv (.fieldAddr Z jS)<|.yv (.nilCheck Z)<|.yv (.move Z)<|.yv (.sub Z Z (c:=((k1 - 1:Nat):Int)) ((w6 aD).trans aD))<|.yv (.move Z)<|.nl)) λx2 hx2=>?_
   obtain ⟨k2,bl2,tp2,tc2⟩:=x2;obtain ⟨hk2,hz2⟩:=hx2;dsimp only at hk2 hz2|-;exact .yw (.sub Z Z (c:=((k2:Nat):Int) - 1) (w6 aD))<|.yw (.build Z (yX _ _ _))<|.fn (tl:=[_]) Z<|.sX iJ Z Z gC Z<|.nt<|.me (b12,H9,k2,bl2,tp2,tc2) ⟨Z,Jt⟩ ⟨Z,Z,Z,Z,Jt⟩ (λ_ s=>(s.p3_3 [1,2,0] Z)) ⟨u9,hk2,hz2,hnk⟩
  refine .al lH Z λb12=>.h1<|.xt (X:=Value) Z (λW s=>lZ H 107 4 aS W s.agr) λv9 H9 hv9 u9=>?_
  obtain ⟨p9,c9,e9,_⟩:=hv9.sl;simp only [bV,dL] at e9;subst e9;have E9:=qN.up E u9.up;have hz9:=hz1.up u9.up;obtain ⟨bE,oE,cE,hpE,rE,lE,mE⟩:=hv9.elem (eR (f:=zU) hix);cases hpE;obtain rfl:=CV rE;have hnk:((kZ 107 4)[z1.bd % 4]).length<=1000000:=okS.1 (by unfold zU Rep at rE;exact rE.2.2);refine .yw (.indexSl fD Z Z (i:=z1.bd % 4) Z (by rw [aP];exact hix) (q:=oE+z1.bd % 4 * 1) aD)<|.yw (.loadM Z bT mE (k:=0) Z Z)<|.h1<|.x3 (X:=Nat × List UInt8 × Option Addr × Nat) Z (λW s=>aD1 E9 hz9 5 aS (s.p3_3 [2,0,1] Z)) (λ_ _=>(.yv (.loadM Z bT mE (k:=0) Z Z)<|.yv (.indexSl fD Z Z (i:=z1.bd % 4) Z (by rw [aP];exact hix) (q:=oE+z1.bd % 4 * 1) aD)<|.dn<|.yv (.rem Z Z aS (c:=((z1.bd % 4:Nat):Int)) (CW (n:=4) aS))<|.yv (.load Z bQ Hm Z)<|.yv (.fieldAddr Z jS)<|.yv (.nilCheck Z)<|.yv (.move Z)<|.yv (.sub Z Z (c:=((k1 - 1:Nat):Int)) ((w6 aD).trans aD))<|.yv (.move Z)<|.nl)) λx2 hx2=>?_
  obtain ⟨k2,bl2,tp2,tc2⟩:=x2;obtain ⟨hk2,hz2⟩:=hx2;dsimp only at hk2 hz2|-;exact .yw (.sub Z Z (c:=((k2:Nat):Int) - 1) (w6 aD))<|.yw (.build Z (yX _ _ _))<|.fn (tl:=[_]) Z<|.sX iJ Z Z gC Z<|.nt<|.me (b12,H9,k2,bl2,tp2,tc2) ⟨Z,Jt⟩ ⟨Z,Z,Z,Z,Jt⟩ (λ_ s=>(s.p3_3 [1,2,0] Z)) ⟨u9,hk2,hz2,hnk⟩
 obtain ⟨b12,H9,k2,bl2,tp2,tc2⟩:=v;obtain ⟨u9,hk2,hz2,hnk⟩:=hC;dsimp only at u9 hk2 hz2 hnk|-;have E9:=qN.up E u9.up;refine .sq<|.fL 6 [(0,0),(1,0),(2,0),(3,3),(4,0),(5,0)]<|.fA Z iX<|.lD Z bQ Hm Z<|.mv Z<|.x3 (X:=Nat × Wz) Z (λW s=>rH E9 hz2 4 aS (s.p3_3 [2,0,1] Z)) (λ_ _=>(.dn<|.yv (.load Z bQ cU Z)<|.yv (.fieldAddr Z iX)<|.nl)) λx4 hx4=>?_
 obtain ⟨k4,z4⟩:=x4;obtain ⟨hk4,hz4,e4l,e4b⟩:=hx4;dsimp only at hk4 hz4 e4l e4b|-;refine .yw (.add Z Z (c:=((k2:Nat):Int) - 1+(k4:Nat)) (w6 aD))<|.fA Z iW<|.fn (tl:=[_]) Z<|.st iJ Z Z iM Z (nb Z) Z<|.nt<|.cu (X:=List Ex × Value × Hp × Wz) [(0,_),(1,_),(4,_),(12,_)] ⟨Z,Z,Z,Z,Jt⟩ (λe=>[]) (λe=>e.2.2.1) (λe=>(.box b12 [iN (k1 - 1),bJ ((kZ 107 4)[z1.bd % 4]),dV,.int .i64 (((k2:Nat):Int) - 1),.int .i64 (((k2:Nat):Int) - 1+(k4:Nat)),e.2.1,cL] 27::.box b4 [.int .i64 0,dV,dV,.int .i64 0,.int .i64 0,cL,cL] 27::.box b [bJ ft.nm,.slice pf ft.flags.length cf,.slice pl ft.links.length cl,.slice pk ft.comps.length ck,.slice e.2.2.2.tp e.2.2.2.l.length e.2.2.2.tc,.int .i64 e.2.2.2.lf,iN e.2.2.2.bd] 113::bs)) (λe=>(∀ x∈e.1,gdE x=true)/\e.1.length<=1/\Ex.counts e.1<=1/\Rep e.2.2.1 (.seq 4 (e.1.map (dEx .i64))) [e.2.1]/\HUp w0 H9 e.2.2.1/\Wok e.2.2.1 e.2.2.2/\e.2.2.2.lf=z4.lf/\e.2.2.2.bd=z4.bd) ?_ λe hC=>?_
 ·
  refine .sm Z<|.yw (.eql Z Z)<|.nt<|.ce Z (λh134=>?_) (λh134=>?_)
  ·refine .rg<|.mv Z<|.xs (X:=Nat × Wz) Z (λW s=>rH E9 hz4 4 aS (s.p3_3 [0,1,2] Z)) λx6 hx6=>?_
   obtain ⟨k6,z6⟩:=x6;obtain ⟨hk6,hz6,e6l,e6b⟩:=hx6;dsimp only at hk6 hz6 e6l e6b|-;refine .yw (.build Z (CB _ _))<|.bl Z (gH _ _ _ _) Z λb138=>?_
   refine Sx.freezeBoxN λH8 u8 m8=>?_;exact .fA Z eZ<|.st iJ Z Z KG Z (nb Z) Z<|.nt<|.me ([.mk 1 [] (Int64.ofNat k6) []],.slice (dI b138) 1 1,H8,z6) trivial ⟨Z,Z,Z,Z,Jt⟩ (λ_ s=>(s.p3_3 [1,2,0] Z)) ⟨cG2 (gdx (k:=0) (lfk 0) aS),(by decide:1<=1),by rw [bK8,cP3];exact aY _,Rep.mk (n:=1) (c:=1) m8 (dT.single (bE6 (n:=k6) aD) Z) Z (aY _) aS,u8,hz6.up u8.up,e6l,e6b⟩
  exact .sk<|.tN<|.me ([],cL,H9,z4) trivial ⟨Z,Z,Z,Z,Jt⟩ (λ_ s=>(s.p3_3 [1,2,0] Z)) ⟨QJ,aN _,by rw [Ex.counts];exact aN _,Rep.empty (p:=none) (c:=0) aS,.refl,hz4,Z,Z⟩
 obtain ⟨ex8,s8,H8,z8⟩:=e;obtain ⟨hge8,hl8,hc8,hx8,u8,hz8,e8l,e8b⟩:=hC;dsimp only at hge8 hl8 hc8 hx8 u8 hz8 e8l e8b|-;obtain ⟨p8,c8,e8,_⟩:=hx8.sl;simp only [bV,dL,aP] at e8;subst e8;have E8:=qN.up E9 u8.up;refine .sq<|.sm Z<|.nC Z<|.fA Z jS<|.lD Z bQ iG Z<|.yw (.geq Z Z)<|.nt<|.ce Z (λh144=>?_) (λh144=>?_)
 ·refine .sm Z<|.xs (X:=Fm × List Value × Hp × Wz) Z (λW s=>bN3 E8 hz8 1 aS (by first | omega | (dsimp only;omega) | (dsimp only at *;omega)) (by first | omega | (dsimp only;omega) | (dsimp only at *;omega)) (s.p3_3 [2,0,1] Z)) λy3 hy3=>?_
  obtain ⟨f3,cs3,H3,z3⟩:=y3;obtain ⟨rf3,u3,g3,hz3,l3,b3d⟩:=hy3;dsimp only at rf3 u3 g3 hz3 l3 b3d|-;obtain ⟨w3a,w3b,w3c,w3d,w3e,w3f,w3g,rfl,_⟩:=fm7 rf3;have E3:=qN.up E8 u3.up;refine .sW iE Z Z gC (Rep.one rf3) Z<|.nt<|.rt<|.tR<|?_
  refine y8 Z (.cell Z dP iG rfl) λW s=>?_;exact ⟨(f3,[w3a,w3b,w3c,w3d,w3e,w3f,w3g],H3,z3),⟨rf3,(u9.trans u8).trans u3,⟨g3.1,aZ g3.2 aD⟩,hz3,⟨by dsimp only;omega,by dsimp only;omega⟩,by dsimp only;omega⟩,Z,s.p3_1 [0] rfl⟩
 have hzp:Wok H8 (⟨z8.l,z8.tp,z8.tc,z8.lf,z8.bd+1⟩:Wz):=⟨hz8.rep,by have:=hz8.bd;dsimp only;omega⟩;refine .sk<|.tN<|.sm Z<|.nC Z<|.fA Z jS<|.lD Z bQ iG Z<|.yw (.add Z Z (c:=((z8.bd+1:Nat):Int)) ((w6 aD).trans aD))<|.nC Z<|.fA Z jS<|.st iE Z Z iM Z (nb Z) Z<|.ns<|.mv Z<|.mv Z<|.yw (.add Z Z (c:=((d+1:Nat):Int)) ((w6 aD).trans aD))<|.xs (X:=Fm × List Value × Hp × Wz) Z (λW s=>ih E8 hzp (by first | omega | (dsimp only;omega) | (dsimp only at *;omega)) (by first | omega | (dsimp only;omega) | (dsimp only at *;omega)) (s.p3_3 [2,0,1] Z)) λy7 hy7=>?_
 obtain ⟨f7,cs7,H7,z7⟩:=y7;obtain ⟨rf7,u7,g7,hz7,l7,b7d⟩:=hy7;dsimp only at rf7 u7 g7 hz7 l7 b7d|-;obtain ⟨w7a,w7b,w7c,w7d,w7e,w7f,w7g,rfl,_⟩:=fm7 rf7;have E7:=qN.up E8 u7.up;refine .bl Z (CA _ _ _ _ _ _ _) Z λb158=>?_;refine Sx.freezeBoxN λH6 u6 m6=>?_;refine .fA Z jL<|.st iJ Z Z aU9 Z (nb Z) Z<|.ns<|.mv Z<|.nC Z<|.fA Z jS<|.lD Z bQ Hm Z<|.yw (.sub Z Z (c:=((z7.bd - 1:Nat):Int)) ((w64 (by have:=hz7.bd;omega) (by have:=hz7.bd;omega)).trans aD))<|.nC Z<|.fA Z jS<|.st .head Z Z iM Z (nb Z) Z<|.ns<|.yw (.loadW Z dP cU Z)<|.sX iE Z Z gC Z<|.nt<|.rt<|?_
 refine y8 Z (.cell Z dP iG rfl) λW s=>?_;exact ⟨(.mk (UInt8.ofNat (k1 - 1)) ((kZ 107 4)[z1.bd % 4]) [] (Int64.ofInt (((k2:Nat):Int) - 1)) (Int64.ofInt (((k2:Nat):Int) - 1+(k4:Nat))) ex8 [f7],[iN (k1 - 1),bJ ((kZ 107 4)[z1.bd % 4]),dV,.int .i64 (((k2:Nat):Int) - 1),.int .i64 (((k2:Nat):Int) - 1+(k4:Nat)),.slice p8 ex8.length c8,.slice (dI b158) 1 1],H6,⟨z7.l,z7.tp,z7.tc,z7.lf,z7.bd - 1⟩),⟨bX1 (i:=k1 - 1) (ex:=ex8) aD hnk aD aD ((hx8.up u7.up).up u6.up) (rf7.up u6.up) rfl m6,((u9.trans u8).trans u7).trans u6,⟨bW4 (GI aD) aD hge8 g7.1,by rw [iA,bY4];omega⟩,⟨(hz7.up u6.up).rep,by have:=hz7.bd;dsimp only;omega⟩,⟨by dsimp only;omega,by dsimp only;omega⟩,by dsimp only;omega⟩,Z,s.p3_1 [0] rfl⟩
theorem LE:∀ k d,d+k=4->cB6 d k
 | 0,d,h=>IA d 0 h (λk' e=>by cases e)
 | k+1,d,h=>IA d (k+1) h (λk' e=>by
  have e1:k=k':=Nat.succ.inj e;subst e1;exact @LE k (d+1) aD)
theorem LT (x00 x01 x02 x03:Value) (x1p:Option Addr) (x1n x1c:Nat) (x2:Int):eX prg 113 [(0,.agg [x00,x01,x02,x03].toArray),(1,.slice x1p x1n x1c),(2,.int .i64 x2)]=some [x00,x01,x02,x03,.slice x1p x1n x1c,.int .i64 x2,.int .i64 0]:=by kernel_rfl
theorem cE7 (l:List UInt8):l.take (min l.length 60)=l.take 60:=by
 by_cases h:l.length<=60
 ·rw [iK h,bW,fX h]
 ·rw [pH aD]
variable {M:Mk}
theorem cA6 (hA:∀ a∈M.ars,∀ n∈a,n<=2) (i k:Nat):arN M i k<=2:=by
 unfold arN
 by_cases h:i<M.ars.length
 ·rw [List.getD_eq_getElem?_getD (l:=M.ars),List.getElem?_eq_getElem h,kR]
  by_cases h2:k<(M.ars[i]).length
  ·rw [List.getD_eq_getElem?_getD,List.getElem?_eq_getElem h2,kR];exact hA _ (aX h) _ (aX h2)
  ·rw [List.getD_eq_getElem?_getD,List.getElem?_eq_none aD];exact aN _
 ·rw [List.getD_eq_getElem?_getD (l:=M.ars),List.getElem?_eq_none aD];simp
theorem bI0 (M:Mk) (hA:∀ a∈M.ars,∀ n∈a,n<=2):∀ (l:List Cd) (k:Nat),∀ h∈wR M k l,h.ps.length<=2
 | [],_,h,hh=>by cases hh
 | c::r,k,h,hh=>by
  rcases bM.1 hh with rfl | hh
  ·show (kZ 112 (arN M M.own k)).length<=2;rw [jY];exact cA6 hA _ _
  ·exact bI0 M hA r (k+1) h hh
theorem cJ0 {ars:List (List Nat)} {nf:Nat} (hA:∀ a∈ars,∀ n∈a,n<=2) (x:Prt):Gcp (bM2 ars nf i x) where
 nm:=by show (tU i).length<=100;exact (by decide:1<=100)
 vars:=by
  show 0<(FG x).length/\(FG x).length<=100;unfold FG rO vF;simp only [aC,WK,WJ,aF,aH];omega
 vnm:=λv hv=>by
  have hv:v∈FG x:=hv;unfold FG QC TU at hv;simp only [cJ,jX,bM,List.not_mem_nil,or_false] at hv;rcases hv with (⟨k,_,rfl⟩ | rfl) | ⟨k,_,rfl⟩
  ·exact (by decide:2<=100)
  ·decide
  ·exact (by decide:2<=100)
 ints:=by
  refine ⟨List.countP_pos_iff.2 ⟨vrI 0,?_,Z⟩,List.countP_le_length⟩;show vrI 0∈FG x;unfold FG QC;exact kE _ (kE _ (jX.2 ⟨0,bZ.2 (by unfold rO;omega),Z⟩))
 vers:=by
  show (CO (mkP ars nf i x) x).length<=100/\∃ v∈CO (mkP ars nf i x) x,v≠[];unfold CO;refine ⟨by split <;> simp,_,bH ..,λe=>?_⟩;have h:=AN (mkP ars nf i x) (JQ x) 0;rw [e] at h;have h:0=(JQ x).length:=h;unfold JQ at h
  split at h
  ·cases h
  ·rw [dG] at h;omega
 hds:=λv hv=>by
  have hv:v∈CO (mkP ars nf i x) x:=hv;have key:∀ (l:List Cd),l.length<=3->(wR (mkP ars nf i x) 0 l).length<=100/\∀ h∈wR (mkP ars nf i x) 0 l,h.ps.length<=2:=λl hl=>⟨by rw [AN];omega,bI0 (mkP ars nf i x) hA l 0⟩
  have fst3:(JQ x).length<=3:=by
   unfold JQ
   split
   ·exact (by decide:1<=3)
   ·rw [dG];omega
  unfold CO at hv;rcases bM.1 hv with rfl | hv
  ·exact key _ fst3
  ·split at hv
   ·rw [bS.1 hv];exact key _ (by rw [dG];omega)
   ·cases hv
theorem PH (p:Pln):(0<(KB p).comps.length)/\∀ c∈(KB p).comps,Gcp c:=by
 constructor
 ·show 0<(DN _ _ (fN p)).length;rw [SY];exact (RY p).1
 ·intro c hc;have hc:c∈DN (sM p) (p.flags.toNat % 3) (fN p):=hc;unfold DN at hc;obtain ⟨i,hi,rfl⟩:=List.mem_mapIdx.1 hc
  exact cJ0 (λa ha n hn=>by
   unfold sM at ha;obtain ⟨y,_,rfl⟩:=jX.1 ha;exact aN4 hn) _
set_option maxHeartbeats 1000000 in
theorem UR (H:Hp) (p:Pln) (l:List UInt8) (tp:Option Addr) (tc:Nat) (cs:List Value) (w:World) (h:Rep H (dFt .i64 (KB p)) cs) (hb:Rep H (.seq 1 (l.map dU8)) [.slice tp l.length tc]) (hA:Agr H w) :
 Calls prg 27 #[.agg cs.toArray,.slice tp l.length tc] w λr w'=>∃ (x:List Value) (H':Hp),(∃ g:Fm,Rep H' (dFm .i64 g) x/\gdF g=true/\g.count<=40000)/\r=.returned (.agg x.toArray)/\wV H w H' w':=by
 obtain ⟨pf,cf,pl,cl,pk,ck,rfl,hnm,hfl,hlk,hcm⟩:=bW8 h;have E:qN H (KB p) pf cf pk ck:=⟨hfl,hcm,(PH p).1,(PH p).2⟩
 have hz:Wok H (⟨l.take 60,(if tc=0 then tp else tp.map λq=>q.add 0),tc,36,0⟩:Wz):=by
  refine ⟨?_,aN _⟩;have h1:=AH hb (hi:=min l.length 60) aD;have e1:(l.take 60).length=min l.length 60:=by rw [dG];omega
  rw [<-pU,show l.take (min l.length 60)=l.take 60 from cE7 l,<-e1] at h1;exact h1
 have hDF:DF 4=666:=rfl;have hb1:(-100000:Int)<=(⟨l.take 60,(if tc=0 then tp else tp.map λq=>q.add 0),tc,36,0⟩:Wz).lf - (DF 4:Nat):=by rw [hDF];show (-100000:Int)<=36 - 666;decide
 have hb2:(⟨l.take 60,(if tc=0 then tp else tp.map λq=>q.add 0),tc,36,0⟩:Wz).lf<=100:=by show (36:Int)<=100;decide
 have e60:(l.take 60).length=min l.length 60:=by rw [dG];omega
 refine Sx.enter (H:=H) func27 rfl ntmps27 rfl hA ?_;refine .sr<|.bx Z Z Z λb2=>.al lH Z λb4=>.nt<|.sq<|.fL 8 [(0,0),(1,0),(2,0),(3,0),(4,0),(5,0),(6,0),(7,1)]<|.yw (.loadW Z QB cU Z)<|.mv Z<|.mv Z<|.yw (.lenSl rP Z)<|.yw (.xl Z (λW s=>AL H l.length 60 W s.agr))<|.yw (.cutHi2 rP Z Z (h:=(l.take 60).length) (by rw [e60]) (by have:=hb.len.2.1;omega))<|.yw (.build Z (LT _ _ _ _ _ _ _ _))<|.bx Z Z Z λb=>.fn (tl:=[_]) Z<|.a Z Z<|.ns<|.mv Z<|.xs (X:=Fm × List Value × Hp × Wz) Z (λW s=>(LE 4 0 Z) E hz hb1 hb2 (s.p3_3 [0,1,2] Z)) λy3 hy3=>?_
 obtain ⟨f3,cs3,H3,z3⟩:=y3;obtain ⟨rf3,u3,g3,hz3,l3,b3d⟩:=hy3;dsimp only at rf3 u3 g3 hz3 l3 b3d|-;obtain ⟨w3a,w3b,w3c,w3d,w3e,w3f,w3g,rfl,_⟩:=fm7 rf3;have E3:=qN.up E u3.up;refine .sW iJ Z Z gC (Rep.one rf3) Z<|.nt<|.rt<|?_
 exact y8 Z (.cell Z dP cU rfl) λW s=>⟨_,H3,⟨f3,rf3,g3.1,aZ g3.2 aS⟩,Z,u3.grow s⟩
structure Tkf (H:Hp) (l:Tks) (tp:Option Addr) (tc:Nat):Prop where
 rep:Rep H (.seq 3 (l.map (dTk .u8))) [.slice tp l.length tc]
 gd:Tgd l
 short:∀ t∈l,t.t.length<=400000
 few:l.length<=600000
 num:∀ t∈l,t.k=3->pre iZ t.t=t.t.length/\¬ t.t=[]
variable {H':Hp}
theorem Tkf.up {l:Tks} {tp:Option Addr} {tc:Nat} (h:Tkf H l tp tc) (u:Up H H'):Tkf H' l tp tc:=⟨h.rep.up u,h.gd,h.short,h.few,h.num⟩
theorem aA7 {l:Tks} (h:i<l.length):l[i]=tkf l i:=by unfold tkf;rw [List.getD_eq_getElem?_getD,List.getElem?_eq_getElem h];rfl
theorem UA {l:Tks} (h:i<l.length):tkf l i∈l:=by rw [<-aA7 h];exact aX h
variable {q:Rq}
theorem gW {l:Tks} {tp:Option Addr} {tc:Nat} (K:Tkf H l tp tc) (hq:q.i<l.length):(q.nmV l).length<=400000:=by
 unfold Rq.nmV
 split
 ·exact K.short _ (UA hq)
 ·exact aN _
theorem aE7 (a b c:Value):∀ W,(Instr.field 108 (.agg [a,b,c].toArray) 0).run prg W=.ok a W:=λ_=>by kernel_rfl
theorem cJ8 (a b c:Value):∀ W,(Instr.field 108 (.agg [a,b,c].toArray) 2).run prg W=.ok c W:=λ_=>by kernel_rfl
variable {m:Nat}
theorem k8 {k:UInt8} (hm:m<256):decide (((k.toNat:Nat):Int)=(m:Int))=decide (k=UInt8.ofNat m):=by
 rw [aQ,aB,aB]
 constructor
 ·intro e;exact aR.1 (by rw [dH hm];omega)
 ·intro e;rw [e,dH hm]
theorem k80 {k:UInt8} :decide (((k.toNat:Nat):Int)=0)=decide (k=0):=k8 (m:=0) aS
theorem k81 {k:UInt8} :decide (((k.toNat:Nat):Int)=1)=decide (k=1):=k8 (m:=1) aS
theorem k82 {k:UInt8} :decide (((k.toNat:Nat):Int)=2)=decide (k=2):=k8 (m:=2) aS
theorem k84 {k:UInt8} :decide (((k.toNat:Nat):Int)=4)=decide (k=4):=k8 (m:=4) aS
variable {n:Nat}
theorem er0:decide (((n:Nat):Int)=0)=decide (n=0):=by rw [aQ,aB,aB];omega
variable {ro rv:Value}
theorem zD {l:Tks} {tp:Option Addr} {tc:Nat} {rd dn bd:Bool} (K:Tkf H l tp tc) (hq:q.i<l.length) (s:St H w0 (.box b [.slice tp l.length tc,iN q.i,ro,rv,.bool rd,.bool dn,.bool bd,iN q.off,iN q.er] 102::bs) W) :
 Calls prg 98 #[.pointer (dI b)] W λe W'=>∃ _:Unit,(True)/\e=.returned (.agg (cTk .u8 (tkf l q.i)).toArray)/\St H w0 (.box b [.slice tp l.length tc,iN q.i,ro,rv,.bool rd,.bool dn,.bool bd,iN q.off,iN q.er] 102::bs) W':=by
 have hcap:=K.rep.cap;obtain ⟨bE,oE,cE,hpE,rE,lE,mE⟩:=K.rep.elem (eR (f:=dTk .u8) hq);cases hpE;rw [aA7 hq] at rE;obtain ⟨rfl,_⟩:=MA rE;refine iB func98 rfl ntmps98 rfl s ?_;refine .sr<|.al yQ Z λb2=>.nt<|.sq<|.fL 10 [(0,0),(1,0),(2,0),(3,0),(4,0),(5,0),(6,0),(7,0),(8,0),(9,0)]<|.mv Z<|.nC Z<|.fA Z qX<|.lD Z IV cU Z<|.mv Z<|.nC Z<|.fA Z iD<|.lD Z bQ cU Z<|.yw (.indexSl aO0 Z Z Z aD (q:=oE+q.i * 3) Z)<|.yw (.loadMW Z KO mE Z)<|.fn (tl:=[_]) Z<|.sW .head Z Z yT (by simp [cTk,Value.oneCell',bJ]) Z<|.nt<|.rt<|?_
 refine y8 Z (.cell Z KO Hm rfl) λW s=>?_;exact ⟨(),Jt,Z,s.p2_1 [1] rfl⟩
theorem rU {l:Tks} {tp:Option Addr} {tc:Nat} {rd dn bd:Bool} (K:Tkf H l tp tc) (hq:q.i<l.length) (c:Nat) (s:St H w0 (.box b [.slice tp l.length tc,iN q.i,ro,rv,.bool rd,.bool dn,.bool bd,iN q.off,iN q.er] 102::bs) W) :
 Calls prg 104 #[.pointer (dI b),iN c] W λe W'=>∃ _:Unit,(True)/\e=.returned (.tuple #[])/\St H w0 (.box b [.slice tp l.length tc,iN ((q.fail l c).i),ro,rv,.bool rd,.bool dn,.bool bd,iN ((q.fail l c).off),iN ((q.fail l c).er)] 102::bs) W':=by
 refine iB func104 rfl ntmps104 rfl s ?_;refine .sm Z<|.nC Z<|.fA Z jD<|.lD Z rW Hm Z<|.yw (.eql Z Z)<|.nt<|.ce Z (λh8=>?_) (λh8=>?_)
 ·have h0:q.er=0:=aD
  have e1:q.fail l c=⟨q.i,(tkf l q.i).o,c⟩:=by unfold Rq.fail;rw [aK h0]
  rw [e1];refine .rg<|.mv Z<|.mv Z<|.mv Z<|.mv Z<|.xs (X:=Unit) Z (λW s=>zD K hq  (s.p1_1 [0] Z)) λ_ _=>.yw (.fld Z (cJ8 _ _ _))<|.nC Z<|.fA Z jD<|.st .head Z Z aU8 Z (nb Z) Z<|.nC Z<|.fA Z tD<|.st .head Z Z iM Z (nb Z) Z<|.nl<|?_
  refine jM (.inr Z) rfl .nil rfl λW s=>⟨(),Jt,Z,?_⟩;exact s.p1_1 [0] rfl
 have h0:¬ q.er=0:=aD
 have e1:q.fail l c=q:=by unfold Rq.fail;rw [aA h0]
 rw [e1];refine .sk<|?_
 refine jM (.inr Z) rfl .nil rfl λW s=>⟨(),Jt,Z,?_⟩;exact s.p1_1 [0] rfl
theorem GP {l:Tks} {tp:Option Addr} {tc:Nat} {rd dn bd:Bool} (K:Tkf H l tp tc) (hq:q.i<l.length) (w:Str) (s:St H w0 (.box b [.slice tp l.length tc,iN q.i,ro,rv,.bool rd,.bool dn,.bool bd,iN q.off,iN q.er] 102::bs) W) :
 Calls prg 100 #[.pointer (dI b),bJ w] W λe W'=>∃ _:Unit,(True)/\e=.returned (.bool (q.is l w))/\St H w0 (.box b [.slice tp l.length tc,iN q.i,ro,rv,.bool rd,.bool dn,.bool bd,iN q.off,iN q.er] 102::bs) W':=by
 refine iB func100 rfl ntmps100 rfl s ?_;refine .sr<|.a Z Z<|.ns<|.mv Z<|.xs (X:=Unit) Z (λW s=>zD K hq  (s.p1_1 [0] Z)) λ_ _=>.al yQ Z λb5=>.sW .head Z Z yT (by simp [cTk,Value.oneCell',bJ]) Z<|.ns<|.fA Z jT<|.lD Z pP Hm Z<|.yw (.eql Z Z)<|.mv Z<|.b2 (λh11=>?_) (λh11=>?_)
 ·refine .g3<|.pT Z<|.mv Z<|.gy (.fieldAddr Z lM)<|.gy (.load Z bT Hm Z)<|.gy (.move Z)<|.gy (.eqS Z Z)<|.pT Z<|.az Z<|?_
  refine y9 Z Z λW s=>?_
  (exact ⟨(),Jt,(by unfold Rq.is;rw [<-k82,<-k84,h11];first | rfl | (rw [aO]) | (rw [Bool.or_true,aO])),s.p2_1 [1] rfl⟩)
 refine .gy (.fieldAddr Z jT)<|.gy (.load Z pP Hm Z)<|.gy (.eql Z Z)<|.pF Z<|.mv Z<|.b2 (λh16=>?_) (λh16=>?_)
 ·refine .gy (.fieldAddr Z lM)<|.gy (.load Z bT Hm Z)<|.gy (.move Z)<|.gy (.eqS Z Z)<|.pT Z<|.az Z<|?_
  refine y9 Z Z λW s=>?_
  (exact ⟨(),Jt,(by unfold Rq.is;rw [<-k82,<-k84,h11,h16];first | rfl | (rw [aO]) | (rw [Bool.or_true,aO])),s.p2_1 [1] rfl⟩)
 refine .g4<|.pF Z<|.az Z<|?_
 refine y9 Z Z λW s=>?_
 (exact ⟨(),Jt,(by unfold Rq.is;rw [<-k82,<-k84,h11,h16];first | rfl | (rw [aO]) | (rw [Bool.or_true,aO])),s.p2_1 [1] rfl⟩)
theorem fC {l:Tks} {tp:Option Addr} {tc:Nat} {rd dn bd:Bool} (K:Tkf H l tp tc) (hq:q.i<l.length) (w:Str) (s:St H w0 (.box b [.slice tp l.length tc,iN q.i,ro,rv,.bool rd,.bool dn,.bool bd,iN q.off,iN q.er] 102::bs) W) :
 Calls prg 107 #[.pointer (dI b),bJ w] W λe W'=>∃ _:Unit,(True)/\e=.returned (.bool (q.ac l w))/\St H w0 (.box b [.slice tp l.length tc,iN ((q.acS l w).i),ro,rv,.bool rd,.bool dn,.bool bd,iN ((q.acS l w).off),iN ((q.acS l w).er)] 102::bs) W':=by
 have hcap:=K.rep.cap;refine iB func107 rfl ntmps107 rfl s ?_;refine .sr<|.aq Z<|.sq<|.sm Z<|.nC Z<|.fA Z jD<|.lD Z rW Hm Z<|.yw (.neq Z Z)<|.mv Z<|.b2 (λh10=>?_) (λh10=>?_)
 ·have h0:¬ q.er=0:=by have:=aI h10;omega
  have e3:q.ac l w=false:=aN8 h0;have e1:q.acS l w=q:=by unfold Rq.acS;rw [aA (by rw [e3];decide)]
  rw [e1];refine .g4<|.pT Z<|.nt<|.cT Z<|.sr<|.az Z<|.tR<|?_
  refine y9 Z Z λW s=>?_;exact ⟨(),Jt,(by rw [e3]),s.p1_1 [0] rfl⟩
 have h0:q.er=0:=by have:=aJ h10;omega
 have ea:q.ac l w=q.is l w:=(GQ h0).symm;refine .gy (.move Z)<|.gy (.move Z)<|.gd Z Z<|.xs (X:=Unit) Z (λW s=>GP K hq w (s.p1_1 [0] Z)) λ_ _=>.gy (.not Z)<|.pF Z<|.nt<|.cd Z (λh15=>?_) (λh15=>?_)
 ·have e3:q.ac l w=false:=by rw [ea];simpa using h15
  have e1:q.acS l w=q:=by unfold Rq.acS;rw [aA (by rw [e3];decide)]
  rw [e1];refine .sr<|.az Z<|.tR<|?_
  refine y9 Z Z λW s=>?_;exact ⟨(),Jt,(by rw [e3]),s.p1_1 [0] rfl⟩
 have e3:q.ac l w=true:=by rw [ea];simpa using h15
 have e1:q.acS l w=q.nx:=by unfold Rq.acS;rw [aK e3]
 rw [e1];have hi:=dN K.gd.last hq e3;have hi2:q.nx.i=q.i+1:=rfl;refine .sk<|.tN<|.sm Z<|.nC Z<|.fA Z iD<|.lD Z bQ Hm Z<|.yw (.add Z Z (c:=((q.nx.i:Nat):Int)) ((w6 aD).trans (by show _=((q.i+1:Nat):Int);omega)))<|.nC Z<|.fA Z iD<|.st .head Z Z iM Z (nb Z) Z<|.ns<|.az Z<|?_
 refine y9 Z Z λW s=>?_;exact ⟨(),Jt,(by rw [e3]),s.p1_1 [0] rfl⟩
variable {w:Str}
theorem lV {l:Tks} (h:q.ac l w=true):q.acS l w=q.nx:=by unfold Rq.acS;rw [aK h]
theorem mC {l:Tks} (h:q.ac l w=false):q.acS l w=q:=by unfold Rq.acS;rw [aA (by rw [h];decide)]
theorem sS {l:Tks} {tp:Option Addr} {tc:Nat} {rd dn bd:Bool} (K:Tkf H l tp tc) (hq:q.i<l.length) (w:Str) (s:St H w0 (.box b [.slice tp l.length tc,iN q.i,ro,rv,.bool rd,.bool dn,.bool bd,iN q.off,iN q.er] 102::bs) W) :
 Calls prg 114 #[.pointer (dI b),bJ w] W λe W'=>∃ _:Unit,(True)/\e=.returned (.tuple #[])/\St H w0 (.box b [.slice tp l.length tc,iN ((q.exS l w).i),ro,rv,.bool rd,.bool dn,.bool bd,iN ((q.exS l w).off),iN ((q.exS l w).er)] 102::bs) W':=by
 refine iB func114 rfl ntmps114 rfl s ?_;refine .sm Z<|.mv Z<|.xs (X:=Unit) Z (λW s=>fC K hq w (s.p1_1 [0] Z)) λ_ _=>.yw (.not Z)<|.nt<|.cd Z (λh7=>?_) (λh7=>?_)
 ·have hb:q.ac l w=false:=by simpa using h7
  have e1:q.exS l w=q.fail l 8:=SP hb;rw [mC hb,e1];refine .rg<|.mv Z<|.xs (X:=Unit) Z (λW s=>rU K hq 8 (s.p1_1 [0] Z)) λ_ _=>.nl<|?_
  refine jM (.inr Z) rfl .nil rfl λW s=>⟨(),Jt,Z,?_⟩;exact s.p1_1 [0] rfl
 have hb:q.ac l w=true:=by simpa using h7
 have e1:q.exS l w=q.nx:=SQ hb;rw [lV hb,e1];refine .sk<|?_
 refine jM (.inr Z) rfl .nil rfl λW s=>⟨(),Jt,Z,?_⟩;exact s.p1_1 [0] rfl
theorem GK {l:Tks} {tp:Option Addr} {tc:Nat} {rd dn bd:Bool} (K:Tkf H l tp tc) (hq:q.i<l.length) (s:St H w0 (.box b [.slice tp l.length tc,iN q.i,ro,rv,.bool rd,.bool dn,.bool bd,iN q.off,iN q.er] 102::bs) W) :
 Calls prg 113 #[.pointer (dI b)] W λe W'=>∃ _:Unit,(True)/\e=.returned (bJ (q.nmV l))/\St H w0 (.box b [.slice tp l.length tc,iN ((q.nmS l).i),ro,rv,.bool rd,.bool dn,.bool bd,iN ((q.nmS l).off),iN ((q.nmS l).er)] 102::bs) W':=by
 have hcap:=K.rep.cap;refine iB func113 rfl ntmps113 rfl s ?_;refine .sr<|.aq Z<|.sq<|.sm Z<|.nC Z<|.fA Z jD<|.lD Z rW Hm Z<|.yw (.neq Z Z)<|.mv Z<|.e2 (λh8=>?_) (λh8=>?_)
 ·have hbad:¬ q.nmK l=true:=λe=>by have:=(UV e).1;omega
  have e1:q.nmS l=q.fail l 8:=by unfold Rq.nmS;rw [aA hbad]
  have e2:q.nmV l=[]:=by unfold Rq.nmV;rw [aA hbad]
  rw [e1,e2];refine .g4<|.pT Z<|.nt<|.cT Z<|.sm Z<|.xs (X:=Unit) Z (λW s=>rU K hq 8 (s.p1_1 [0] Z)) λ_ _=>.ns<|.az Z<|.tR<|?_
  refine y9 Z Z λW s=>?_;exact ⟨(),Jt,Z,s.p1_1 [0] rfl⟩
 have h0:q.er=0:=aD
 refine .gy (.move Z)<|.gd Z Z<|.xs (X:=Unit) Z (λW s=>zD K hq  (s.p1_1 [0] Z)) λ_ _=>.gy (.fld Z (aE7 _ _ _))<|.gy (.neq Z Z)<|.pF Z<|.nt<|.ce Z (λh13=>?_) (λh13=>?_)
 ·have hbad:¬ q.nmK l=true:=λe=>by have:=(UV e).2;simp [this] at h13
  have e1:q.nmS l=q.fail l 8:=by unfold Rq.nmS;rw [aA hbad]
  have e2:q.nmV l=[]:=by unfold Rq.nmV;rw [aA hbad]
  rw [e1,e2];refine .sm Z<|.xs (X:=Unit) Z (λW s=>rU K hq 8 (s.p1_1 [0] Z)) λ_ _=>.ns<|.az Z<|.tR<|?_
  refine y9 Z Z λW s=>?_;exact ⟨(),Jt,Z,s.p1_1 [0] rfl⟩
 have hk:(tkf l q.i).k=1:=aR.1 (by show (tkf l q.i).k.toNat=1;omega);have hok:q.nmK l=true:=by unfold Rq.nmK;rw [aG h0,aG hk];rfl
 have e1:q.nmS l=q.nx:=by unfold Rq.nmS;rw [aK hok]
 have e2:q.nmV l=(tkf l q.i).t:=by unfold Rq.nmV;rw [aK hok]
 rw [e1,e2];have hi:=aA2 K.gd.last hq hok;have hi2:q.nx.i=q.i+1:=rfl;obtain ⟨bE,oE,cE,hpE,rE,lE,mE⟩:=K.rep.elem (eR (f:=dTk .u8) hq);cases hpE;rw [aA7 hq] at rE;obtain ⟨rfl,_⟩:=MA rE;refine .sk<|.tN<|.sm Z<|.nC Z<|.fA Z iD<|.lD Z bQ Hm Z<|.yw (.add Z Z (c:=((q.nx.i:Nat):Int)) ((w6 aD).trans (by show _=((q.i+1:Nat):Int);omega)))<|.nC Z<|.fA Z iD<|.st .head Z Z iM Z (nb Z) Z<|.nt<|.sq<|.fL 12 [(0,0),(1,0),(2,0),(3,0),(4,0),(5,0),(6,0),(7,0),(8,0),(9,0),(10,0),(11,0)]<|.mv Z<|.nC Z<|.fA Z qX<|.lD Z IV Hm Z<|.mv Z<|.nC Z<|.fA Z iD<|.lD Z bQ Hm Z<|.yw (.sub Z Z (c:=((q.i:Nat):Int)) ((w6 aD).trans aD))<|.yw (.indexSl aO0 Z Z Z aD (q:=oE+q.i * 3) Z)<|.fA Z lM<|.yw (.loadM Z bT mE (k:=1) Z Z)<|.fn (tl:=[_]) Z<|.az Z<|?_
 refine y9 Z Z λW s=>?_;exact ⟨(),Jt,Z,s.p1_1 [0] rfl⟩
theorem u8w {c:UInt8} (h:48<=c.toNat):IntKind.u8.wrap ((c.toNat:Int) - 48)=((c.toNat - 48:Nat):Int):=by
 have key:∀ i∈List.range 256,IntKind.u8.wrap (i:Int)=(i:Int):=by decide +kernel
 rw [show (c.toNat:Int) - 48=((c.toNat - 48:Nat):Int) by omega];exact key _ (bZ.2 (by have:=c.toNat_lt;omega))
theorem bZ4 {c:UInt8} (h:iZ c=true):48<=c.toNat/\c.toNat<=57:=by
 have key:∀ i∈List.range 256,iZ (UInt8.ofNat i)=true->48<=i/\i<=57:=by decide +kernel
 exact key c.toNat (bZ.2 c.toNat_lt) (by rw [fU];exact h)
def TZ (t:Tk):Nat:=if t.k=3 then (if sK t.t<=9223372036854775807 then 0 else 2) else 1
def aA5 (t:Tk):Nat:=if t.k=3/\sK t.t<=9223372036854775807 then sK t.t else 0
theorem aA4 {t:Tk} (h:t.k=3) (hn:sK t.t<=9223372036854775807):TZ t=0/\aA5 t=sK t.t:=⟨by unfold TZ;rw [aK h,aK hn],by unfold aA5;rw [aK ⟨h,hn⟩]⟩
theorem TY {t:Tk} (h:t.k=3) (hn:¬ sK t.t<=9223372036854775807):TZ t=2/\aA5 t=0:=⟨by unfold TZ;rw [aK h,aA hn],by unfold aA5;rw [aA (λk=>hn k.2)]⟩
theorem cD5 {t:Tk} (h:¬ t.k=3):TZ t=1/\aA5 t=0:=⟨by unfold TZ;rw [aA h],by unfold aA5;rw [aA (λk=>h k.1)]⟩
theorem aO7 (t:Tk) (hd:t.k=3->pre iZ t.t=t.t.length/\¬ t.t=[]) (hl:t.t.length<=1000000) (w:World) :
 Calls prg 158 #[.agg (cTk .u8 t).toArray] w λr w'=>r=.returned (.tuple #[iN (aA5 t),iN (TZ t)])/\Ext w w':=by
 refine y6 func158 Z ntmps158 Z ?_;refine .sr<|.bx Z Z Z λb1=>.a Z Z<|.aq Z<|.sq<|.sq<|.fL 16 [(0,0),(1,0),(2,0),(3,0),(4,0),(5,0),(6,0),(7,0),(8,0),(9,0),(10,0),(11,0),(12,0),(13,0),(14,0),(15,0)]<|.fA Z jT<|.lD Z pP Hm Z<|.yw (.neq Z Z)<|.mv Z<|.b2 (λh10=>?_) (λh10=>?_)
 ·have hk:¬ t.k=3:=λe=>aI h10 (by rw [e];rfl);obtain ⟨hv1,hv2⟩:=cD5 hk;refine .g3<|.pT Z<|.mv Z<|.g4<|.g3<|.fn (tl:=[_]) Z<|.pT Z<|.nt<|.cT Z<|.sr<|.a Z Z<|.az Z<|.tR<|?_
  refine y7 Z (.cons (.tmp Z) (.cons (.tmp Z) .nil)) rfl λW s=>⟨?_,s.ext⟩
  first
   | (rw [hv1,hv2];rfl)
   | (rw [hv1,hv2,bW];rfl)
   | (rw [hv1,hv2,bW])
 have hk:t.k=3:=aR.1 (by have:=bP.1 (aJ h10);exact Int.ofNat.inj this);obtain ⟨hd1,hd2⟩:=hd hk;have hall:=bD.1 (US hd1);refine .yg Z Z (.fieldAddr Z lM) Z<|.yg Z Z (.load Z bT Hm Z) Z<|.yg Z Z (.cast (.eqS Z Z) (congrArg Value.bool (aL hd2))) Z<|.pF Z<|.mv Z<|.yg Z Z (.fieldAddr Z lM) Z<|.yg Z Z (.load Z bT Hm Z) Z<|.yg Z Z (.xl Z (λW s=>yC 153 iZ PS ER t.t aD W)) Z<|.yg Z Z (.fieldAddr Z lM) Z<|.yg Z Z (.load Z bT Hm Z) Z<|.yg Z Z (.lenS dX Z) Z<|.yg Z Z (.cast (.neq Z Z) (congrArg Value.bool (aL (by rw [hd1];simp)))) Z<|.fn (tl:=[_]) Z<|.pF Z<|.nt<|.cF Z<|.sk<|.tN<|.sr<|.aq Z<|.sq<|.sr<|.fA Z lM<|.lD Z bT Hm Z<|.yw (.lenS dX Z)<|.mv Z<|.nt<|.bk<|.lp (X:=Nat) [(1,_),(26,_)] ⟨Z,Z,Jt⟩ [_] (λk=>[(27,iN k),(4,iN (sK (t.t.take k)))]) (λk=>(⟨λ_=>none,0⟩:Hp)) (λk=>[]) (λk=>k<=t.t.length/\sK (t.t.take k)<=9223372036854775807) (λk=>t.t.length - k) 0 (λ_ s=>s) ⟨Z,Z,Jt⟩ ⟨aN _,by simp [aQ6]⟩ λk hC=>?_
 obtain ⟨hk0,hv0⟩:=hC;refine .sr<|.yw (.lss Z Z)<|.nt<|.sq<|.ce Z (λh28=>?_) (λh28=>?_)
 ·have hlt:k<t.t.length:=aD
  obtain ⟨c,hc⟩:∃ c,c=t.t[k]:=⟨_,Z⟩;obtain ⟨hc1,hc2⟩:=bZ4 (hall c (by rw [hc];exact aX hlt));have hst:sK (t.t.take (k+1))=10 * sK (t.t.take k)+(c.toNat - 48):=aQ8 (by rw [hc];exact List.getElem?_eq_getElem hlt);have hle:=aQ7 t.t (k+1);rw [hst] at hle;refine .sk<|.tN<|.sq<|.bk<|.sm Z<|.a Z Z<|.ns<|.fA Z lM<|.lD Z bT Hm Z<|.mv Z<|.yw (.idxS dX Z Z Z (b:=c) (j:=k) (by rw [hc];exact List.getElem?_eq_getElem hlt))<|.yw (.sub Z Z (u8w hc1))<|.yw (.conv Z kN cB5 (c:=((c.toNat - 48:Nat):Int)) (w6 aD))<|.aq Z<|.sq<|.sm Z<|.mv Z<|.yw (.sub Z Z (c:=((9223372036854775807 - (c.toNat - 48):Nat):Int)) ((w6 aD).trans aD))<|.yw (.quo Z Z aS (c:=(((9223372036854775807 - (c.toNat - 48)) / 10:Nat):Int)) (by rw [jO aD];exact (w6 aD).trans aD))<|.yw (.gtr Z Z)<|.nt<|.ce Z (λh40=>?_) (λh40=>?_)
  ·obtain ⟨hv1,hv2⟩:=TY hk (show ¬ sK t.t<=9223372036854775807 by omega);refine .sr<|.a Z Z<|.az Z<|.tR<|.bR<|.tR<|.tR<|.bR<|.tR<|?_
   refine y7 Z (.cons (.tmp Z) (.cons (.tmp Z) .nil)) rfl λW s=>⟨?_,s.ext⟩
   first
    | (rw [hv1,hv2];rfl)
    | (rw [hv1,hv2,bW];rfl)
    | (rw [hv1,hv2,bW])
  have hb:10 * sK (t.t.take k)+(c.toNat - 48)<=9223372036854775807:=aD
  exact .sk<|.tN<|.rg<|.mv Z<|.yw (.mul Z Z (c:=((10 * sK (t.t.take k):Nat):Int)) ((w6 aD).trans aD))<|.mv Z<|.yw (.add Z Z (c:=((10 * sK (t.t.take k)+(c.toNat - 48):Nat):Int)) ((w6 aD).trans aD))<|.a Z Z<|.nl<|.bN<|.tN<|.rg<|.yw (.add Z Z w7)<|.mv Z<|.nt<|.ag (k+1) ⟨Z,by rw [hst];rfl,Jt⟩ ⟨Z,Z,Jt⟩ (λ_ s=>s) ⟨aD,by rw [hst];omega⟩ aD
 obtain rfl:k=t.t.length:=aD
 rw [bW] at hv0;obtain ⟨hv1,hv2⟩:=aA4 hk hv0;refine .ex<|.eb<|.sm Z<|.a Z Z<|.az Z<|?_
 refine y7 Z (.cons (.tmp Z) (.cons (.tmp Z) .nil)) rfl λW s=>⟨?_,s.ext⟩
 first
  | (rw [hv1,hv2];rfl)
  | (rw [hv1,hv2,bW];rfl)
  | (rw [hv1,hv2,bW])
theorem cE6 {l:Tks} {tp:Option Addr} {tc:Nat} (K:Tkf H l tp tc) (hq:q.i<l.length):(tkf l q.i).k=3->pre iZ (tkf l q.i).t=(tkf l q.i).t.length/\¬ (tkf l q.i).t=[]:=K.num _ (UA hq)
theorem aK8 (h:n<=9223372036854775807):(Int64.ofNat n).toInt=(n:Int):=by
 rw [iC aD]
theorem bV6 {l:Tks} :0<=(q.nbV l).toInt/\(q.nbV l).toInt<=9223372036854775807:=by
 unfold Rq.nbV
 split
 ·rename_i h;rw [aE] at h;have h2:=aI h.2;rw [aK8 h2];omega
 ·decide
theorem yF {l:Tks} {tp:Option Addr} {tc:Nat} {rd dn bd:Bool} (K:Tkf H l tp tc) (hq:q.i<l.length) (s:St H w0 (.box b [.slice tp l.length tc,iN q.i,ro,rv,.bool rd,.bool dn,.bool bd,iN q.off,iN q.er] 102::bs) W) :
 Calls prg 110 #[.pointer (dI b)] W λe W'=>∃ _:Unit,(True)/\e=.returned (.int .i64 (q.nbV l).toInt)/\St H w0 (.box b [.slice tp l.length tc,iN ((q.nbS l).i),ro,rv,.bool rd,.bool dn,.bool bd,iN ((q.nbS l).off),iN ((q.nbS l).er)] 102::bs) W':=by
 have hcap:=K.rep.cap;refine iB func110 rfl ntmps110 rfl s ?_;refine .sr<|.aq Z<|.sq<|.sm Z<|.nC Z<|.fA Z jD<|.lD Z rW Hm Z<|.yw (.neq Z Z)<|.mv Z<|.b2 (λh10=>?_) (λh10=>?_)
 ·have hbad:¬ q.nbB l=true:=λe=>by have:=(UW e).1;simp [this] at h10
  have e1:q.nbS l=q.fail l 8:=by unfold Rq.nbS;rw [aA hbad]
  have e2:q.nbV l=0:=by unfold Rq.nbV;rw [aA (λe=>hbad (by rw [aE] at e;exact e.1))]
  rw [e1,e2];refine .g4<|.pT Z<|.nt<|.cT Z<|.sm Z<|.xs (X:=Unit) Z (λW s=>rU K hq 8 (s.p1_1 [0] Z)) λ_ _=>.ns<|.az Z<|.tR<|?_
  refine y9 Z Z λW s=>?_;exact ⟨(),Jt,Z,s.p1_1 [0] rfl⟩
 have h0:q.er=0:=by have:=aJ h10;omega
 refine .gy (.move Z)<|.gd Z Z<|.xs (X:=Unit) Z (λW s=>zD K hq  (s.p1_1 [0] Z)) λ_ _=>.gy (.fld Z (aE7 _ _ _))<|.gy (.neq Z Z)<|.pF Z<|.nt<|.cd Z (λh15=>?_) (λh15=>?_)
 ·have hbad:¬ q.nbB l=true:=λe=>by have:=(UW e).2;simp [this] at h15
  have e1:q.nbS l=q.fail l 8:=by unfold Rq.nbS;rw [aA hbad]
  have e2:q.nbV l=0:=by unfold Rq.nbV;rw [aA (λe=>hbad (by rw [aE] at e;exact e.1))]
  rw [e1,e2];refine .sm Z<|.xs (X:=Unit) Z (λW s=>rU K hq 8 (s.p1_1 [0] Z)) λ_ _=>.ns<|.az Z<|.tR<|?_
  refine y9 Z Z λW s=>?_;exact ⟨(),Jt,Z,s.p1_1 [0] rfl⟩
 have hk:(tkf l q.i).k=3:=aR.1 (by have:=aJ h15;show (tkf l q.i).k.toNat=3;omega);have hok:q.nbB l=true:=by unfold Rq.nbB;rw [aG h0,aG hk];rfl
 refine .sk<|.tN<|.sm Z<|.xs (X:=Unit) Z (λW s=>zD K hq  (s.p1_1 [0] Z)) λ_ _=>.yw (.call aH4 Z λW s=>aO7 (tkf l q.i) (cE6 K hq) (aZ (K.short _ (UA hq)) aS) W)<|.mv Z<|.yw (.extract Z Z)<|.yw (.extract Z Z)<|.a Z Z<|.aq Z<|.sq<|.sm Z<|.yw (.neq Z Z)<|.nt<|.ce Z (λh25=>?_) (λh25=>?_)
 ·have hv:¬ sK (tkf l q.i).t<=9223372036854775807:=λe=>by rw [(aA4 hk e).1] at h25;omega
  obtain ⟨v1,v2⟩:=TY hk hv;have e1:q.nbS l=q.fail l (TZ (tkf l q.i)):=by rw [v1];unfold Rq.nbS;rw [aK hok,aA (by unfold Rq.fit;rw [aL hv];decide)]
  have e2:q.nbV l=0:=by unfold Rq.nbV;rw [aA (by unfold Rq.fit;rw [aL hv,Bool.and_false];decide)]
  rw [e1,e2];refine .sm Z<|.mv Z<|.xs (X:=Unit) Z (λW s=>rU K hq (TZ (tkf l q.i)) (s.p1_1 [0] Z)) λ_ _=>?_

  refine .ns<|.az Z<|.tR<|?_
  refine y9 Z Z λW s=>?_;exact ⟨(),Jt,Z,s.p1_1 [0] rfl⟩
 have hv:sK (tkf l q.i).t<=9223372036854775807:=Classical.byContradiction λe=>by rw [(TY hk e).1] at h25;omega
 obtain ⟨v1,v2⟩:=aA4 hk hv;have hf:q.fit l=true:=by unfold Rq.fit;rw [aG hv]
 have e1:q.nbS l=q.nx:=by unfold Rq.nbS;rw [aK hok,aK hf]
 have e2:q.nbV l=Int64.ofNat (sK (tkf l q.i).t):=by unfold Rq.nbV;rw [hok,hf];rfl
 rw [e1,e2,aK8 hv];have hi:=K.gd.last _ hq (by rw [hk];decide);have hi2:q.nx.i=q.i+1:=rfl;rw [v2];refine .sk<|.tN<|.sm Z<|.nC Z<|.fA Z iD<|.lD Z bQ Hm Z<|.yw (.add Z Z (c:=((q.nx.i:Nat):Int)) ((w6 aD).trans (by show _=((q.i+1:Nat):Int);omega)))<|.nC Z<|.fA Z iD<|.st .head Z Z iM Z (nb Z) Z<|.ns<|.mv Z<|.az Z<|?_
 refine y9 Z Z λW s=>?_;exact ⟨(),Jt,Z,s.p1_1 [0] rfl⟩
theorem NZ {l:Tks} {tp:Option Addr} {tc:Nat} {rd dn bd:Bool} (K:Tkf H l tp tc) (hq:q.i<l.length) (op:UInt8) (s:St H w0 (.box b [.slice tp l.length tc,iN q.i,ro,rv,.bool rd,.bool dn,.bool bd,iN q.off,iN q.er] 102::bs) W) :
 Calls prg 112 #[.pointer (dI b),.int .u8 op.toNat] W λe W'=>∃ _:Unit,(True)/\e=.returned (.agg [.int .u8 op.toNat,bJ (q.paN l),bJ (q.paF l),.int .i64 0,.int .i64 0,cL,cL].toArray)/\St H w0 (.box b [.slice tp l.length tc,iN ((q.paS l).i),ro,rv,.bool rd,.bool dn,.bool bd,iN ((q.paS l).off),iN ((q.paS l).er)] 102::bs) W':=by
 refine iB func112 rfl ntmps112 rfl s ?_;refine .sr<|.al fB Z λb4=>.ns<|.mv Z<|.mv Z<|.xs (X:=Unit) Z (λW s=>GK K hq  (s.p2_2 [1,0] Z)) λ_ _=>.yw (.build Z (xL _ _))<|.al fB Z λb5=>.sX .head Z Z dK Z<|.ns<|.mv Z<|.xs (X:=Unit) Z (λW s=>sS K (lI K.gd.last hq) [46] (s.p3_3 [1,0,2] Z)) λ_ _=>.ns<|.mv Z<|.xs (X:=Unit) Z (λW s=>GK K (lR K.gd.last (lI K.gd.last hq))  (s.p3_3 [0,1,2] Z)) λ_ _=>.fA Z gO<|.st iJ Z Z bO9 Z (nb Z) Z<|.ns<|.yw (.loadW Z cQ cU Z)<|.sX iE Z Z dK Z<|.nt<|.rt<|?_
 refine y8 Z (.cell Z cQ iG rfl) λW s=>?_;exact ⟨(),Jt,Z,s.p3_1 [0] rfl⟩
theorem NB {l:Tks} {tp:Option Addr} {tc:Nat} {rd dn bd:Bool} (K:Tkf H l tp tc) (hq:q.i<l.length) (op:UInt8) (s:St H w0 (.box b [.slice tp l.length tc,iN q.i,ro,rv,.bool rd,.bool dn,.bool bd,iN q.off,iN q.er] 102::bs) W) :
 Calls prg 154 #[.pointer (dI b),.int .u8 op.toNat] W λe W'=>∃ _:Unit,(True)/\e=.returned (.agg [.int .u8 op.toNat,bJ [],bJ [],.int .i64 (q.wiA l).toInt,.int .i64 (q.wiB l).toInt,cL,cL].toArray)/\St H w0 (.box b [.slice tp l.length tc,iN ((q.wiS l).i),ro,rv,.bool rd,.bool dn,.bool bd,iN ((q.wiS l).off),iN ((q.wiS l).er)] 102::bs) W':=by
 refine iB func154 rfl ntmps154 rfl s ?_;refine .sr<|.al fB Z λb4=>.ns<|.mv Z<|.yw (.build Z (WB _ _))<|.al fB Z λb5=>.sX .head Z Z dK Z<|.nt<|.sq<|.sm Z<|.xs (X:=Unit) Z (λW s=>fC K hq [91] (s.p3_3 [2,0,1] Z)) λ_ _=>.nt<|.cd Z (λh9=>?_) (λh9=>?_)
 ·have a9:Rq.ac l [91] q=true:=h9;rw [lV a9];have e1:q.wiA l=q.nx.nbV l:=by unfold Rq.wiA;rw [aK a9]
  have e2:q.wiB l=((q.nx.nbS l).exS l [44]).nbV l:=by unfold Rq.wiB;rw [aK a9]
  have e3:q.wiS l=(((q.nx.nbS l).exS l [44]).nbS l).exS l [93]:=by unfold Rq.wiS;rw [aK a9]
  rw [e1,e2,e3];refine .sm Z<|.xs (X:=Unit) Z (λW s=>yF K (dN K.gd.last hq a9)  (s.p3_3 [0,1,2] Z)) λ_ _=>.fA Z fR<|.st iJ Z Z iM Z (nb Z) Z<|.ns<|.mv Z<|.xs (X:=Unit) Z (λW s=>sS K (zC K.gd.last (dN K.gd.last hq a9)) [44] (s.p3_3 [0,1,2] Z)) λ_ _=>.ns<|.mv Z<|.xs (X:=Unit) Z (λW s=>yF K (lR K.gd.last (zC K.gd.last (dN K.gd.last hq a9)))  (s.p3_3 [0,1,2] Z)) λ_ _=>.fA Z fH<|.st iJ Z Z iM Z (nb Z) Z<|.nt<|.rg<|.mv Z<|.xs (X:=Unit) Z (λW s=>sS K (zC K.gd.last (lR K.gd.last (zC K.gd.last (dN K.gd.last hq a9)))) [93] (s.p3_3 [0,1,2] Z)) λ_ _=>.ns<|.yw (.loadW Z cQ cU Z)<|.sX iE Z Z dK Z<|.nt<|.rt<|?_
  refine y8 Z (.cell Z cQ iG rfl) λW s=>?_;exact ⟨(),Jt,Z,s.p3_1 [0] rfl⟩
 have a9:Rq.ac l [91] q=false:=h9;rw [mC a9];have e1:q.wiA l=0:=by unfold Rq.wiA;rw [aA (by rw [a9];decide)]
 have e2:q.wiB l=-1:=by unfold Rq.wiB;rw [aA (by rw [a9];decide)]
 have e3:q.wiS l=q:=by unfold Rq.wiS;rw [aA (by rw [a9];decide)]
 rw [e1,e2,e3];refine .sk<|.tN<|.sr<|.yw (.loadW Z cQ cU Z)<|.sX iE Z Z dK Z<|.nt<|.rt<|?_
 refine y8 Z (.cell Z cQ iG rfl) λW s=>?_;exact ⟨(),Jt,Z,s.p3_1 [0] rfl⟩
theorem bV5 {x:Int64} (h:0<=x.toInt/\x.toInt<=9223372036854775807):IntKind.i64.wrap (0 - x.toInt)=(-x).toInt:=by
 rw [Go.Sx.w64 aD aD,Int64.toInt_neg,Int.bmod_eq_of_le aD aD];omega
theorem aN3 {l:Tks} {tp:Option Addr} {tc:Nat} {rd dn bd:Bool} (K:Tkf H l tp tc) (hq:q.i<l.length) (s:St H w0 (.box b [.slice tp l.length tc,iN q.i,ro,rv,.bool rd,.bool dn,.bool bd,iN q.off,iN q.er] 102::bs) W) :
 Calls prg 180 #[.pointer (dI b)] W λe W'=>∃ _:Unit,(True)/\e=.returned (.int .i64 (q.boV l).toInt)/\St H w0 (.box b [.slice tp l.length tc,iN ((q.boS l).i),ro,rv,.bool rd,.bool dn,.bool bd,iN ((q.boS l).off),iN ((q.boS l).er)] 102::bs) W':=by
 refine iB func180 rfl ntmps180 rfl s ?_;refine .sr<|.aq Z<|.sq<|.sm Z<|.xs (X:=Unit) Z (λW s=>fC K hq [45] (s.p1_1 [0] Z)) λ_ _=>.nt<|.cd Z (λh4=>?_) (λh4=>?_)
 ·have a4:Rq.ac l [45] q=true:=h4;rw [lV a4];have e1:q.boV l=-(q.nx.nbV l):=by unfold Rq.boV;rw [aK a4]
  have e3:q.boS l=q.nx.nbS l:=by unfold Rq.boS;rw [aK a4]
  rw [e1,e3];refine .sm Z<|.xs (X:=Unit) Z (λW s=>yF K (dN K.gd.last hq a4)  (s.p1_1 [0] Z)) λ_ _=>.yw (.neg Z (c:=(-(q.nx.nbV l)).toInt) (bV5 bV6))<|.az Z<|.tR<|?_
  refine y9 Z Z λW s=>?_;exact ⟨(),Jt,Z,s.p1_1 [0] rfl⟩
 have a4:Rq.ac l [45] q=false:=h4;rw [mC a4];have e1:q.boV l=q.nbV l:=by unfold Rq.boV;rw [aA (by rw [a4];decide)]
 have e3:q.boS l=q.nbS l:=by unfold Rq.boS;rw [aA (by rw [a4];decide)]
 rw [e1,e3];refine .sk<|.tN<|.sm Z<|.xs (X:=Unit) Z (λW s=>yF K hq  (s.p1_1 [0] Z)) λ_ _=>.az Z<|?_
 refine y9 Z Z λW s=>?_;exact ⟨(),Jt,Z,s.p1_1 [0] rfl⟩
theorem VV {l:Tks} {tp:Option Addr} {tc:Nat} {rd dn bd:Bool} (K:Tkf H l tp tc) (hq:q.i<l.length) (op:UInt8) (s:St H w0 (.box b [.slice tp l.length tc,iN q.i,ro,rv,.bool rd,.bool dn,.bool bd,iN q.off,iN q.er] 102::bs) W) :
 Calls prg 157 #[.pointer (dI b),.int .u8 op.toNat] W λe W'=>∃ _:Unit,(True)/\e=.returned (.agg [.int .u8 op.toNat,bJ (q.nmV l),bJ [],.int .i64 ((q.ama l).boV l).toInt,.int .i64 ((q.amb l).boV l).toInt,cL,cL].toArray)/\St H w0 (.box b [.slice tp l.length tc,iN ((q.amS l).i),ro,rv,.bool rd,.bool dn,.bool bd,iN ((q.amS l).off),iN ((q.amS l).er)] 102::bs) W':=by
 refine iB func157 rfl ntmps157 rfl s ?_;refine .sr<|.al fB Z λb4=>.ns<|.mv Z<|.mv Z<|.xs (X:=Unit) Z (λW s=>GK K hq  (s.p2_2 [1,0] Z)) λ_ _=>.yw (.build Z (xL _ _))<|.al fB Z λb5=>.sX .head Z Z dK Z<|.ns<|.mv Z<|.xs (X:=Unit) Z (λW s=>sS K (lI K.gd.last hq) [105,110] (s.p3_3 [1,0,2] Z)) λ_ _=>.ns<|.mv Z<|.xs (X:=Unit) Z (λW s=>aN3 K (lR K.gd.last (lI K.gd.last hq))  (s.p3_3 [0,1,2] Z)) λ_ _=>.fA Z fR<|.st iJ Z Z iM Z (nb Z) Z<|.ns<|.mv Z<|.xs (X:=Unit) Z (λW s=>sS K (aJ0 K.gd.last (lR K.gd.last (lI K.gd.last hq))) [46,46] (s.p3_3 [0,1,2] Z)) λ_ _=>.ns<|.mv Z<|.xs (X:=Unit) Z (λW s=>aN3 K (lR K.gd.last (aJ0 K.gd.last (lR K.gd.last (lI K.gd.last hq))))  (s.p3_3 [0,1,2] Z)) λ_ _=>.fA Z fH<|.st iJ Z Z iM Z (nb Z) Z<|.ns<|.yw (.loadW Z cQ cU Z)<|.sX iE Z Z dK Z<|.nt<|.rt<|?_
 refine y8 Z (.cell Z cQ iG rfl) λW s=>?_;exact ⟨(),Jt,Z,s.p3_1 [0] rfl⟩
theorem VO {c:UInt8} (h:(c.toNat:Int)=32\/(c.toNat:Int)=9\/(c.toNat:Int)=10\/(c.toNat:Int)=13):mS c=true:=by
 simp only [mS,aW,aB,<-aR];rcases h with h | h | h | h
 ·exact .inl (.inl (.inl (by show c.toNat=32;omega)))
 ·exact .inl (.inl (.inr (by show c.toNat=9;omega)))
 ·exact .inl (.inr (by show c.toNat=10;omega))
 ·exact .inr (by show c.toNat=13;omega)
theorem tH {c:UInt8} (h:¬ ((c.toNat:Int)=32\/(c.toNat:Int)=9\/(c.toNat:Int)=10\/(c.toNat:Int)=13)):mS c=false:=by
 cases e:mS c with
 | false=>rfl
 | true =>
  refine absurd ?_ h;simp only [mS,aW,aB] at e;rcases e with ((e | e) | e) | e <;> subst e <;> simp
variable {s:Str} {k:Nat}
theorem HP {R:Str} (hk:k<s.length) (hb:mS s[k]=true) (h:eU false (s.drop k)=R):eU false (s.drop (k+1))=R:=by
 rw [fV hk,JI hb] at h;exact h
theorem bS6 {R:Str} (hk:k+1<s.length) (h1:(s[k].toNat:Int)=47) (h2:(s[k+1].toNat:Int)=47) (h:eU false (s.drop k)=R):eU true (s.drop k)=R:=by
 have e1:s[k]=47:=aR.1 (by show s[k].toNat=47;omega);have e2:s[k+1]=47:=aR.1 (by show s[k+1].toNat=47;omega);rw [fV (show k<s.length by omega),fV hk,e1,e2] at h|-;rw [<-RO];exact h
theorem bB2 {R:Str} (hk:k<s.length) (hb:¬ (s[k].toNat:Int)=10) (h:eU true (s.drop k)=R):eU true (s.drop (k+1))=R:=by
 rw [fV hk,RQ (λe=>hb (by rw [e];rfl))] at h;exact h
theorem RN {R:Str} (hk:s.length<=k) (h:eU true (s.drop k)=R):eU false (s.drop k)=R:=by
 rw [fY hk,sA] at h|-;exact h
theorem RM {R:Str} (hk:k<s.length) (hb:(s[k].toNat:Int)=10) (h:eU true (s.drop k)=R):eU false (s.drop k)=R:=by
 have e1:s[k]=10:=aR.1 (by show s[k].toNat=10;omega);rw [fV hk,e1] at h|-;rw [<-RP];exact h
theorem tG (hk:k<s.length) (hb:mS s[k]=false) (h:¬ (s[k].toNat:Int)=47\/¬ k+1<s.length\/∃ h:k+1<s.length,¬ (s[k+1].toNat:Int)=47):eU false (s.drop k)=s.drop k:=by
 rw [fV hk];refine tP hb ?_;rintro ⟨e1,e2⟩;rcases h with h | h | ⟨h0,h⟩
 ·exact h (by rw [e1];rfl)
 ·rw [fY aD] at e2;cases e2
 ·rw [fV h0] at e2;exact h (by rw [bL e2];rfl)
theorem HM (hk:s.length<=k):eU false (s.drop k)=s.drop k:=by rw [fY hk,sA]
theorem mO {R:Str} (hk:k<=s.length) (h:eU false (s.drop k)=R) (h2:eU false (s.drop k)=s.drop k):s.length - R.length=k:=by
 rw [<-h,h2,dA];omega
theorem XC (s:Str) (hl:s.length<=1000000) (o:Nat) (ho:o<=s.length) (w:World) :
 Calls prg 67 #[bJ s,iN o] w λr w'=>r=.returned (.int .i64 ((s.length - (eU false (s.drop o)).length:Nat):Int))/\Ext w w':=by
 refine y6 func67 Z ntmps67 Z ?_;refine .sr<|.aq Z<|.sq<|.bk<|.lp (X:=Nat) [(0,_)] ⟨Z,Jt⟩ [] (λk=>[(1,iN k)]) (λk=>(⟨λ_=>none,0⟩:Hp)) (λk=>[]) (λk=>k<=s.length/\eU false (s.drop k)=eU false (s.drop o)) (λk=>s.length - k) o (λ_ s=>s) ⟨Z,Jt⟩ ⟨ho,Z⟩ λk hC=>?_
 obtain ⟨hk0,hC2⟩:=hC;refine .sq<|.sm Z<|.mv Z<|.yw (.lenS dX Z)<|.yw (.lss Z Z)<|.nt<|.ce Z (λh8=>?_) (λh8=>?_)
 ·have hk:k<s.length:=aD
  refine .sk<|.tN<|.bk<|.sm Z<|.mv Z<|.yw (.idxS dX Z Z Z (b:=s[k]) (j:=k) (List.getElem?_eq_getElem hk))<|.yw (.eql Z Z)<|.mv Z<|.e2 (λh13=>?_) (λh13=>?_)
  ·exact .g4<|.pT Z<|.mv Z<|.g4<|.pT Z<|.mv Z<|.g4<|.pT Z<|.nt<|.cT Z<|.rg<|.mv Z<|.yw (.add Z Z w7)<|.a Z Z<|.nl<|.bN<|.tN<|.ag (k+1) ⟨Z,Jt⟩ ⟨Z,Jt⟩ (λ_ s=>s) ⟨aD,HP aD (VO aD) hC2⟩ (by first | omega | (have:j≠k:=λe=>by subst e;omega);omega)
  refine .gy (.move Z)<|.gy (.move Z)<|.gy (.idxS dX Z Z Z (b:=s[k]) (j:=k) (List.getElem?_eq_getElem hk))<|.gy (.eql Z Z)<|.pF Z<|.mv Z<|.e2 (λh19=>?_) (λh19=>?_)
  ·exact .g4<|.pT Z<|.mv Z<|.g4<|.pT Z<|.nt<|.cT Z<|.rg<|.mv Z<|.yw (.add Z Z w7)<|.a Z Z<|.nl<|.bN<|.tN<|.ag (k+1) ⟨Z,Jt⟩ ⟨Z,Jt⟩ (λ_ s=>s) ⟨aD,HP aD (VO aD) hC2⟩ (by first | omega | (have:j≠k:=λe=>by subst e;omega);omega)
  refine .gy (.move Z)<|.gy (.move Z)<|.gy (.idxS dX Z Z Z (b:=s[k]) (j:=k) (List.getElem?_eq_getElem hk))<|.gy (.eql Z Z)<|.pF Z<|.mv Z<|.e2 (λh25=>?_) (λh25=>?_)
  ·exact .g4<|.pT Z<|.nt<|.cT Z<|.rg<|.mv Z<|.yw (.add Z Z w7)<|.a Z Z<|.nl<|.bN<|.tN<|.ag (k+1) ⟨Z,Jt⟩ ⟨Z,Jt⟩ (λ_ s=>s) ⟨aD,HP aD (VO aD) hC2⟩ (by first | omega | (have:j≠k:=λe=>by subst e;omega);omega)
  refine .gy (.move Z)<|.gy (.move Z)<|.gy (.idxS dX Z Z Z (b:=s[k]) (j:=k) (List.getElem?_eq_getElem hk))<|.gy (.eql Z Z)<|.pF Z<|.nt<|.ce Z (λh30=>?_) (λh30=>?_)
  ·exact .rg<|.mv Z<|.yw (.add Z Z w7)<|.a Z Z<|.nl<|.bN<|.tN<|.ag (k+1) ⟨Z,Jt⟩ ⟨Z,Jt⟩ (λ_ s=>s) ⟨aD,HP aD (VO aD) hC2⟩ (by first | omega | (have:j≠k:=λe=>by subst e;omega);omega)
  refine .sm Z<|.yw (.add Z Z w7)<|.mv Z<|.yw (.lenS dX Z)<|.yw (.lss Z Z)<|.mv Z<|.e2 (λh38=>?_) (λh38=>?_)
  ·have hk1:k+1<s.length:=aD
   refine .gy (.move Z)<|.gy (.move Z)<|.gy (.idxS dX Z Z Z (b:=s[k]) (j:=k) (List.getElem?_eq_getElem hk))<|.gy (.eql Z Z)<|.pT Z<|.mv Z<|.e2 (λh44=>?_) (λh44=>?_)
   ·refine .gy (.move Z)<|.gy (.move Z)<|.gy (.add Z Z w7)<|.gy (.idxS dX Z Z aD (b:=s[(k+1)]) (j:=(k+1)) (List.getElem?_eq_getElem hk1))<|.gy (.eql Z Z)<|.pT Z<|.nt<|.ce Z (λh50=>?_) (λh50=>?_)
    ·refine .bk<|.lp (X:=Nat) [(0,_)] ⟨Z,Jt⟩ [] (λj=>[(1,iN j)]) (λj=>(⟨λ_=>none,0⟩:Hp)) (λj=>[]) (λj=>k<=j/\j<=s.length/\eU true (s.drop j)=eU false (s.drop o)) (λj=>s.length - j) k (λ_ s=>s) ⟨Z,Jt⟩ ⟨aD,aD,bS6 aD aD aD hC2⟩ λj hC=>?_
     obtain ⟨hj0,hj1,hC3⟩:=hC;refine .sq<|.sm Z<|.mv Z<|.yw (.lenS dX Z)<|.yw (.lss Z Z)<|.mv Z<|.e2 (λh55=>?_) (λh55=>?_)
     ·have hj:j<s.length:=aD
      refine .gy (.move Z)<|.gy (.move Z)<|.gy (.idxS dX Z Z Z (b:=s[j]) (j:=j) (List.getElem?_eq_getElem hj))<|.gy (.neq Z Z)<|.pT Z<|.nt<|.ce Z (λh60=>?_) (λh60=>?_)
      ·exact .sk<|.tN<|.bk<|.rg<|.mv Z<|.yw (.add Z Z w7)<|.a Z Z<|.nl<|.bN<|.tN<|.ag (j+1) ⟨Z,Jt⟩ ⟨Z,Jt⟩ (λ_ s=>s) ⟨aD,aD,bB2 aD aD hC3⟩ aD
      exact .ex<|.tE<|.tE<|.bE<|.bN<|.tN<|.ag j ⟨Z,Jt⟩ ⟨Z,Jt⟩ (λ_ s=>s) ⟨aD,by first | exact RN aD hC3 | exact RM (show j<s.length by omega) aD hC3⟩ (by first | omega | (have:j≠k:=λe=>by subst e;omega);omega)
     exact .g4<|.pF Z<|.nt<|.cF Z<|.ex<|.tE<|.tE<|.bE<|.bN<|.tN<|.ag j ⟨Z,Jt⟩ ⟨Z,Jt⟩ (λ_ s=>s) ⟨aD,by first | exact RN aD hC3 | exact RM (show j<s.length by omega) aD hC3⟩ (by first | omega | (have:j≠k:=λe=>by subst e;omega);omega)
    refine .sm Z<|.az Z<|.bR<|.tR<|.bR<|.tR<|?_
    refine yE Z Z ?_
    first
     | (rw [mO hk0 hC2 (tG hk (tH aD) (.inl aD))])
     | (rw [mO hk0 hC2 (tG hk (tH aD) (.inr (.inl aD)))])
     | (rw [mO hk0 hC2 (tG hk (tH aD) (.inr (.inr ⟨hk1,aD⟩)))])
     | (rw [mO hk0 hC2 (HM aD)])
   refine .g4<|.gG<|.pF Z<|.nt<|.cF Z<|.sm Z<|.az Z<|.bR<|.tR<|.bR<|.tR<|?_
   refine yE Z Z ?_
   first
    | (rw [mO hk0 hC2 (tG hk (tH aD) (.inl aD))])
    | (rw [mO hk0 hC2 (tG hk (tH aD) (.inr (.inl aD)))])
    | (rw [mO hk0 hC2 (tG hk (tH aD) (.inr (.inr ⟨hk1,aD⟩)))])
    | (rw [mO hk0 hC2 (HM aD)])
  refine .g4<|.pF Z<|.mv Z<|.g4<|.gG<|.pF Z<|.nt<|.cF Z<|.sm Z<|.az Z<|.bR<|.tR<|.bR<|.tR<|?_
  refine yE Z Z ?_
  first
   | (rw [mO hk0 hC2 (tG hk (tH aD) (.inl aD))])
   | (rw [mO hk0 hC2 (tG hk (tH aD) (.inr (.inl aD)))])
   | (rw [mO hk0 hC2 (tG hk (tH aD) (.inr (.inr ⟨hk1,aD⟩)))])
   | (rw [mO hk0 hC2 (HM aD)])
 obtain rfl:k=s.length:=aD
 refine .ex<|.eb<|.sm Z<|.az Z<|?_
 refine yE Z Z ?_
 first
  | (rw [mO hk0 hC2 (tG hk (tH aD) (.inl aD))])
  | (rw [mO hk0 hC2 (tG hk (tH aD) (.inr (.inl aD)))])
  | (rw [mO hk0 hC2 (tG hk (tH aD) (.inr (.inr ⟨hk1,aD⟩)))])
  | (rw [mO hk0 hC2 (HM aD)])
theorem QM (H:Hp) (w:World) (hA:Agr H w):Calls prg 126 #[] w λr w'=>∃ (b:Nat) (H':Hp),lW H' b 0 (words.map bJ)/\r=.returned (.slice (dI b) 39 39)/\wV H w H' w':=by
 refine Sx.enter (H:=H) func126 rfl ntmps126 rfl hA ?_;refine .sr<|.a Z Z<|.ns<|.bl Z (ZJ _ _ _ _ _ _ _ _ _ _ _ _ _ _ _ _ _ _ _ _ _ _ _ _ _ _ _ _ _ _ _ _ _ _ _ _ _ _ _) Z λb1=>?_
 refine xP λH1 u1 m1=>?_;refine .az Z<|?_
 exact y9 Z Z λW s=>⟨b1,H1,m1,Z,u1.grow s⟩
theorem UC (H:Hp) (w:World) (hA:Agr H w):Calls prg 127 #[] w λr w'=>∃ (b:Nat) (H':Hp),lW H' b 0 (symbols.map bJ)/\r=.returned (.slice (dI b) 25 25)/\wV H w H' w':=by
 refine Sx.enter (H:=H) func127 rfl ntmps127 rfl hA ?_;refine .sr<|.a Z Z<|.ns<|.bl Z (ZK _ _ _ _ _ _ _ _ _ _ _ _ _ _ _ _ _ _ _ _ _ _ _ _ _) Z λb1=>?_
 refine xP λH1 u1 m1=>?_;refine .az Z<|?_
 exact y9 Z Z λW s=>⟨b1,H1,m1,Z,u1.grow s⟩
theorem JO {c:UInt8} (h:pO c=true\/iZ c=true\/(c.toNat:Int)=95):kT c=true:=by
 simp only [kT,aW,aB];rcases h with h | h | h
 ·exact .inl (.inl h)
 ·exact .inl (.inr h)
 ·exact .inr aD
theorem MK {c:UInt8} (h1:pO c=false) (h2:iZ c=false) (h3:¬ (c.toNat:Int)=95):kT c=false:=by
 simp only [kT,mK,eE];exact ⟨⟨h1,h2⟩,aD⟩
theorem MH {q:UInt8->Bool} {l:Str} (h:k<=pre q l) (hk:¬ k<l.length):k=pre q l:=by
 have:=uM q l;omega
theorem HY (s:Str) (o n:Nat):(s.take (o+n)).drop o=(s.drop o).take n:=by
 rw [vE,jB]
theorem bA0 {l x:Str} (h:symbols.find? (λx=>x.isPrefixOf l)=some x):l.take x.length=x:=by
 have h1:=List.find?_some (p:=λ(x:Str)=>x.isPrefixOf l) h;obtain ⟨t,ht⟩:=iH.1 h1;rw [<-ht,iY]
theorem bQ2 {l:Str} (hk:k<39) (h:words.getD k []=l):words.contains l=true:=by
 rw [gI,<-h,nY (show k<words.length from hk)];exact aX _
theorem bQ1 {l:Str} (h:∀ j,j<39->words.getD j []≠l):words.contains l=false:=by
 rw [Bool.eq_false_iff,Ne,gI];intro hm;obtain ⟨j,hj,e⟩:=pQ.1 hm;exact h j hj (by rw [nY hj];exact e)
theorem bF0 (H:Hp) (s:Str) (hl:s.length<=1000000) (o:Nat) (ho:o<s.length) (w:World) (hA:Agr H w) :
 Calls prg 68 #[bJ s,iN o] w λr w'=>r=.returned (.agg [iN ((dD (s.drop o)).1.toNat),bJ ((s.drop o).take (dD (s.drop o)).2),iN o].toArray)/\Ext w w':=by
 obtain ⟨l,hm⟩:∃ l,l=s.drop o:=⟨_,Z⟩;rw [<-hm];have hlen:o+l.length=s.length:=by rw [hm,dA];omega
 have hget:∀ k (h:k<l.length),s[o+k]? = some l[k]:=λk h=>by rw [<-List.getElem?_drop,<-hm,List.getElem?_eq_getElem h]
 cases l with
 | nil=>simp only [aH] at hlen;omega
 | cons c m =>
 have hlen2:(c::m).length=m.length+1:=rfl;refine Sx.enter (H:=H) func68 rfl ntmps68 rfl hA ?_;refine .sr<|.al TJ Z λb4=>.ns<|.mv Z<|.aq Z<|.sq<|.sm Z<|.mv Z<|.yw (.idxS dX Z Z Z (b:=c) (j:=o) (by rw [<-jH o];exact hget 0 fG))<|.yw (.xl Z (λW s=>KV _ W))<|.nt<|.cd Z (λh15=>?_) (λh15=>?_)
 ·refine .cu (X:=Unit) [(0,_),(1,_),(4,_)] ⟨Z,Z,Z,Jt⟩ (λz=>[(5,.int .i64 ((o+pre kT (c::m):Nat):Int))]) (λz=>H) (λz=>[.box b4 [.int .i64 0,dV,.int .i64 0] 70]) (λz=>True) ?_ λz hC=>?_
  ·
   refine .bk<|.lp (X:=Nat) [(0,_),(1,_),(4,_)] ⟨Z,Z,Z,Jt⟩ [_] (λk=>[(5,.int .i64 ((o+k:Nat):Int))]) (λk=>H) (λk=>[]) (λk=>k<=pre kT (c::m)) (λk=>pre kT (c::m) - k) 0 (λ_ s=>s) ⟨Z,Jt⟩ aD λk hC=>?_
   refine .sq<|.sm Z<|.mv Z<|.yw (.lenS dX Z)<|.yw (.lss Z Z)<|.mv Z<|.e2 (λh20=>?_) (λh20=>?_)
   ·have hk:k<(c::m).length:=aD
    refine .gy (.move Z)<|.gy (.move Z)<|.gy (.idxS dX Z Z Z (b:=(c::m)[k]) (j:=o+k) (hget k hk))<|.gy (.xl Z (λW s=>KV _ W))<|.gy (.move Z)<|.b2 (λh25=>?_) (λh25=>?_)
    ·exact .g4<|.gy (.pickT Z Z)<|.gy (.move Z)<|.g4<|.gy (.pickT Z Z)<|.pT Z<|.nt<|.cT Z<|.sk<|.tN<|.bk<|.rg<|.mv Z<|.yw (.add Z Z (c:=((o+(k+1):Nat):Int)) ((w6 aD).trans aD))<|.a Z Z<|.nl<|.bN<|.tN<|.ag (k+1) ⟨Z,Jt⟩ ⟨Z,Z,Z,Jt⟩ (λ_ s=>s) (rR hk hC (JO (by first | exact .inl xM | exact .inr (.inl xM) | exact .inr (.inr aD)))) (by have:=rR hk hC (JO (by first | exact .inl xM | exact .inr (.inl xM) | exact .inr (.inr aD)));omega)
    refine .gy (.move Z)<|.gy (.move Z)<|.gy (.idxS dX Z Z Z (b:=(c::m)[k]) (j:=o+k) (hget k hk))<|.gy (.xl Z (λW s=>GH _ W))<|.gy (.pickF Z Z)<|.gy (.move Z)<|.b2 (λh31=>?_) (λh31=>?_)
    ·exact .g4<|.gy (.pickT Z Z)<|.pT Z<|.nt<|.cT Z<|.sk<|.tN<|.bk<|.rg<|.mv Z<|.yw (.add Z Z (c:=((o+(k+1):Nat):Int)) ((w6 aD).trans aD))<|.a Z Z<|.nl<|.bN<|.tN<|.ag (k+1) ⟨Z,Jt⟩ ⟨Z,Z,Z,Jt⟩ (λ_ s=>s) (rR hk hC (JO (by first | exact .inl xM | exact .inr (.inl xM) | exact .inr (.inr aD)))) (by have:=rR hk hC (JO (by first | exact .inl xM | exact .inr (.inl xM) | exact .inr (.inr aD)));omega)
    refine .gy (.move Z)<|.gy (.move Z)<|.gy (.idxS dX Z Z Z (b:=(c::m)[k]) (j:=o+k) (hget k hk))<|.gy (.eql Z Z)<|.gy (.pickF Z Z)<|.pT Z<|.nt<|.ce Z (λh37=>?_) (λh37=>?_)
    ·exact .sk<|.tN<|.bk<|.rg<|.mv Z<|.yw (.add Z Z (c:=((o+(k+1):Nat):Int)) ((w6 aD).trans aD))<|.a Z Z<|.nl<|.bN<|.tN<|.ag (k+1) ⟨Z,Jt⟩ ⟨Z,Z,Z,Jt⟩ (λ_ s=>s) (rR hk hC (JO (by first | exact .inl xM | exact .inr (.inl xM) | exact .inr (.inr aD)))) (by have:=rR hk hC (JO (by first | exact .inl xM | exact .inr (.inl xM) | exact .inr (.inr aD)));omega)
    exact .ex<|.eb<|.me () ⟨(by first | (rw [<-MH hC aD];rfl) | (rw [<-yD hk hC (by first | exact MK xM xM aD | assumption)];rfl)),Jt⟩ ⟨Z,Z,Z,Jt⟩ (λ_ s=>s) trivial
   exact .g4<|.gG<|.gV<|.gV<|.gV<|.gV<|.g2<|.gV<|.gV<|.gV<|.gV<|.gG<|.pF Z<|.nt<|.cF Z<|.ex<|.eb<|.me () ⟨(by first | (rw [<-MH hC aD];rfl) | (rw [<-yD hk hC (by first | exact MK xM xM aD | assumption)];rfl)),Jt⟩ ⟨Z,Z,Z,Jt⟩ (λ_ s=>s) trivial
  refine .sm Z<|.mv Z<|.mv Z<|.yw (.cast (.midS dX Z Z Z Z Z aD (by have:=uM kT (c::m);omega)) (by rw [HY,<-hm]))<|.aq Z<|.sq<|.sr<|.xt (X:=Nat) Z (λW s=>QM H W s.agr) λb44 H1 m1 u1=>.yw (.lenSl fD Z)<|.mv Z<|.nt<|.bk<|.lp (X:=Nat) [(0,_),(1,_),(4,_),(5,_),(6,_),(44,_),(45,_)] ⟨Z,Z,Z,Z,Z,Z,Z,Jt⟩ [_] (λk=>[(46,iN k)]) (λk=>H1) (λk=>[]) (λk=>k<=39/\∀ j,j<k->words.getD j []≠((c::m).take (pre kT (c::m)))) (λk=>39 - k) 0 (λ_ s=>s) ⟨Z,Jt⟩ ⟨aD,λj hj=>by omega⟩ λk hC=>?_
  obtain ⟨hk0,hne⟩:=hC;refine .sr<|.yw (.lss Z Z)<|.nt<|.sq<|.ce Z (λh47=>?_) (λh47=>?_)
  ·refine .sk<|.tN<|.sq<|.bk<|.sr<|.yw (.indexSl fD Z Z Z aD (q:=k) aD)<|.yw (.loadM Z bT m1 (k:=k) aD (tI (by show k<39;omega) []))<|.a Z Z<|.ns<|.mv Z<|.mv Z<|.yw (.eqS Z Z)<|.nt<|.ce Z (λh52=>?_) (λh52=>?_)
   ·have hw:=bQ2 aD h52;refine .sm Z<|.mv Z<|.yw (.build Z (lY _ _ _))<|.sX .head Z Z sD Z<|.zR<|.tR<|.bR<|.tR<|.tR<|?_
    refine y8 Z (.cell Z uY Hm rfl) λW s=>⟨?_,(u1.grow s).ext⟩
    (simp only [dD,bU,h15,hw,dC,cZ,aM];rfl)
   exact .sk<|.bN<|.tN<|.rg<|.yw (.add Z Z w7)<|.mv Z<|.nt<|.ag (k+1) ⟨Z,Jt⟩ ⟨Z,Z,Z,Z,Z,Z,Z,Jt⟩ (λ_ s=>s) ⟨aD,λj hj=>by
   by_cases e:j=k
   ·subst e;exact h52
   ·exact hne j aD⟩ aD
  have hw:=bQ1 (λj hj=>hne j aD);refine .ex<|.eb<|.sq<|.sm Z<|.yw (.lenS dX Z)<|.yw (.leq Z Z)<|.nt<|.ce Z (λh59=>?_) (λh59=>?_)
  ·have hw9:pre kT (c::m)<=12:=by have:=uM kT (c::m);rw [dG] at h59;omega
   refine .sm Z<|.mv Z<|.yw (.build Z (lY _ _ _))<|.sX .head Z Z sD Z<|.nt<|.rt<|.tR<|.tR<|?_
   refine y8 Z (.cell Z uY Hm rfl) λW s=>⟨?_,(u1.grow s).ext⟩
   (simp only [dD,bU,h15,hw,hw9,dC,cZ,aM];rfl)
  have hw9:¬ pre kT (c::m)<=12:=by have:=uM kT (c::m);rw [dG] at h59;omega
  refine .sk<|.tN<|.sm Z<|.mv Z<|.yw (.cast (.dropS dX Z Z Z aD) (by rw [<-hm]))<|.mv Z<|.yw (.build Z (lY _ _ _))<|.sX .head Z Z sD Z<|.nt<|.rt<|.tR<|?_
  refine y8 Z (.cell Z uY Hm rfl) λW s=>⟨?_,(u1.grow s).ext⟩
  (simp only [dD,bU,h15,hw,hw9,dC,cZ,aM,bW];rfl)
 refine .sk<|.tN<|.sq<|.sm Z<|.mv Z<|.yw (.idxS dX Z Z Z (b:=c) (j:=o) (by rw [<-jH o];exact hget 0 fG))<|.yw (.xl Z (λW s=>GH _ W))<|.nt<|.cd Z (λh71=>?_) (λh71=>?_)
 ·refine .cu (X:=Unit) [(0,_),(1,_),(4,_)] ⟨Z,Z,Z,Jt⟩ (λz=>[(5,.int .i64 ((o+pre iZ (c::m):Nat):Int))]) (λz=>H) (λz=>[.box b4 [.int .i64 0,dV,.int .i64 0] 70]) (λz=>True) ?_ λz hC=>?_
  ·
   refine .bk<|.lp (X:=Nat) [(0,_),(1,_),(4,_)] ⟨Z,Z,Z,Jt⟩ [_] (λk=>[(5,.int .i64 ((o+k:Nat):Int))]) (λk=>H) (λk=>[]) (λk=>k<=pre iZ (c::m)) (λk=>pre iZ (c::m) - k) 0 (λ_ s=>s) ⟨Z,Jt⟩ aD λk hC=>?_
   refine .sq<|.sm Z<|.mv Z<|.yw (.lenS dX Z)<|.yw (.lss Z Z)<|.mv Z<|.e2 (λh76=>?_) (λh76=>?_)
   ·have hk:k<(c::m).length:=aD
    refine .gy (.move Z)<|.gy (.move Z)<|.gy (.idxS dX Z Z Z (b:=(c::m)[k]) (j:=o+k) (hget k hk))<|.gy (.xl Z (λW s=>GH _ W))<|.pT Z<|.nt<|.cd Z (λh81=>?_) (λh81=>?_)
    ·exact .sk<|.tN<|.bk<|.rg<|.mv Z<|.yw (.add Z Z (c:=((o+(k+1):Nat):Int)) ((w6 aD).trans aD))<|.a Z Z<|.nl<|.bN<|.tN<|.ag (k+1) ⟨Z,Jt⟩ ⟨Z,Z,Z,Jt⟩ (λ_ s=>s) (rR hk hC xM) (by have:=rR hk hC xM;omega)
    exact .ex<|.eb<|.me () ⟨(by first | (rw [<-MH hC aD];rfl) | (rw [<-yD hk hC (by first | exact MK xM xM aD | assumption)];rfl)),Jt⟩ ⟨Z,Z,Z,Jt⟩ (λ_ s=>s) trivial
   exact .g4<|.pF Z<|.nt<|.cF Z<|.ex<|.eb<|.me () ⟨(by first | (rw [<-MH hC aD];rfl) | (rw [<-yD hk hC (by first | exact MK xM xM aD | assumption)];rfl)),Jt⟩ ⟨Z,Z,Z,Jt⟩ (λ_ s=>s) trivial
  refine .sq<|.sm Z<|.mv Z<|.yw (.idxS dX Z Z Z (b:=c) (j:=o) (by rw [<-jH o];exact hget 0 fG))<|.yw (.eql Z Z)<|.mv Z<|.e2 (λh88=>?_) (λh88=>?_)
  ·have h48:c=48:=aR.1 (by show c.toNat=48;omega);refine .gy (.move Z)<|.gy (.move Z)<|.gy (.add Z Z w7)<|.gy (.gtr Z Z)<|.pT Z<|.nt<|.ce Z (λh93=>?_) (λh93=>?_)
   ·have hor:¬ (pre iZ (c::m)=1\/c≠48):=by
     rintro (h | h)
     ·omega
     ·exact h h48
    refine .sm Z<|.mv Z<|.yw (.cast (.dropS dX Z Z Z aD) (by rw [<-hm]))<|.mv Z<|.yw (.build Z (lY _ _ _))<|.sX .head Z Z sD Z<|.nt<|.rt<|.tR<|.tR<|?_
    refine y8 Z (.cell Z uY Hm rfl) λW s=>⟨?_,(s.ext)⟩
    (simp only [dD,bU,h15,h71,hor,dC,cZ,aM,bW];rfl)
   have hp1:=rR (l:=c::m) (k:=0) fG (aN _) h71;have hor:(pre iZ (c::m)=1\/c≠48):=.inl aD;refine .sk<|.tN<|.sm Z<|.mv Z<|.mv Z<|.yw (.cast (.midS dX Z Z Z Z Z aD (by have:=uM iZ (c::m);omega)) (by rw [HY,<-hm]))<|.mv Z<|.yw (.build Z (lY _ _ _))<|.sX .head Z Z sD Z<|.nt<|.rt<|.tR<|?_
   refine y8 Z (.cell Z uY Hm rfl) λW s=>⟨?_,(s.ext)⟩
   (simp only [dD,bU,h15,h71,hor,dC,cZ,aM];rfl)
  have hor:(pre iZ (c::m)=1\/c≠48):=.inr (λe=>h88 (by rw [e];rfl));refine .g4<|.pF Z<|.nt<|.cF Z<|.sk<|.tN<|.sm Z<|.mv Z<|.mv Z<|.yw (.cast (.midS dX Z Z Z Z Z aD (by have:=uM iZ (c::m);omega)) (by rw [HY,<-hm]))<|.mv Z<|.yw (.build Z (lY _ _ _))<|.sX .head Z Z sD Z<|.nt<|.rt<|.tR<|?_
  refine y8 Z (.cell Z uY Hm rfl) λW s=>⟨?_,(s.ext)⟩
  (simp only [dD,bU,h15,h71,hor,dC,cZ,aM];rfl)
 refine .sk<|.tN<|.sq<|.sr<|.xt (X:=Nat) Z (λW s=>UC H W s.agr) λb105 H1 m1 u1=>.yw (.lenSl fD Z)<|.mv Z<|.nt<|.bk<|.lp (X:=Nat) [(0,_),(1,_),(4,_),(105,_),(106,_)] ⟨Z,Z,Z,Z,Z,Jt⟩ [_] (λk=>[(107,iN k)]) (λk=>H1) (λk=>[]) (λk=>k<=25/\∀ j,j<k->yZ (c::m) (symbols.getD j [])=false) (λk=>25 - k) 0 (λ_ s=>s) ⟨Z,Jt⟩ ⟨aD,λj hj=>by omega⟩ λk hC=>?_
 obtain ⟨hk0,hne⟩:=hC;refine .sr<|.yw (.lss Z Z)<|.nt<|.sq<|.ce Z (λh108=>?_) (λh108=>?_)
 ·refine .sk<|.tN<|.sq<|.bk<|.sr<|.yw (.indexSl fD Z Z Z aD (q:=k) aD)<|.yw (.loadM Z bT m1 (k:=k) aD (tI (by show k<25;omega) []))<|.a Z Z<|.ns<|.mv Z<|.yw (.lenS dX Z)<|.mv Z<|.yw (.sub Z Z (w6 aD))<|.mv Z<|.yw (.lenS dX Z)<|.yw (.geq Z Z)<|.mv Z<|.e2 (λh118=>?_) (λh118=>?_)
  ·refine .gy (.move Z)<|.gy (.move Z)<|.gy (.move Z)<|.gy (.move Z)<|.gy (.lenS dX Z)<|.gy (.add Z Z w7)<|.gy (.cast (.midS dX Z Z Z Z (hi:=o+(symbols.getD k []).length) aD aD aD) (by rw [HY,<-hm]))<|.gy (.move Z)<|.gy (.eqS Z Z)<|.pT Z<|.nt<|.ce Z (λh128=>?_) (λh128=>?_)
   ·have hfind:=WY (l:=c::m) aD hne (by simp only [yZ,aE,aB] at *;exact ⟨aD,by assumption⟩);refine .sm Z<|.mv Z<|.yw (.build Z (lY _ _ _))<|.sX .head Z Z sD Z<|.zR<|.tR<|.bR<|.tR<|?_
    refine y8 Z (.cell Z uY Hm rfl) λW s=>⟨?_,(u1.grow s).ext⟩
    (simp only [dD,bU,h15,h71,hfind,dC,cZ,aM,bA0 hfind];rfl)
   exact .sk<|.bN<|.tN<|.rg<|.yw (.add Z Z w7)<|.mv Z<|.nt<|.ag (k+1) ⟨Z,Jt⟩ ⟨Z,Z,Z,Z,Z,Jt⟩ (λ_ s=>s) ⟨aD,λj hj=>by
   by_cases e:j=k
   ·subst e;simp only [yZ,pD,eE] at *;first | exact .inl aD | exact .inr xM
   ·exact hne j aD⟩ aD
  exact .g4<|.g4<|.gG<|.pF Z<|.nt<|.cF Z<|.sk<|.bN<|.tN<|.rg<|.yw (.add Z Z w7)<|.mv Z<|.nt<|.ag (k+1) ⟨Z,Jt⟩ ⟨Z,Z,Z,Z,Z,Jt⟩ (λ_ s=>s) ⟨aD,λj hj=>by
   by_cases e:j=k
   ·subst e;simp only [yZ,pD,eE] at *;first | exact .inl aD | exact .inr xM
   ·exact hne j aD⟩ aD
 have hfind:=WX (l:=c::m) (λj hj=>hne j aD);refine .ex<|.eb<|.sm Z<|.mv Z<|.yw (.cast (.dropS dX Z Z Z aD) (by rw [<-hm]))<|.mv Z<|.yw (.build Z (lY _ _ _))<|.sX .head Z Z sD Z<|.nt<|.rt<|?_
 refine y8 Z (.cell Z uY Hm rfl) λW s=>⟨?_,(u1.grow s).ext⟩
 (simp only [dD,bU,h15,h71,hfind,dC,cZ,aM,bW];rfl)
theorem bG7 {m:Str} {o:Nat} (hm:m=s.drop o) (h:o<s.length) (hsl:(eU false (m.drop (dD m).2)).length<=m.length - (dD m).2) :
 eU false (m.drop (dD m).2)=s.drop (o+(m.length - (eU false (m.drop (dD m).2)).length)):=by
 have h1:=BF false (m.drop (dD m).2);rw [dA,fO] at h1
 by_cases h0:(dD m).2<=m.length
 ·rw [show (dD m).2+(m.length - (dD m).2 - (eU false (m.drop (dD m).2)).length)=m.length - (eU false (m.drop (dD m).2)).length by omega] at h1;rw [<-fO,<-hm];exact h1.symm
 ·have e:m.drop (dD m).2=[]:=fY aD;rw [e,sA,<-fO,<-hm];simp
theorem cH1 (H:Hp) (s:Str) (hl:s.length<=1000000) (o:Nat) (ho:o<s.length) (m:Str) (hm:m=s.drop o) (w:World) (hA:Agr H w) :
 Calls prg 68 #[bJ s,iN o] w λr w'=>r=.returned (.agg (cTk .i64 ⟨(dD m).1,m.take (dD m).2,o⟩).toArray)/\Ext w w':=by
 subst hm;exact bF0 H s hl o ho w hA
theorem bG9 (H:Hp) (s:Str) (hl:s.length<=1000000) (w:World) (hA:Agr H w) :
 Calls prg 32 #[bJ s] w λr w'=>∃ (v:Value) (H':Hp),Rep H' (.seq 3 ((pL s).map (dTk .i64))) [v]/\r=.returned v/\wV H w H' w':=by
 refine Sx.enter (H:=H) func32 rfl ntmps32 rfl hA ?_;refine .sr<|.a Z Z<|.ns<|.a Z Z<|?_
 refine Sx.row0 70 3 ?_;refine .ns<|.mv Z<|.yw (.xl Z (λW _=>XC s hl 0 aD W))<|.aq Z<|.sq<|.bk<|.lp (X:=Nat × Nat × Value × List Value) [(0,_)] ⟨Z,Jt⟩ [] (λz=>[(3,z.2.2.1),(4,iN z.1)]) (λz=>H) (λz=>[.row 70 3 z.2.2.1 z.2.1 z.2.2.2]) (λz=>z.1<=s.length/\z.2.1<=z.1/\∃ tk:List Tk,tk.length=z.2.1/\dT H 3 (tk.map (dTk .i64)) z.2.2.2/\tk++CL (s.length+1) z.1 (s.drop z.1)=pL s) (λz=>s.length - z.1) (s.length - (eU false s).length,0,cL,[]) (λ_ s=>s) ⟨Z,Z,Jt⟩ ⟨by dsimp only;omega,by dsimp only;omega,[],Z,dT.nil,by rw [BF];rfl⟩ λz hC=>?_
 obtain ⟨o,n,r,xs⟩:=z;dsimp only at hC|-;obtain ⟨ho,hn,tk,hk,hz,htk⟩:=hC;refine .sq<|.sm Z<|.mv Z<|.yw (.lenS dX Z)<|.yw (.lss Z Z)<|.nt<|.ce Z (λh11=>?_) (λh11=>?_)
 ·have hlt:o<s.length:=aD
  obtain ⟨m,hm⟩:∃ m,m=s.drop o:=⟨_,Z⟩;have hml:m.length=s.length - o:=by rw [hm,dA]
  have hm0:m≠[]:=by intro e;rw [e] at hml;simp at hml;omega
  have hrk:=tZ hm0;have htl:(m.take (dD m).2).length=(dD m).2:=by rw [dG];omega
  rw [<-hm] at htk;have hsl:=pJ false (m.drop (dD m).2);rw [dA] at hsl;exact .sk<|.tN<|.bk<|.sm Z<|.mv Z<|.yw (.xl Z (λW t=>cH1 H s hl o hlt m hm W t.agr))<|.al TJ Z λb5=>.sW .head Z Z sD (by simp [cTk,Value.oneCell',bJ]) Z<|.ns<|.mv Z<|.yw (.loadW Z uY Hm Z)<|.bl Z (aI1 _ _ _) Z λb17=>.ap (news:=cTk .i64 ⟨(dD m).1,m.take (dD m).2,o⟩) bP0 Z (λ_=>iE) Z (.box Hm z0) Z (by simp [cTk,Value.oneCell',bJ]) (by simp [maxLen];omega) aD Z λr18 _=>.aq Z<|.rg<|.mv Z<|.mv Z<|.fA Z IQ<|.lD Z bT cU Z<|.yw (.lenS dX Z)<|.yw (.add Z Z (c:=((o+(dD m).2:Nat):Int)) (by rw [htl];exact (w6 aD).trans aD))<|.yw (.cast (.xl Z (λW _=>XC s hl (o+(dD m).2) aD W)) (by rw [<-fO,<-hm,show s.length - (eU false (m.drop (dD m).2)).length=o+(m.length - (eU false (m.drop (dD m).2)).length) by omega]))<|.a Z Z<|.nl<|.bN<|.tN<|.ag (x:=(o,n,r,xs)) (o+(m.length - (eU false (m.drop (dD m).2)).length),n+1,r18,xs++cTk .i64 ⟨(dD m).1,m.take (dD m).2,o⟩) ⟨Z,Z,Jt⟩ ⟨Z,Jt⟩ (λ_ s=>(s.pick [2] _ Z Z)) ⟨by dsimp only;omega,by dsimp only;omega,tk++[⟨(dD m).1,m.take (dD m).2,o⟩],by simp;omega,by dsimp only;rw [bI];exact hz.snoc (LZ (by rw [htl];omega)) Z,by dsimp only;rw [<-htk,aV,<-bG7 hm hlt hsl,nQ hm0,bY,dE,EG (s.length+1) s.length _ _ aD aD]⟩ (by dsimp only;omega)
 obtain rfl:o=s.length:=aD
 rw [List.drop_length,qJ,eL] at htk;refine .ex<|.eb<|.sm Z<|.az Z<|?_
 refine At.pm [0] [_] rfl rfl ?_;refine iI (ds:=(pL s).map (dTk .i64)) (by rw [<-htk];simp;omega) (by rw [<-htk];exact hz) λH3 p3 c3 u3 hr3 hs3=>?_;exact y9 Z Z λW t=>⟨r,H3,hs3,Z,u3.grow t⟩
theorem bE1 {x:Tk} (h:(pL s).length=1) (hx:(pL s)[0]=x):pL s=[x]:=by
 match e:pL s,h with
 | [y],_=>simp only [e,List.getElem_cons_zero] at hx;rw [hx]
theorem bF3 (h:¬ (pL s).length=1):gL s=false:=by
 rw [Bool.eq_false_iff,Ne,OI];rintro ⟨o,e⟩;rw [e] at h;exact h rfl
theorem bF2 {x:Tk} (h:(pL s).length=1) (hx:(pL s)[0]=x) (hk:¬ x.k=1):gL s=false:=by
 rw [Bool.eq_false_iff,Ne,OI];rintro ⟨o,e⟩;rw [bE1 h hx] at e;injection e with e _
 exact hk (by rw [e])
theorem UX {x:Tk} (h:(pL s).length=1) (hx:(pL s)[0]=x) (hk:x.k=1):gL s=decide (x.t=s):=by
 rw [aQ,OI,aB,bE1 h hx];obtain ⟨k,t,o⟩:=x
 constructor
 ·rintro ⟨o,e⟩;injection e with e _
  injection e
 ·intro e;dsimp only at hk e;exact ⟨o,by rw [hk,e]⟩
theorem rT (H:Hp) (s:Str) (hl:s.length<=1000000) (w:World) (hA:Agr H w) :
 Calls prg 83 #[bJ s] w λr w'=>r=.returned (.bool (gL s))/\Ext w w':=by
 refine Sx.enter (H:=H) func83 rfl ntmps83 rfl hA ?_;refine .sr<|.a Z Z<|.ns<|.mv Z<|.xt (X:=Value) Z (λW t=>bG9 H s hl W t.agr) λv H1 hsq u1=>?_
 obtain ⟨p,c,e,_⟩:=hsq.sl;simp only [bV,dL] at e;subst e;refine .a Z Z<|.ns<|.mv Z<|.yw (.lenSl VX Z)<|.yw (.eql Z Z)<|.mv Z<|.e2 (λh9=>?_) (λh9=>?_)
 ·have hl1:(pL s).length=1:=by simp only [aP] at *;omega
  obtain ⟨bE,oE,cE,hpE,rE,lE,mE⟩:=hsq.elem (eR (f:=dTk .i64) (show 0<(pL s).length by omega));subst hpE;generalize hx:(pL s)[0]=x at rE;obtain ⟨rfl,hxt⟩:=MA rE;refine .gy (.move Z)<|.gy (.indexSl VX Z Z (i:=0) Z aD (q:=oE+0 * 3) aD)<|.gy (.fieldAddr Z VY)<|.gy (.loadM Z bQ mE (k:=0) Z Z)<|.gy (.eql Z Z)<|.pT Z<|.mv Z<|.e2 (λh16=>?_) (λh16=>?_)
  ·have hk1:x.k=1:=aR.1 (by show x.k.toNat=1;omega);refine .gy (.move Z)<|.gy (.indexSl VX Z Z (i:=0) Z aD (q:=oE+0 * 3) aD)<|.gy (.fieldAddr Z IQ)<|.gy (.loadM Z bT mE (k:=1) Z Z)<|.gy (.move Z)<|.gy (.eqS Z Z)<|.pT Z<|.az Z<|?_
   refine y9 Z Z λW t=>⟨?_,(u1.grow t).ext⟩
   first
    | (rw [hno])
    | (rw [UX hl1 hx hk1])
  have hno:gL s=false:=bF2 hl1 hx (λe=>h16 (by rw [e];rfl));refine .g4<|.g2<|.pF Z<|.az Z<|?_
  refine y9 Z Z λW t=>⟨?_,(u1.grow t).ext⟩
  first
   | (rw [hno])
   | (rw [UX hl1 hx hk1])
 have hno:gL s=false:=bF3 (by simp only [aP] at *;omega);refine .g4<|.gG<|.pF Z<|.mv Z<|.g4<|.g2<|.pF Z<|.az Z<|?_
 refine y9 Z Z λW t=>⟨?_,(u1.grow t).ext⟩
 first
  | (rw [hno])
  | (rw [UX hl1 hx hk1])
theorem cP9 (e:Ex):∃ o m n a,e=.mk o m n a:=by
 obtain ⟨o,m,n,a⟩:=e;exact ⟨o,m,n,a,Z⟩
def rfN (k:Nat):Bool:=(decide (4<=k) && decide (k<=7)) || (decide (16<=k) && decide (k<=18))
def rfF (k:Nat):Bool:=decide (k=4) || decide (k=5) || decide (k=7)
theorem GE {a b c d:Bool} (h1:a=c) (h2:b=d):Ending.returned (.tuple #[.bool a,.bool b])=.returned (.tuple #[.bool c,.bool d]):=by rw [h1,h2]
theorem PB (H:Hp) (k:Nat) (w:World) (hA:Agr H w):Calls prg 82 #[iN k] w λr w'=>r=.returned (.tuple #[.bool (rfN k),.bool (rfF k)])/\Ext w w':=by
 refine Sx.enter (H:=H) func82 rfl ntmps82 rfl hA ?_;refine .sr<|.a Z Z<|.a Z Z<|.ns<|.mv Z<|.yw (.geq Z Z)<|.mv Z<|.e2 (λh6=>?_) (λh6=>?_)
 ·refine .gy (.move Z)<|.gy (.leq Z Z)<|.pT Z<|.mv Z<|.e2 (λh10=>?_) (λh10=>?_)
  ·refine .g3<|.gV<|.gV<|.gG<|.pT Z<|.mv Z<|.yw (.eql Z Z)<|.mv Z<|.b2 (λh20=>?_) (λh20=>?_)
   ·try simp only [dt] at h20
    refine .g2<|.pT Z<|.mv Z<|.g2<|.pT Z<|.a Z Z<|.az Z<|?_
    refine y7 Z (.cons (.tmp Z) (.cons (.tmp Z) .nil)) rfl λW s=>⟨GE (by unfold rfN;rw [aQ];(try simp only [aW,aE,aB,reduceCtorEq,cO,cI,cP,cH,bC,aM]);omega) (by unfold rfF;rw [aQ];(try simp only [aW,aE,aB,reduceCtorEq,cO,cI,cP,cH,bC,aM]);omega),s.ext⟩
   try simp only [df] at h20
   refine .gy (.move Z)<|.gy (.eql Z Z)<|.pF Z<|.mv Z<|.b2 (λh24=>?_) (λh24=>?_)
   ·try simp only [dt] at h24
    refine .g2<|.pT Z<|.a Z Z<|.az Z<|?_
    refine y7 Z (.cons (.tmp Z) (.cons (.tmp Z) .nil)) rfl λW s=>⟨GE (by unfold rfN;rw [aQ];(try simp only [aW,aE,aB,reduceCtorEq,cO,cI,cP,cH,bC,aM]);omega) (by unfold rfF;rw [aQ];(try simp only [aW,aE,aB,reduceCtorEq,cO,cI,cP,cH,bC,aM]);omega),s.ext⟩
   try simp only [df] at h24
   refine .gy (.move Z)<|.gy (.eql Z Z)<|.pF Z<|.a Z Z<|.az Z<|?_
   refine y7 Z (.cons (.tmp Z) (.cons (.tmp Z) .nil)) rfl λW s=>⟨GE (by unfold rfN;rw [aQ];(try simp only [aW,aE,aB,reduceCtorEq,cO,cI,cP,cH,bC,aM]);omega) (by unfold rfF;rw [aQ];(try simp only [aW,aE,aB,reduceCtorEq,cO,cI,cP,cH,bC,aM]);omega),s.ext⟩
  refine .gy (.move Z)<|.gy (.geq Z Z)<|.gy (.move Z)<|.b2 (λh13=>?_) (λh13=>?_)
  ·try simp only [dt] at h13
   refine .gy (.move Z)<|.gy (.leq Z Z)<|.gy (.pickT Z Z)<|.pF Z<|.mv Z<|.yw (.eql Z Z)<|.mv Z<|.b2 (λh20=>?_) (λh20=>?_)
   ·try simp only [dt] at h20
    refine .g2<|.pT Z<|.mv Z<|.g2<|.pT Z<|.a Z Z<|.az Z<|?_
    refine y7 Z (.cons (.tmp Z) (.cons (.tmp Z) .nil)) rfl λW s=>⟨GE (by unfold rfN;rw [aQ];(try simp only [aW,aE,aB,reduceCtorEq,cO,cI,cP,cH,bC,aM]);omega) (by unfold rfF;rw [aQ];(try simp only [aW,aE,aB,reduceCtorEq,cO,cI,cP,cH,bC,aM]);omega),s.ext⟩
   try simp only [df] at h20
   refine .gy (.move Z)<|.gy (.eql Z Z)<|.pF Z<|.mv Z<|.b2 (λh24=>?_) (λh24=>?_)
   ·try simp only [dt] at h24
    refine .g2<|.pT Z<|.a Z Z<|.az Z<|?_
    refine y7 Z (.cons (.tmp Z) (.cons (.tmp Z) .nil)) rfl λW s=>⟨GE (by unfold rfN;rw [aQ];(try simp only [aW,aE,aB,reduceCtorEq,cO,cI,cP,cH,bC,aM]);omega) (by unfold rfF;rw [aQ];(try simp only [aW,aE,aB,reduceCtorEq,cO,cI,cP,cH,bC,aM]);omega),s.ext⟩
   try simp only [df] at h24
   refine .gy (.move Z)<|.gy (.eql Z Z)<|.pF Z<|.a Z Z<|.az Z<|?_
   refine y7 Z (.cons (.tmp Z) (.cons (.tmp Z) .nil)) rfl λW s=>⟨GE (by unfold rfN;rw [aQ];(try simp only [aW,aE,aB,reduceCtorEq,cO,cI,cP,cH,bC,aM]);omega) (by unfold rfF;rw [aQ];(try simp only [aW,aE,aB,reduceCtorEq,cO,cI,cP,cH,bC,aM]);omega),s.ext⟩
  try simp only [df] at h13
  refine .g2<|.gy (.pickF Z Z)<|.pF Z<|.mv Z<|.yw (.eql Z Z)<|.mv Z<|.b2 (λh20=>?_) (λh20=>?_)
  ·try simp only [dt] at h20
   refine .g2<|.pT Z<|.mv Z<|.g2<|.pT Z<|.a Z Z<|.az Z<|?_
   refine y7 Z (.cons (.tmp Z) (.cons (.tmp Z) .nil)) rfl λW s=>⟨GE (by unfold rfN;rw [aQ];(try simp only [aW,aE,aB,reduceCtorEq,cO,cI,cP,cH,bC,aM]);omega) (by unfold rfF;rw [aQ];(try simp only [aW,aE,aB,reduceCtorEq,cO,cI,cP,cH,bC,aM]);omega),s.ext⟩
  try simp only [df] at h20
  refine .gy (.move Z)<|.gy (.eql Z Z)<|.pF Z<|.mv Z<|.b2 (λh24=>?_) (λh24=>?_)
  ·try simp only [dt] at h24
   refine .g2<|.pT Z<|.a Z Z<|.az Z<|?_
   refine y7 Z (.cons (.tmp Z) (.cons (.tmp Z) .nil)) rfl λW s=>⟨GE (by unfold rfN;rw [aQ];(try simp only [aW,aE,aB,reduceCtorEq,cO,cI,cP,cH,bC,aM]);omega) (by unfold rfF;rw [aQ];(try simp only [aW,aE,aB,reduceCtorEq,cO,cI,cP,cH,bC,aM]);omega),s.ext⟩
  try simp only [df] at h24
  refine .gy (.move Z)<|.gy (.eql Z Z)<|.pF Z<|.a Z Z<|.az Z<|?_
  refine y7 Z (.cons (.tmp Z) (.cons (.tmp Z) .nil)) rfl λW s=>⟨GE (by unfold rfN;rw [aQ];(try simp only [aW,aE,aB,reduceCtorEq,cO,cI,cP,cH,bC,aM]);omega) (by unfold rfF;rw [aQ];(try simp only [aW,aE,aB,reduceCtorEq,cO,cI,cP,cH,bC,aM]);omega),s.ext⟩
 refine .g2<|.pF Z<|.mv Z<|.gy (.move Z)<|.gy (.geq Z Z)<|.gy (.move Z)<|.b2 (λh13=>?_) (λh13=>?_)
 ·try simp only [dt] at h13
  refine .gy (.move Z)<|.gy (.leq Z Z)<|.gy (.pickT Z Z)<|.pF Z<|.mv Z<|.yw (.eql Z Z)<|.mv Z<|.b2 (λh20=>?_) (λh20=>?_)
  ·try simp only [dt] at h20
   refine .g2<|.pT Z<|.mv Z<|.g2<|.pT Z<|.a Z Z<|.az Z<|?_
   refine y7 Z (.cons (.tmp Z) (.cons (.tmp Z) .nil)) rfl λW s=>⟨GE (by unfold rfN;rw [aQ];(try simp only [aW,aE,aB,reduceCtorEq,cO,cI,cP,cH,bC,aM]);omega) (by unfold rfF;rw [aQ];(try simp only [aW,aE,aB,reduceCtorEq,cO,cI,cP,cH,bC,aM]);omega),s.ext⟩
  try simp only [df] at h20
  refine .gy (.move Z)<|.gy (.eql Z Z)<|.pF Z<|.mv Z<|.b2 (λh24=>?_) (λh24=>?_)
  ·try simp only [dt] at h24
   refine .g2<|.pT Z<|.a Z Z<|.az Z<|?_
   refine y7 Z (.cons (.tmp Z) (.cons (.tmp Z) .nil)) rfl λW s=>⟨GE (by unfold rfN;rw [aQ];(try simp only [aW,aE,aB,reduceCtorEq,cO,cI,cP,cH,bC,aM]);omega) (by unfold rfF;rw [aQ];(try simp only [aW,aE,aB,reduceCtorEq,cO,cI,cP,cH,bC,aM]);omega),s.ext⟩
  try simp only [df] at h24
  refine .gy (.move Z)<|.gy (.eql Z Z)<|.pF Z<|.a Z Z<|.az Z<|?_
  refine y7 Z (.cons (.tmp Z) (.cons (.tmp Z) .nil)) rfl λW s=>⟨GE (by unfold rfN;rw [aQ];(try simp only [aW,aE,aB,reduceCtorEq,cO,cI,cP,cH,bC,aM]);omega) (by unfold rfF;rw [aQ];(try simp only [aW,aE,aB,reduceCtorEq,cO,cI,cP,cH,bC,aM]);omega),s.ext⟩
 try simp only [df] at h13
 refine .g2<|.gy (.pickF Z Z)<|.pF Z<|.mv Z<|.yw (.eql Z Z)<|.mv Z<|.b2 (λh20=>?_) (λh20=>?_)
 ·try simp only [dt] at h20
  refine .g2<|.pT Z<|.mv Z<|.g2<|.pT Z<|.a Z Z<|.az Z<|?_
  refine y7 Z (.cons (.tmp Z) (.cons (.tmp Z) .nil)) rfl λW s=>⟨GE (by unfold rfN;rw [aQ];(try simp only [aW,aE,aB,reduceCtorEq,cO,cI,cP,cH,bC,aM]);omega) (by unfold rfF;rw [aQ];(try simp only [aW,aE,aB,reduceCtorEq,cO,cI,cP,cH,bC,aM]);omega),s.ext⟩
 try simp only [df] at h20
 refine .gy (.move Z)<|.gy (.eql Z Z)<|.pF Z<|.mv Z<|.b2 (λh24=>?_) (λh24=>?_)
 ·try simp only [dt] at h24
  refine .g2<|.pT Z<|.a Z Z<|.az Z<|?_
  refine y7 Z (.cons (.tmp Z) (.cons (.tmp Z) .nil)) rfl λW s=>⟨GE (by unfold rfN;rw [aQ];(try simp only [aW,aE,aB,reduceCtorEq,cO,cI,cP,cH,bC,aM]);omega) (by unfold rfF;rw [aQ];(try simp only [aW,aE,aB,reduceCtorEq,cO,cI,cP,cH,bC,aM]);omega),s.ext⟩
 try simp only [df] at h24
 refine .gy (.move Z)<|.gy (.eql Z Z)<|.pF Z<|.a Z Z<|.az Z<|?_
 refine y7 Z (.cons (.tmp Z) (.cons (.tmp Z) .nil)) rfl λW s=>⟨GE (by unfold rfN;rw [aQ];(try simp only [aW,aE,aB,reduceCtorEq,cO,cI,cP,cH,bC,aM]);omega) (by unfold rfF;rw [aQ];(try simp only [aW,aE,aB,reduceCtorEq,cO,cI,cP,cH,bC,aM]);omega),s.ext⟩
def opI (k:Nat):Int:=if k<1\/18<k then -1 else if k<=7 then 0 else if (9<=k/\k<=11)\/k=15 then 2 else 1
theorem KW {a b:Int} (h:a=b):Ending.returned (.int .i64 a)=.returned (.int .i64 b):=by rw [h]
theorem aQ3 (H:Hp) (k:Nat) (w:World) (hA:Agr H w):Calls prg 70 #[iN k] w λr w'=>r=.returned (.int .i64 (opI k))/\Ext w w':=by
 refine Sx.enter (H:=H) func70 rfl ntmps70 rfl hA ?_;refine .sr<|.aq Z<|.sq<|.bk<|.sm Z<|.yw (.lss Z Z)<|.mv Z<|.e2 (λh6=>?_) (λh6=>?_)
 ·refine .g2<|.pT Z<|.aq Z<|.cT Z<|.sr<|.az Z<|.bR<|.tR<|?_
  refine yE Z Z (KW ?_);unfold opI
  repeat' split
  all_goals omega
 refine .gy (.move Z)<|.gy (.gtr Z Z)<|.pF Z<|.aq Z<|.ce Z (λh3=>?_) (λh3=>?_)
 ·refine .sr<|.az Z<|.bR<|.tR<|?_
  refine yE Z Z (KW ?_);unfold opI
  repeat' split
  all_goals omega
 refine .sm Z<|.yw (.leq Z Z)<|.aq Z<|.ce Z (λh10=>?_) (λh10=>?_)
 ·refine .sr<|.az Z<|.bR<|.tR<|?_
  refine yE Z Z (KW ?_);unfold opI
  repeat' split
  all_goals omega
 refine .sm Z<|.yw (.geq Z Z)<|.mv Z<|.e2 (λh16=>?_) (λh16=>?_)
 ·refine .gy (.move Z)<|.gy (.leq Z Z)<|.pT Z<|.mv Z<|.e2 (λh20=>?_) (λh20=>?_)
  ·refine .g2<|.pT Z<|.aq Z<|.cT Z<|.sr<|.az Z<|.bR<|.tR<|?_
   refine yE Z Z (KW ?_);unfold opI
   repeat' split
   all_goals omega
  refine .gy (.move Z)<|.gy (.eql Z Z)<|.pF Z<|.aq Z<|.cd Z (λh13=>?_) (λh13=>?_)
  ·try simp only [dt] at h13
   refine .sr<|.az Z<|.bR<|.tR<|?_
   refine yE Z Z (KW ?_);unfold opI
   repeat' split
   all_goals omega
  try simp only [df] at h13
  refine .sk<|.bN<|.tN<|.sr<|.az Z<|?_
  refine yE Z Z (KW ?_);unfold opI
  repeat' split
  all_goals omega
 refine .g2<|.pF Z<|.mv Z<|.gy (.move Z)<|.gy (.eql Z Z)<|.pF Z<|.aq Z<|.cd Z (λh13=>?_) (λh13=>?_)
 ·try simp only [dt] at h13
  refine .sr<|.az Z<|.bR<|.tR<|?_
  refine yE Z Z (KW ?_);unfold opI
  repeat' split
  all_goals omega
 try simp only [df] at h13
 refine .sk<|.bN<|.tN<|.sr<|.az Z<|?_
 refine yE Z Z (KW ?_);unfold opI
 repeat' split
 all_goals omega
theorem aL1 {e:Ex} (h:gdE e=true):Ex.all OD e=true:=by
 unfold gdE at h;rw [aE] at h;exact h.2
theorem NO {l:List Fm} (h:k<l.length):l.take (k+1)=l.take k++[l[k]]:=by rw [List.take_succ,List.getElem?_eq_getElem h];rfl
theorem cP5 (f:Fm):∃ o n d a b e r,f=.mk o n d a b e r:=by
 obtain ⟨o,n,d,a,b,e,r⟩:=f;exact ⟨o,n,d,a,b,e,r,Z⟩
def cM0 (g:Fm):Prop:=gdF g=true->∀ (H:Hp) (cs:List Value) (w:World),Rep H (dFm .i64 g) cs->Agr H w ->
 Calls prg 16 #[.agg cs.toArray] w λr w'=>∃ x H',Rep H' (dFm .u8 g) x/\r=.returned (.agg x.toArray)/\wV H w H' w'
set_option maxHeartbeats 1000000 in
theorem YJ (g:Fm):cM0 g:=by
 induction g using Fm.ind with | _ op nm fd a b ex args ih
 intro hgd H cs w h hA;obtain ⟨⟨hop,hexl,hal,hge⟩,hga⟩:=JP.1 hgd;obtain ⟨p1,c1,p2,c2,rfl,hs1,hs2,hnm,hfd⟩:=gK h;have hcap1:=hs1.cap;have hcap2:=hs2.cap;refine Sx.enter (H:=H) func16 rfl ntmps16 rfl hA ?_;refine .sr<|.bx Z Z Z λb1=>.al fB Z λb2=>.ns<|.fA Z hQ<|.lD Z bQ cU Z<|.yw (.conv Z kG ZI (c:=(op.toNat:Nat)) (by have:=op.toNat_lt;simp only [IntKind.wrap,IntKind.signed,IntKind.bits];simp;omega))<|.fA Z oL<|.lD Z bT cU Z<|.fA Z oK<|.lD Z bT cU Z<|.fA Z iX<|.lD Z bQ cU Z<|.fA Z iW<|.lD Z bQ cU Z<|.yw (.build Z (HG _ _ _ _ _))<|.al fB Z λb3=>.sX .head Z Z dK Z<|.nt<|.sq<|.sq<|?_
 refine Sx.row0 76 4 ?_;refine .rg<|.fA Z eZ<|.lD Z fM qL Z<|.yw (.lenSl fK Z)<|.mv Z<|.nt<|.bk<|.pm [1,0,2,3] [_,_,_,_] Z Z<|.lp (X:=Nat × Hp × Value × List Value) [(1,_),(2,_),(3,_),(21,_),(22,_)] ⟨Z,Z,Z,Z,Z,Jt⟩ [_,_] (λz=>[(23,iN z.1)]) (λz=>z.2.1) (λz=>[.box b3 [.int .u8 op.toNat,bJ nm,bJ fd,.int .i64 a.toInt,.int .i64 b.toInt,z.2.2.1,cL] 35,.row 76 4 z.2.2.1 z.1 z.2.2.2]) (λz=>z.1<=ex.length/\HUp w H z.2.1/\dT z.2.1 4 ((ex.take z.1).map (dEx .u8)) z.2.2.2) (λz=>ex.length - z.1) (0,H,cL,[]) (λ_ s=>s) ⟨Z,Jt⟩ ⟨by simp,.refl,dT.nil⟩ λz hC=>?_
 obtain ⟨k,H1,r,xs⟩:=z;dsimp only at hC|-;obtain ⟨hk0,u1,hz⟩:=hC;refine .sr<|.yw (.lss Z Z)<|.nt<|.sq<|.ce Z (λh24=>?_) (λh24=>?_)
 ·have hk:k<ex.length:=aD
  obtain ⟨bE,oE,cE,hpE,rE,lE,mE⟩:=(hs1.up u1.up).elem (eR (f:=dEx .i64) hk);cases hpE;have hnr:=aL1 (hge _ (aX hk));refine .sk<|.tN<|.sq<|.bk<|.sr<|.yw (.indexSl fK Z Z Z aD (q:=oE+k * 4) Z)<|.yw (.loadMW Z cY mE lE)<|.al gX Z λb5=>.sV .head Z Z eD lE rE.one Z<|.nt<|.fL 5 [(0,0),(1,0),(2,0),(3,1),(4,1)]<|.fA Z dB<|.lD Z dR cU Z<|.yw (.loadW Z cY Hm lE)<|.xt (X:=List Value) Z (λW s=>bK4 _ hnr H1 cE W rE s.agr) λx2 H2 hc2 u2=>?_
  obtain ⟨op2,nm2,n2,PL,hx⟩:=cP9 (ex[k]);rw [hx] at hc2;obtain ⟨p2,c2,rfl,hs2,hnm2⟩:=eV hc2;refine .bl Z (oZ _ _ _ _) Z λb31=>.fn (tl:=[_,_,_]) Z<|.ap (news:=[.int .u8 op2.toNat,bJ nm2,.int .i64 n2.toInt,.slice p2 PL.length c2]) wM Z (λ_=>lJ) Z (.box Hm z0) Z (by simp [Value.oneCell',bJ]) (by simp [maxLen];omega) aD Z λr32 _=>?_
  refine At.ra qL λp32 c32 e32=>?_;exact .fA Z dB<|.st iE Z Z nT (by rw [e32];rfl) (nb Z) Z<|.nl<|.bN<|.tN<|.rg<|.yw (.add Z Z w7)<|.mv Z<|.nt<|.ag (x:=(k,H1,r,xs)) (k+1,H2,r32,xs++[.int .u8 op2.toNat,bJ nm2,.int .i64 n2.toInt,.slice p2 PL.length c2]) ⟨Z,Jt⟩ ⟨Z,Z,Z,Z,Z,Jt⟩ (λ_ s=>(s.pick [2,3,4,5] _ Z Z)) ⟨by dsimp only;omega,u1.trans u2,by dsimp only;rw [tX hk,bI,hx];exact (hz.up u2.up).snoc hc2 Z⟩ (by dsimp only;omega)
 obtain rfl:k=ex.length:=aD
 rw [bW] at hz;refine At.ra (.tail _ Hm) λp32 c32 e32=>?_;subst e32;obtain ⟨HX,hHX⟩:∃ h,h=H1:=⟨_,Z⟩;rw [<-hHX] at u1 hz|-;have uX:=u1;have hzX:=hz;clear u1 hz hHX;refine .ex<|.eb<|.sq<|.sq<|?_
 refine Sx.row0 35 7 ?_;refine .rg<|.fA Z jL<|.lD Z qR wI Z<|.yw (.lenSl oI Z)<|.mv Z<|.nt<|.bk<|.pm [1,0,2,3,4] [_,_,_,_,_] Z Z<|.lp (X:=Nat × Hp × Value × List Value) [(2,_),(3,_),(36,_),(37,_)] ⟨Z,Z,Z,Z,Jt⟩ [_,_,_] (λz=>[(38,iN z.1)]) (λz=>z.2.1) (λz=>[.box b3 [.int .u8 op.toNat,bJ nm,bJ fd,.int .i64 a.toInt,.int .i64 b.toInt,.slice p32 ex.length c32,z.2.2.1] 35,.row 35 7 z.2.2.1 z.1 z.2.2.2]) (λz=>z.1<=args.length/\HUp w HX z.2.1/\dT z.2.1 7 ((args.take z.1).map (dFm .u8)) z.2.2.2) (λz=>args.length - z.1) (0,HX,cL,[]) (λ_ s=>s) ⟨Z,Jt⟩ ⟨by simp,.refl,dT.nil⟩ λz hC=>?_
 obtain ⟨k,H1,r,xs2⟩:=z;dsimp only at hC|-;obtain ⟨hk0,u1,hz⟩:=hC;refine .sr<|.yw (.lss Z Z)<|.nt<|.sq<|.ce Z (λh39=>?_) (λh39=>?_)
 ·have hk:k<args.length:=aD
  obtain ⟨bE,oE,cE,hpE,rE,lE,mE⟩:=((hs2.up uX.up).up u1.up).elem (eR (f:=dFm .i64) hk);cases hpE;refine .sk<|.tN<|.sq<|.bk<|.sr<|.yw (.indexSl oI Z Z Z aD (q:=oE+k * 7) Z)<|.yw (.loadMW Z dP mE lE)<|.al lH Z λb7=>.sV .head Z Z gC lE rE.one Z<|.nt<|.fL 5 [(0,0),(1,0),(2,0),(3,1),(4,1)]<|.fA Z dQ<|.lD Z gM cU Z<|.yw (.loadW Z dP Hm lE)<|.xt (X:=List Value) Z (λW s=>ih _ (aX hk) (hga _ (aX hk)) H1 cE W rE s.agr) λx2 H2 hc2 u2=>?_
  obtain ⟨op2,nm2,fd2,a2,b2x,ex2,as2,hx⟩:=cP5 (args[k]);rw [hx] at hc2;obtain ⟨p2,c2,q2,d2,rfl,_,_,_,_⟩:=gK hc2;refine .bl Z (rV _ _ _ _ _ _ _) Z λb46=>.fn (tl:=[_,_,_]) Z<|.ap (news:=[.int .u8 op2.toNat,bJ nm2,bJ fd2,.int .i64 a2.toInt,.int .i64 b2x.toInt,.slice p2 ex2.length c2,.slice q2 as2.length d2]) tA Z (λ_=>lJ) Z (.box Hm z0) Z (by simp [Value.oneCell',bJ]) (by simp [maxLen];omega) aD Z λr47 _=>?_
  refine At.ra qL λp47 c47 e47=>?_;exact .fA Z dQ<|.st iE Z Z EW (by rw [e47];rfl) (nb Z) Z<|.nl<|.bN<|.tN<|.rg<|.yw (.add Z Z w7)<|.mv Z<|.nt<|.ag (x:=(k,H1,r,xs2)) (k+1,H2,r47,xs2++[.int .u8 op2.toNat,bJ nm2,bJ fd2,.int .i64 a2.toInt,.int .i64 b2x.toInt,.slice p2 ex2.length c2,.slice q2 as2.length d2]) ⟨Z,Jt⟩ ⟨Z,Z,Z,Z,Jt⟩ (λ_ s=>(s.pick [2,3,4,5,6] _ Z Z)) ⟨by dsimp only;omega,u1.trans u2,by dsimp only;rw [NO hk,bI,hx];exact (hz.up u2.up).snoc hc2 Z⟩ (by dsimp only;omega)
 obtain rfl:k=args.length:=aD
 rw [bW] at hz;refine At.ra (.tail _ Hm) λp47 c47 e47=>?_;subst e47;refine .ex<|.eb<|.sr<|.yw (.loadW Z cQ Hm Z)<|.sX lJ Z Z dK Z<|.nt<|.rt<|?_
 refine At.pm [2,1,3] [_,_,_] rfl rfl ?_;refine iI (ds:=ex.map (dEx .u8)) (aP ..) (hzX.up u1.up) λH3 p3 c3 u3 hr3 hs3=>?_;refine iI (ds:=args.map (dFm .u8)) (aP ..) (hz.up u3.up) λH4 p4 c4 u4 hr4 hs4=>?_;refine y8 Z (.cell Z cQ Hm rfl) λW s=>⟨_,H4,xI hnm hfd (hs3.up u4.up) hs4,Z,(((uX.trans u1).trans u3).trans u4).grow s⟩
variable {c:Nat}
theorem CP {l:Tks} {tp:Option Addr} {tc:Nat} {rd dn bd:Bool} (K:Tkf H l tp tc) (hq:q.i<l.length) {g:Nat} (hkm:k<=600001) (s:St H w0 (.box b [.slice tp l.length tc,iN q.i,.slice (dI g) (k+1) c,rv,.bool rd,.bool dn,.bool bd,iN q.off,iN q.er] 102::bs) W) :
 Calls prg 105 #[.pointer (dI b)] W λe W'=>∃ _:Unit,(True)/\e=.returned (.pointer (some ⟨g,k * 11,none⟩))/\St H w0 (.box b [.slice tp l.length tc,iN q.i,.slice (dI g) (k+1) c,rv,.bool rd,.bool dn,.bool bd,iN q.off,iN q.er] 102::bs) W':=by
 have hcap:=K.rep.cap;refine iB func105 rfl ntmps105 rfl s ?_;refine .sr<|.aq Z<|.sq<|.fL 11 [(0,0),(1,0),(2,0),(3,0),(4,0),(5,0),(6,0),(7,0),(8,0),(9,0),(10,0)]<|.mv Z<|.nC Z<|.fA Z jF<|.lD Z wN Hm Z<|.mv Z<|.nC Z<|.fA Z jF<|.lD Z wN Hm Z<|.yw (.lenSl ET Z)<|.yw (.sub Z Z (c:=((k:Nat):Int)) ((w6 aD).trans aD))<|.yw (.indexSl ET Z Z (i:=k) Z aD (q:=k * 11) aD)<|.fn (tl:=[_]) Z<|.az Z<|?_
 refine y9 Z Z λW s=>?_;exact ⟨(),Jt,Z,s.p1_1 [0] rfl⟩
theorem cC1 {lv:Nat} {t:Bool} {a0 a3 a4 a5 a6 a7 a8 a9 a10:Value} (h1:∀ u∈[a0,a3,a4,a5,a6,a7,a8,a9,a10],u.oneCell'=true):∀ u∈[a0,iN lv,.bool t,a3,a4,a5,a6,a7,a8,a9,a10],u.oneCell'=true:=by
 intro u hu;simp only [bM,List.not_mem_nil,or_false] at hu h1;rcases hu with h | h | h | h | h | h | h | h | h | h | h
 ·exact h1 u (by simp [h])
 ·rw [h];rfl
 ·rw [h];rfl
 all_goals exact h1 u (by simp [h])
variable {xo:List Value}
theorem nO {l:Tks} {tp:Option Addr} {tc:Nat} {rd dn bd:Bool} (K:Tkf H l tp tc) (hq:q.i<l.length) {lv:Nat} {t t':Bool} {a0 a3 a4 a5 a6 a7 a8 a9 a10:Value} (h1:∀ u∈[a0,a3,a4,a5,a6,a7,a8,a9,a10],u.oneCell'=true) (hkm:k<=600001) (hT:0<lv->∃ k1,k=k1+1/\xo[k1 * 11+2]? = some (.bool t')) (s:St H w0 (.box b [.slice tp l.length tc,iN q.i,ro,rv,.bool rd,.bool dn,.bool bd,iN q.off,iN q.er] 102::.row 97 11 (ro) (k) (xo)::bs) W) :
 Calls prg 109 #[.pointer (dI b),.agg [a0,iN lv,.bool t,a3,a4,a5,a6,a7,a8,a9,a10].toArray] W λe W'=>∃ z:Option Addr × Nat,(True)/\e=.returned (.tuple #[])/\St H w0 (.box b [.slice tp l.length tc,iN q.i,(.slice z.1 (k+1) z.2),rv,.bool false,.bool dn,.bool bd,iN q.off,iN q.er] 102::.row 97 11 (.slice z.1 (k+1) z.2) (k+1) (xo++[a0,iN lv,.bool (if 0<lv then t' else t),a3,a4,a5,a6,a7,a8,a9,a10])::bs) W':=by
 have hcap:=K.rep.cap;refine iB func109 rfl ntmps109 rfl s ?_;refine .sr<|.bx Z Z Z λb3=>.nt<|.sq<|.sr<|.fA Z qE<|.lD Z bQ Hm Z<|.yw (.gtr Z Z)<|.nt<|.ce Z (λh6=>?_) (λh6=>?_)
 ·obtain ⟨k1,rfl,ht⟩:=hT aD;refine Sx.At.rs (size:=11) (k:=k1+1) (r:=ro) (xs:=xo) (e:=97) iG aD λg c e=>?_;subst e;refine .rg<|.mv Z<|.xs (X:=Unit) Z (λW s=>CP K hq (g:=g) (k:=k1) (c:=c) aD (s.p3_3 [1,0,2] Z)) λ_ _=>.nC Z<|.fA Z uU<|.yw (.loadR1 Z kW iG ht)<|.fA Z uU<|.st iJ Z Z oJ Z (nb Z) Z<|.nt<|.sq<|.fL 8 [(0,0),(1,0),(2,0),(3,0),(4,0),(5,0),(6,1),(7,3)]<|.mv Z<|.mv Z<|.nC Z<|.fA Z jF<|.lD Z wN Hm Z<|.yw (.loadW Z AY cU Z)<|.bl Z (HA _ _ _ _ _ _ _ _ _ _ _) Z λb19=>.apB ZH Z (λ_=>lJ) Z (.box Hm z0) Z (cC1 h1) (by simp only [maxLen];omega) aD Z (λ_=>(.d3<|.d2<|.yv (.move Z)<|.nl)) λp20 c20=>.fn (tl:=[_,_,_]) Z<|.nC Z<|.fA Z jF<|.st iJ Z Z EV Z (nb Z) Z<|.nt<|.rg<|.mv Z<|.nC Z<|.fA Z mY<|.st iJ Z Z oJ Z (nb Z) Z<|.nl<|?_
  refine jM (.inr Z) rfl .nil rfl λW s=>⟨(p20,c20),Jt,Z,?_⟩;rw [aK (show 0<lv by omega)];exact s.p4_2 [1,3] rfl
 refine .sk<|.tN<|.sq<|.fL 8 [(0,0),(1,0),(2,0),(3,0),(4,0),(5,0),(6,1),(7,3)]<|.mv Z<|.mv Z<|.nC Z<|.fA Z jF<|.lD Z wN cU Z<|.yw (.loadW Z AY Hm Z)<|.bl Z (HA _ _ _ _ _ _ _ _ _ _ _) Z λb19=>.apB ZH Z (λ_=>lJ) Z (.box Hm z0) Z (cC1 h1) (by simp only [maxLen];omega) aD Z (λ_=>(.d3<|.d2<|.yv (.move Z)<|.nl)) λp20 c20=>.fn (tl:=[_,_,_]) Z<|.nC Z<|.fA Z jF<|.st iE Z Z EV Z (nb Z) Z<|.nt<|.rg<|.mv Z<|.nC Z<|.fA Z mY<|.st iE Z Z oJ Z (nb Z) Z<|.nl<|?_
 refine jM (.inr Z) rfl .nil rfl λW s=>⟨(p20,c20),Jt,Z,?_⟩;rw [aA (show ¬ 0<lv by omega)];exact s.p4_2 [2,3] rfl
variable {v0 v1:Value} {xv:List Value}
theorem nD {l:Tks} {tp:Option Addr} {tc:Nat} {rd dn bd:Bool} (K:Tkf H l tp tc) (hq:q.i<l.length) {v2 v3 v4 v5 v6 v7 v8 v9 va vb vc:Value} (h1:∀ u∈[v0,v1,v2,v3,v4,v5,v6,v7,v8,v9,va,vb,vc],u.oneCell'=true) (hkm:k<=600001) (s:St H w0 (.box b [.slice tp l.length tc,iN q.i,ro,rv,.bool rd,.bool dn,.bool bd,iN q.off,iN q.er] 102::.row 179 13 (rv) (k) (xv)::bs) W) :
 Calls prg 108 #[.pointer (dI b),.agg [v0,v1,v2,v3,v4,v5,v6,v7,v8,v9,va,vb,vc].toArray] W λe W'=>∃ z:Option Addr × Nat,(True)/\e=.returned (.tuple #[])/\St H w0 (.box b [.slice tp l.length tc,iN q.i,ro,(.slice z.1 (k+1) z.2),.bool true,.bool dn,.bool bd,iN q.off,iN q.er] 102::.row 179 13 (.slice z.1 (k+1) z.2) (k+1) (xv++[v0,v1,v2,v3,v4,v5,v6,v7,v8,v9,va,vb,vc])::bs) W':=by
 have hcap:=K.rep.cap;refine iB func108 rfl ntmps108 rfl s ?_;refine .sr<|.bx Z Z Z λb3=>.nt<|.sq<|.fL 8 [(0,0),(1,0),(2,0),(3,0),(4,0),(5,0),(6,1),(7,3)]<|.mv Z<|.mv Z<|.nC Z<|.fA Z jE<|.lD Z qZ cU Z<|.yw (.loadW Z xS Hm Z)<|.bl Z (ZT _ _ _ _ _ _ _ _ _ _ _ _ _) Z λb10=>.apB aV3 Z (λ_=>lJ) Z (.box Hm z0) Z h1 (by simp only [maxLen];omega) aD Z (λ_=>(.d3<|.d2<|.yv (.move Z)<|.nl)) λp20 c20=>.fn (tl:=[_,_,_]) Z<|.nC Z<|.fA Z jE<|.st iE Z Z PQ Z (nb Z) Z<|.nt<|.rg<|.mv Z<|.nC Z<|.fA Z mY<|.st iE Z Z oJ Z (nb Z) Z<|.nl<|?_
 refine jM (.inr Z) rfl .nil rfl λW s=>⟨(p20,c20),Jt,Z,?_⟩;exact s.p4_2 [2,3] rfl
variable {xr:List Value}
theorem bD3 {l:Tks} {tp:Option Addr} {tc:Nat} {rd dn bd:Bool} (K:Tkf H l tp tc) (hq:q.i<l.length) {v2 v3 v4 v5 v6 v7 v8 v9 va vb vc:Value} (h1:∀ u∈[v0,v1,v2,v3,v4,v5,v6,v7,v8,v9,va,vb,vc],u.oneCell'=true) (hkm:k<=600001) (hl:xr.length=k * 13) (s:St H w0 (.box b [.slice tp l.length tc,iN q.i,ro,rv,.bool rd,.bool dn,.bool bd,iN q.off,iN q.er] 102::.row 179 13 (rv) (k+1) (xr++[v0,v1,v2,v3,v4,v5,v6,v7,v8,v9,va,vb,vc])::bs) W) :
 Calls prg 116 #[.pointer (dI b)] W λe W'=>∃ z:Nat × Nat,(True)/\e=.returned (.agg [v0,v1,v2,v3,v4,v5,v6,v7,v8,v9,va,vb,vc].toArray)/\St H w0 (.box b [.slice tp l.length tc,iN q.i,ro,(.slice (some ⟨z.1,0,none⟩) k z.2),.bool rd,.bool dn,.bool bd,iN q.off,iN q.er] 102::.row 179 13 (.slice (some ⟨z.1,0,none⟩) k z.2) (k) (xr)::bs) W':=by
 have hcap:=K.rep.cap;refine iB func116 rfl ntmps116 rfl s ?_;refine Sx.rowCase (size:=13) (k:=k+1) (r:=rv) (e:=179) cU aD λg c e hkc=>?_;subst e;refine .sr<|.al yP Z λb2=>.ns<|.mv Z<|.nC Z<|.fA Z jE<|.lD Z qZ cU Z<|.yw (.lenSl uT Z)<|.yw (.sub Z Z (c:=((k:Nat):Int)) ((w6 aD).trans aD))<|.a Z Z<|.ns<|.mv Z<|.nC Z<|.fA Z jE<|.lD Z qZ cU Z<|.mv Z<|.yw (.indexSl uT Z Z (i:=k) Z aD (q:=k * 13) aD)<|.yw (.loadR (vs:=[v0,v1,v2,v3,v4,v5,v6,v7,v8,v9,va,vb,vc]) Z xS iG Z (λj u h=>(List.getElem?_append_right aD).trans (by rw [hl,jB];exact h)))<|.al yP Z λb4=>.sW .head Z Z yS h1 Z<|.ns<|.mv Z<|.mv Z<|.nC Z<|.fA Z jE<|.lD Z qZ iG Z<|.mv Z<|.yw (.cutHi uT Z Z Z aD (λq e=>by cases e;rfl))<|.nC Z<|.fA Z jE<|.st iE Z Z PQ Z (nb Z) Z<|?_
 refine Sx.At.rcut (size:=13) (m:=k) (ys:=xr) lJ aD (by rw [<-hl,iY]) ?_;refine .ns<|.yw (.loadW Z xS Hm Z)<|.sW iJ Z Z yS h1 Z<|.nt<|.rt<|?_
 refine y8 Z (.cell Z xS cU rfl) λW s=>?_;exact ⟨(g,c),Jt,Z,s.p4_2 [2,3] rfl⟩
abbrev vC (v:Vl) (s0 s1 s2:Value):List Value:=[.bool v.tm,.bool v.wh,.int .u8 v.e.op.toNat,bJ v.e.nm,.int .i64 v.e.n.toInt,s0,.int .u8 v.f.op.toNat,bJ v.f.nm,bJ v.f.fd,.int .i64 v.f.a.toInt,.int .i64 v.f.b.toInt,s1,s2]
abbrev oC (o:Ov) (s1 s2:Value):List Value:=[.int .u8 o.kd.toNat,iN o.lv,.bool o.tm,.int .u8 o.op.toNat,.int .u8 o.f.op.toNat,bJ o.f.nm,bJ o.f.fd,.int .i64 o.f.a.toInt,.int .i64 o.f.b.toInt,s1,s2]
structure FmR (H:Hp) (f:Fm) (s1 s2:Value):Prop where
 ex:Rep H (.seq 4 (f.ex.map (dEx .u8))) [s1]
 ar:Rep H (.seq 7 (f.args.map (dFm .u8))) [s2]
 nm:f.nm.length<=1000000
 fd:f.fd.length<=1000000
structure ExR (H:Hp) (e:Ex) (s:Value):Prop where
 ar:Rep H (.seq 4 (e.args.map (dEx .u8))) [s]
 nm:e.nm.length<=1000000
structure VlR (H:Hp) (v:Vl) (s0 s1 s2:Value):Prop where
 e:ExR H v.e s0
 f:FmR H v.f s1 s2
variable {s1 s2:Value}
theorem FmR.up (h:FmR H f s1 s2) (u:Up H H'):FmR H' f s1 s2:=⟨h.ex.up u,h.ar.up u,h.nm,h.fd⟩
theorem ExR.up {e:Ex} {s:Value} (h:ExR H e s) (u:Up H H'):ExR H' e s:=⟨h.ar.up u,h.nm⟩
theorem VlR.up {v:Vl} {s0:Value} (h:VlR H v s0 s1 s2) (u:Up H H'):VlR H' v s0 s1 s2:=⟨h.e.up u,h.f.up u⟩
theorem ExR.rep {e:Ex} {s:Value} (h:ExR H e s):Rep H (dEx .u8 e) [.int .u8 e.op.toNat,bJ e.nm,.int .i64 e.n.toInt,s]:=by
 obtain ⟨op,nm,n,args⟩:=e;exact kK h.nm h.ar
theorem FmR.rep (h:FmR H f s1 s2):Rep H (dFm .u8 f) (cFm .u8 f.op f.nm f.fd f.a f.b s1 s2):=by
 obtain ⟨op,nm,fd,a,b,ex,args⟩:=f;exact xI h.nm h.fd h.ex h.ar
variable {z:Nat}
theorem Rep.nil4:Rep H (.seq z []) [cL]:=Rep.empty (p:=none) (c:=0) aS
theorem FmR.zero (h1:f.ex=[]) (h2:f.args=[]) (h3:f.nm.length<=1000000) (h4:f.fd.length<=1000000):FmR H f (cL) (cL):=⟨by rw [h1];exact Rep.nil4,by rw [h2];exact Rep.nil4,h3,h4⟩
theorem ExR.zero {e:Ex} (h1:e.args=[]) (h3:e.nm.length<=1000000):ExR H e (cL):=⟨by rw [h1];exact Rep.nil4,h3⟩
theorem OA {ds:List D} {s:Value} (h:Rep H (.seq z ds) [s]):s.oneCell'=true:=h.one s (bS.2 rfl)
theorem VlR.one {v:Vl} {s0:Value} (h:VlR H v s0 s1 s2):∀ u∈vC v s0 s1 s2,u.oneCell'=true:=by
 intro u hu;simp only [bM,List.not_mem_nil,or_false] at hu;rcases hu with rfl | rfl | rfl | rfl | rfl | rfl | rfl | rfl | rfl | rfl | rfl | rfl | rfl <;> first | rfl | exact OA h.e.ar | exact OA h.f.ex | exact OA h.f.ar
inductive VR (H:Hp):List Vl->List Value->Prop
 | nil:VR H [] []
 | cons {v:Vl} {vs:List Vl} {xv:List Value} {s0 s1 s2:Value}:VR H vs xv->VlR H v s0 s1 s2->VR H (v::vs) (xv++vC v s0 s1 s2)
theorem VR.up (u:Up H H'):∀ {vs:List Vl} {xv:List Value},VR H vs xv->VR H' vs xv
 | _,_,.nil=>.nil
 | _,_,.cons h k=>.cons (h.up u) (k.up u)
theorem VR.len:∀ {vs:List Vl} {xv:List Value},VR H vs xv->xv.length=vs.length * 13
 | _,_,.nil=>rfl
 | _,_,.cons h _=>by have:=h.len;simp only [aC,aF,aH];omega
inductive Ops (H:Hp):List Ov->List Value->List Res->Prop
 | nil:Ops H [] [] []
 | cons {o:Ov} {r:List Ov} {xo:List Value} {s1 s2:Value} {AR:List Res}:Ops H r xo AR->o.kd≠5->FmR H o.f s1 s2->Ops H (o::r) (xo++oC o s1 s2) AR
 | arg {o:Ov} {r:List Ov} {xo xe:List Value} {s1:Value} {AR:List Res}:Ops H r xo AR->o.kd=5->o.f.args=[]->o.f.nm.length<=1000000->o.f.fd.length<=1000000->dT H 4 (o.f.ex.map (dEx .u8)) xe->s1.oneCell'=true->Ops H (o::r) (xo++oC o s1 (.slice none 0 0)) (.row 76 4 s1 o.f.ex.length xe::AR)
theorem Ops.up (u:Up H H'):∀ {os:List Ov} {xo:List Value} {AR:List Res},Ops H os xo AR->Ops H' os xo AR
 | _,_,_,.nil=>.nil
 | _,_,_,.cons h k f=>.cons (h.up u) k (f.up u)
 | _,_,_,.arg h k a b c z s=>.arg (h.up u) k a b c (z.up u) s
theorem Ops.len:∀ {os:List Ov} {xo:List Value} {AR:List Res},Ops H os xo AR->xo.length=os.length * 11
 | _,_,_,.nil=>rfl
 | _,_,_,.cons h _ _=>by have:=h.len;simp only [aC,aF,aH];omega
 | _,_,_,.arg h _ _ _ _ _ _=>by have:=h.len;simp only [aC,aF,aH];omega
variable {AR:List Res}
theorem Ops.top {o:Ov} {r:List Ov} (h:Ops H (o::r) xo AR):∃ xr s1 s2,xo=xr++oC o s1 s2/\xr.length=r.length * 11/\s1.oneCell'=true/\s2.oneCell'=true:=by
 cases h with
 | cons h k f=>exact ⟨_,_,_,Z,h.len,OA f.ex,OA f.ar⟩
 | arg h k a b c z s=>exact ⟨_,_,_,Z,h.len,s,Z⟩
variable {j:Nat}
theorem lC {u:Value} (hl:xr.length=n) (h:cs[j]? = some u):(xr++cs)[n+j]? = some u:=by
 subst hl;rw [List.getElem?_append_right (Nat.le_add_right _ _),jB];exact h
theorem cH0 {o:Ov} (h1:s1.oneCell'=true) (h2:s2.oneCell'=true):∀ u∈oC o s1 s2,u.oneCell'=true:=by
 intro u hu;simp only [bM,List.not_mem_nil,or_false] at hu;rcases hu with rfl | rfl | rfl | rfl | rfl | rfl | rfl | rfl | rfl | rfl | rfl <;> first | rfl | exact h1 | exact h2
structure Sq (H:Hp) (q:Ps) (xo xv:List Value) (AR:List Res):Prop where
 ops:Ops H q.op xo AR
 vls:VR H q.x.1 xv
theorem Sq.at {q:Ps} {c:Rq} (h:Sq H q xo xv AR):Sq H (q.at c) xo xv AR:=⟨h.ops,h.vls⟩
abbrev pB (tp:Option Addr) (n tc:Nat) (q:Ps) (b:Nat) (ro rv:Value) (xo xv:List Value):List Res:=[.box b [.slice tp n tc,iN q.c.i,ro,rv,.bool q.rd,.bool q.dn,.bool q.x.2,iN q.c.off,iN q.c.er] 102,.row 97 11 ro q.op.length xo,.row 179 13 rv q.x.1.length xv]
abbrev StP (H:Hp) (w0:World) (bs:List Res) (W:World) (b:Nat) (l:Tks) (tp:Option Addr) (tc:Nat) (q:Ps) (ro rv:Value) (xo xv:List Value) (AR:List Res):Prop:=St H w0 (pB tp l.length tc q b ro rv xo xv++(AR++bs)) W
def Get (w0:World) (bs:List Res) (b:Nat) (l:Tks) (tp:Option Addr) (tc:Nat) (H:Hp) (q:Ps) (e:Ending) (W:World):Prop :=
 ∃ z:Hp × Value × Value × List Value × List Value × List Res,(HUp w0 H z.1/\Sq z.1 q z.2.2.2.1 z.2.2.2.2.1 z.2.2.2.2.2)/\e=.returned (.tuple #[])/\StP z.1 w0 bs W b l tp tc q z.2.1 z.2.2.1 z.2.2.2.1 z.2.2.2.2.1 z.2.2.2.2.2
end Go.Proofs.YtidclioghdbphaaGreatDoor
namespace Go.Proofs
open Go.Shelf
def Tryz.lays156_ren:Go.Shelf.Ren:=⟨λ| 156=>90 | 165=>141 | 166=>142 | 169=>143 | 240=>172 | 241=>173 | 276=>195 | 277=>196 | n=>n,λ| 31=>71 | 9=>9 | 3=>3 | 4=>4 | 0=>0 | 20=>20 | 72=>209 | 76=>212 | 70=>207 | 37=>50 | 75=>211 | 127=>232 | 164=>247 | 5=>5 | 80=>40 | n=>n,λ| n=>n⟩
theorem Tryz.lays156:Go.Proofs.Lays.n156 prg Tryz.lays156_ren:={
 mixed:=by kernel_rfl
 f156:=Tryz.func90.trans (congrArg some fT)
 f165:=Tryz.func141.trans (congrArg some fT)
 f166:=Tryz.func142.trans (congrArg some fT)
 f169:=Tryz.func143.trans (congrArg some fT)
 f240:=Tryz.func172.trans (congrArg some fT)
 f241:=Tryz.func173.trans (congrArg some fT)
 f276:=Tryz.func195.trans (congrArg some fT)
 f277:=Tryz.func196.trans (congrArg some fT)
 t0:=Tryz.underlying0
 a0:=Tryz.isAgg0
 z0:=Tryz.sizeOf0
 v0:=Tryz.zeroValue0
 t3:=Tryz.underlying3
 a3:=Tryz.isAgg3
 z3:=Tryz.sizeOf3
 v3:=Tryz.zeroValue3
 t4:=Tryz.underlying4
 a4:=Tryz.isAgg4
 z4:=Tryz.sizeOf4
 v4:=Tryz.zeroValue4
 t9:=Tryz.underlying9
 a9:=Tryz.isAgg9
 z9:=Tryz.sizeOf9
 v9:=Tryz.zeroValue9
 t20:=Tryz.underlying20
 a20:=Tryz.isAgg20
 z20:=Tryz.sizeOf20
 v20:=Tryz.zeroValue20
 t31:=Tryz.underlying71
 a31:=Tryz.isAgg71
 z31:=Tryz.sizeOf71
 v31:=Tryz.zeroValue71
 t37:=Tryz.underlying50
 a37:=Tryz.isAgg50
 z37:=Tryz.sizeOf50
 v37:=Tryz.zeroValue50
 t70:=Tryz.underlying207
 a70:=Tryz.isAgg207
 z70:=Tryz.sizeOf207
 v70:=Tryz.zeroValue207
 t72:=Tryz.underlying209
 a72:=Tryz.isAgg209
 z72:=Tryz.sizeOf209
 v72:=Tryz.zeroValue209
 t75:=Tryz.underlying211
 a75:=Tryz.isAgg211
 z75:=Tryz.sizeOf211
 v75:=Tryz.zeroValue211
 t76:=Tryz.underlying212
 a76:=Tryz.isAgg212
 z76:=Tryz.sizeOf212
 v76:=Tryz.zeroValue212
 t127:=Tryz.underlying232
 a127:=Tryz.isAgg232
 z127:=Tryz.sizeOf232
 v127:=Tryz.zeroValue232
 t164:=Tryz.underlying247
 a164:=Tryz.isAgg247
 z164:=Tryz.sizeOf247
 v164:=Tryz.zeroValue247 }
theorem Tryz.Builder_Extra_156:Builder.Extra prg Tryz.lays156_ren:={
 sizeBuilder:=by kernel_rfl
 liesBuilder:=by kernel_rfl
 t5:=Tryz.underlying5
 a5:=Tryz.isAgg5
 z5:=Tryz.sizeOf5
 v5:=Tryz.zeroValue5
 infoByte:=by kernel_rfl
 cellsByte:=by kernel_rfl
 sizeByte:=by kernel_rfl
 neB5:=by decide }
open Go.RowKit in
theorem Tryz.strings_Join_none (a:Option Addr) (c:Nat) (sep:ByteArray) (w:World) :
 Calls prg 90 #[.slice a 0 c,.string sep] w λe w'=>e=.returned (dV)/\w'=w:=Any.strings_Join_none Tryz.lays156 Tryz.Builder_Extra_156 a c sep w
open Go.RowKit in
theorem Tryz.strings_Join (bk o c:Nat) (xs:List ByteArray) (sep:ByteArray) (w:World) (hcells:∀ (j:Nat) x,xs[j]? = some x->w.cell? ⟨bk,o+j,none⟩=some (.string x)) (hbk:bk<w.heap.size) (hN:xs.length<=140737488355328) (hcap:xs.length<=c) (hlen:(Lib.join (xs.map (·.data.toList)) sep.data.toList).length<=140737488355328) :
 Calls prg 90 #[.slice (some ⟨bk,o,none⟩) xs.length c,.string sep] w λe w'=>e=.returned (.string ⟨(Lib.join (xs.map (·.data.toList)) sep.data.toList).toArray⟩)/\Below w.heap.size w w':=Any.strings_Join Tryz.lays156 Tryz.Builder_Extra_156 bk o c xs sep w hcells hbk hN hcap hlen
def Tryz.laysM171_ren:Go.Shelf.Ren:=⟨λ| 171=>144 | 243=>174 | 246=>171 | 283=>191 | 284=>192 | 285=>193 | 286=>194 | 129=>203 | 317=>202 | 318=>204 | 319=>205 | 320=>206 | 337=>210 | 338=>211 | n=>n,λ| 3=>3 | 9=>9 | 2=>2 | 4=>4 | 171=>241 | 0=>0 | 53=>242 | 37=>50 | 5=>5 | 173=>245 | 212=>257 | 51=>250 | 20=>20 | 213=>258 | 46=>234 | 232=>264 | 233=>265 | n=>n,λ| 17=>6 | 18=>7 | 19=>8 | n=>n⟩
theorem Tryz.laysM171:Go.Proofs.LaysM.n171 prg Tryz.laysM171_ren:={
 mixed:=by kernel_rfl
 f129:=Tryz.func203.trans (congrArg some fT)
 f171:=Tryz.func144.trans (congrArg some fT)
 f243:=Tryz.func174.trans (congrArg some fT)
 f246:=Tryz.func171.trans (congrArg some fT)
 f283:=Tryz.func191.trans (congrArg some fT)
 f284:=Tryz.func192.trans (congrArg some fT)
 f285:=Tryz.func193.trans (congrArg some fT)
 f286:=Tryz.func194.trans (congrArg some fT)
 f317:=Tryz.func202.trans (congrArg some fT)
 f318:=Tryz.func204.trans (congrArg some fT)
 f319:=Tryz.func205.trans (congrArg some fT)
 f320:=Tryz.func206.trans (congrArg some fT)
 f337:=Tryz.func210.trans (congrArg some fT)
 f338:=Tryz.func211.trans (congrArg some fT)
 t0:=Tryz.underlying0
 a0:=Tryz.isAgg0
 z0:=Tryz.sizeOf0
 v0:=Tryz.zeroValue0
 t2:=Tryz.underlying2
 a2:=Tryz.isAgg2
 z2:=Tryz.sizeOf2
 v2:=Tryz.zeroValue2
 t3:=Tryz.underlying3
 a3:=Tryz.isAgg3
 z3:=Tryz.sizeOf3
 v3:=Tryz.zeroValue3
 t4:=Tryz.underlying4
 a4:=Tryz.isAgg4
 z4:=Tryz.sizeOf4
 v4:=Tryz.zeroValue4
 t5:=Tryz.underlying5
 a5:=Tryz.isAgg5
 z5:=Tryz.sizeOf5
 v5:=Tryz.zeroValue5
 t9:=Tryz.underlying9
 a9:=Tryz.isAgg9
 z9:=Tryz.sizeOf9
 v9:=Tryz.zeroValue9
 t20:=Tryz.underlying20
 a20:=Tryz.isAgg20
 z20:=Tryz.sizeOf20
 v20:=Tryz.zeroValue20
 t37:=Tryz.underlying50
 a37:=Tryz.isAgg50
 z37:=Tryz.sizeOf50
 v37:=Tryz.zeroValue50
 t46:=Tryz.underlying234
 a46:=Tryz.isAgg234
 z46:=Tryz.sizeOf234
 v46:=Tryz.zeroValue234
 t51:=Tryz.underlying250
 a51:=Tryz.isAgg250
 z51:=Tryz.sizeOf250
 v51:=Tryz.zeroValue250
 t53:=Tryz.underlying242
 a53:=Tryz.isAgg242
 z53:=Tryz.sizeOf242
 v53:=Tryz.zeroValue242
 t171:=Tryz.underlying241
 a171:=Tryz.isAgg241
 z171:=Tryz.sizeOf241
 v171:=Tryz.zeroValue241
 t173:=Tryz.underlying245
 a173:=Tryz.isAgg245
 z173:=Tryz.sizeOf245
 v173:=Tryz.zeroValue245
 t212:=Tryz.underlying257
 a212:=Tryz.isAgg257
 z212:=Tryz.sizeOf257
 v212:=Tryz.zeroValue257
 t213:=Tryz.underlying258
 a213:=Tryz.isAgg258
 z213:=Tryz.sizeOf258
 t232:=Tryz.underlying264
 a232:=Tryz.isAgg264
 z232:=Tryz.sizeOf264
 v232:=Tryz.zeroValue264
 t233:=Tryz.underlying265
 a233:=Tryz.isAgg265
 z233:=Tryz.sizeOf265
 v233:=Tryz.zeroValue265
 g17:=by kernel_rfl
 g18:=by kernel_rfl
 g19:=by kernel_rfl
 i0:=by kernel_rfl
 i2:=by kernel_rfl
 i3:=by kernel_rfl
 i4:=by kernel_rfl
 i5:=by kernel_rfl
 i9:=by kernel_rfl
 i20:=by kernel_rfl
 i37:=by kernel_rfl
 i46:=by kernel_rfl
 i51:=by kernel_rfl
 i53:=by kernel_rfl
 i171:=by kernel_rfl
 i173:=by kernel_rfl
 i212:=by kernel_rfl
 i232:=by kernel_rfl
 i233:=by kernel_rfl
 m17:=by kernel_rfl
 m18:=by kernel_rfl
 m19:=by kernel_rfl }
open Go.RowKit Go.Sort Go.Lib in
theorem Tryz.strconv_Itoa (n:Int) (h0:-9223372036854775808<=n) (h1:n<=9223372036854775807) (w:World) (htab:Lib.TabIs prg w "internal/strconv.uint64pow10" .u64 Lib.pow10Tab) :
 Calls prg 144 #[.int .i64 n] w λe w'=>e=.returned (.string ⟨(Lib.itoa n).toArray⟩)/\∃ k os,w'=grow (w.drewN k) os:=Any.strconv_Itoa Tryz.laysM171 n h0 h1 w htab
def Tryz.laysM173_ren:Go.Shelf.Ren:=⟨λ| 173=>138 | 246=>171 | 283=>191 | 284=>192 | 285=>193 | 286=>194 | 129=>203 | 317=>202 | 318=>204 | 319=>205 | 320=>206 | 337=>210 | 338=>211 | n=>n,λ| 2=>2 | 3=>3 | 9=>9 | 4=>4 | 171=>241 | 0=>0 | 53=>242 | 37=>50 | 5=>5 | 173=>245 | 212=>257 | 51=>250 | 20=>20 | 213=>258 | 46=>234 | 232=>264 | 233=>265 | n=>n,λ| 17=>6 | 18=>7 | 19=>8 | n=>n⟩
theorem Tryz.laysM173:Go.Proofs.LaysM.n173 prg Tryz.laysM173_ren:={
 mixed:=by kernel_rfl
 f129:=Tryz.func203.trans (congrArg some fT)
 f173:=Tryz.func138.trans (congrArg some fT)
 f246:=Tryz.func171.trans (congrArg some fT)
 f283:=Tryz.func191.trans (congrArg some fT)
 f284:=Tryz.func192.trans (congrArg some fT)
 f285:=Tryz.func193.trans (congrArg some fT)
 f286:=Tryz.func194.trans (congrArg some fT)
 f317:=Tryz.func202.trans (congrArg some fT)
 f318:=Tryz.func204.trans (congrArg some fT)
 f319:=Tryz.func205.trans (congrArg some fT)
 f320:=Tryz.func206.trans (congrArg some fT)
 f337:=Tryz.func210.trans (congrArg some fT)
 f338:=Tryz.func211.trans (congrArg some fT)
 t0:=Tryz.underlying0
 a0:=Tryz.isAgg0
 z0:=Tryz.sizeOf0
 v0:=Tryz.zeroValue0
 t2:=Tryz.underlying2
 a2:=Tryz.isAgg2
 z2:=Tryz.sizeOf2
 v2:=Tryz.zeroValue2
 t3:=Tryz.underlying3
 a3:=Tryz.isAgg3
 z3:=Tryz.sizeOf3
 v3:=Tryz.zeroValue3
 t4:=Tryz.underlying4
 a4:=Tryz.isAgg4
 z4:=Tryz.sizeOf4
 v4:=Tryz.zeroValue4
 t5:=Tryz.underlying5
 a5:=Tryz.isAgg5
 z5:=Tryz.sizeOf5
 v5:=Tryz.zeroValue5
 t9:=Tryz.underlying9
 a9:=Tryz.isAgg9
 z9:=Tryz.sizeOf9
 v9:=Tryz.zeroValue9
 t20:=Tryz.underlying20
 a20:=Tryz.isAgg20
 z20:=Tryz.sizeOf20
 v20:=Tryz.zeroValue20
 t37:=Tryz.underlying50
 a37:=Tryz.isAgg50
 z37:=Tryz.sizeOf50
 v37:=Tryz.zeroValue50
 t46:=Tryz.underlying234
 a46:=Tryz.isAgg234
 z46:=Tryz.sizeOf234
 v46:=Tryz.zeroValue234
 t51:=Tryz.underlying250
 a51:=Tryz.isAgg250
 z51:=Tryz.sizeOf250
 v51:=Tryz.zeroValue250
 t53:=Tryz.underlying242
 a53:=Tryz.isAgg242
 z53:=Tryz.sizeOf242
 v53:=Tryz.zeroValue242
 t171:=Tryz.underlying241
 a171:=Tryz.isAgg241
 z171:=Tryz.sizeOf241
 v171:=Tryz.zeroValue241
 t173:=Tryz.underlying245
 a173:=Tryz.isAgg245
 z173:=Tryz.sizeOf245
 v173:=Tryz.zeroValue245
 t212:=Tryz.underlying257
 a212:=Tryz.isAgg257
 z212:=Tryz.sizeOf257
 v212:=Tryz.zeroValue257
 t213:=Tryz.underlying258
 a213:=Tryz.isAgg258
 z213:=Tryz.sizeOf258
 t232:=Tryz.underlying264
 a232:=Tryz.isAgg264
 z232:=Tryz.sizeOf264
 v232:=Tryz.zeroValue264
 t233:=Tryz.underlying265
 a233:=Tryz.isAgg265
 z233:=Tryz.sizeOf265
 v233:=Tryz.zeroValue265
 g17:=by kernel_rfl
 g18:=by kernel_rfl
 g19:=by kernel_rfl
 i0:=by kernel_rfl
 i2:=by kernel_rfl
 i3:=by kernel_rfl
 i4:=by kernel_rfl
 i5:=by kernel_rfl
 i9:=by kernel_rfl
 i20:=by kernel_rfl
 i37:=by kernel_rfl
 i46:=by kernel_rfl
 i51:=by kernel_rfl
 i53:=by kernel_rfl
 i171:=by kernel_rfl
 i173:=by kernel_rfl
 i212:=by kernel_rfl
 i232:=by kernel_rfl
 i233:=by kernel_rfl
 m17:=by kernel_rfl
 m18:=by kernel_rfl
 m19:=by kernel_rfl }
open Go.RowKit Go.Sort Go.Lib in
theorem Tryz.strconv_FormatInt_10 (n:Int) (h0:-9223372036854775808<=n) (h1:n<=9223372036854775807) (w:World) (htab:Lib.TabIs prg w "internal/strconv.uint64pow10" .u64 Lib.pow10Tab) :
 Calls prg 138 #[.int .i64 n,.int .i64 10] w λe w'=>e=.returned (.string ⟨(Lib.itoa n).toArray⟩)/\∃ k os,w'=grow (w.drewN k) os:=Any.strconv_FormatInt_10 Tryz.laysM173 n h0 h1 w htab
def Tryz.lays219_ren:Go.Shelf.Ren:=⟨λ| 219=>145 | 217=>175 | 225=>176 | 224=>177 | 267=>178 | 266=>197 | 314=>198 | n=>n,λ| 9=>9 | 3=>3 | 4=>4 | 5=>5 | 46=>234 | 146=>251 | 51=>250 | n=>n,λ| 1=>4 | n=>n⟩
theorem Tryz.lays219:Go.Proofs.Lays.n219 prg Tryz.lays219_ren:={
 mixed:=by kernel_rfl
 f217:=Tryz.func175.trans (congrArg some fT)
 f219:=Tryz.func145.trans (congrArg some fT)
 f224:=Tryz.func177.trans (congrArg some fT)
 f225:=Tryz.func176.trans (congrArg some fT)
 f266:=Tryz.func197.trans (congrArg some fT)
 f267:=Tryz.func178.trans (congrArg some fT)
 f314:=Tryz.func198.trans (congrArg some fT)
 t3:=Tryz.underlying3
 a3:=Tryz.isAgg3
 z3:=Tryz.sizeOf3
 v3:=Tryz.zeroValue3
 t4:=Tryz.underlying4
 a4:=Tryz.isAgg4
 z4:=Tryz.sizeOf4
 v4:=Tryz.zeroValue4
 t5:=Tryz.underlying5
 a5:=Tryz.isAgg5
 z5:=Tryz.sizeOf5
 v5:=Tryz.zeroValue5
 t9:=Tryz.underlying9
 a9:=Tryz.isAgg9
 z9:=Tryz.sizeOf9
 v9:=Tryz.zeroValue9
 t46:=Tryz.underlying234
 a46:=Tryz.isAgg234
 z46:=Tryz.sizeOf234
 v46:=Tryz.zeroValue234
 t51:=Tryz.underlying250
 a51:=Tryz.isAgg250
 z51:=Tryz.sizeOf250
 v51:=Tryz.zeroValue250
 t146:=Tryz.underlying251
 a146:=Tryz.isAgg251
 z146:=Tryz.sizeOf251
 v146:=Tryz.zeroValue251
 g1:=by kernel_rfl }
open Go.RowKit Go.Lib in
theorem Tryz.stringslite_Index_one (s:ByteArray) (c:UInt8) (w:World) :
 Calls prg 145 #[.string s,.string ⟨#[c]⟩] w λe w'=>e=.returned (.int .i64 (Lib.indexByte s.data.toList c))/\w'=w:=Any.stringslite_Index_one Tryz.lays219 s c w
end Go.Proofs
namespace Go.Proofs.YtidclioghdbphaaGreatDoor
open Go.RowKit Go.Par Go.Sx Tryz
theorem xZ:∀ n:Str,(∃ i:Nat,Lib.indexByte n 46=(i:Int)/\i<n.length/\eN n=some (n.take i,n.drop (i+1)))\/(Lib.indexByte n 46=-1/\eN n=none)
 | []=>.inr ⟨Z,Z⟩
 | c::r=>by
  by_cases hc:c=46
  ·refine .inl ⟨0,?_,Nat.succ_pos _,?_⟩
   ·rw [Lib.indexByte,aK (by rw [hc];rfl)];rfl
   ·rw [eN,aK hc];rfl
  ·have hb:¬ (c == 46)=true:=λe=>hc (by simpa using e);rcases xZ r with ⟨i,h1,h2,h3⟩ | ⟨h1,h2⟩
   ·refine .inl ⟨i+1,?_,Nat.succ_lt_succ h2,?_⟩
    ·rw [Lib.indexByte,aA hb,h1,aA (by intro e;have:=eq_of_beq e;omega)];omega
    ·rw [eN,aA hc,h3];rfl
   ·refine .inr ⟨?_,?_⟩
    ·rw [Lib.indexByte,aA hb,h1];rfl
    ·rw [eN,aA hc,h2];rfl
def spV (n:Str):Value:=.tuple #[bJ (spA n),bJ (spB n),.bool (eN n).isSome]
def aT0 (n:Str):Value:=.tuple #[bJ (if (eN n).isSome then spA n else n),bJ (spB n),.bool (eN n).isSome]
theorem bL5 (n:Str) (hn:n.length<=9223372036854775807) (w:World):Calls prg 94 #[bJ n,bJ [46]] w λe w'=>e=.returned (aT0 n)/\Ext w w':=by
 refine y6 func94 Z ntmps94 Z ?_;refine .sr<|.a Z Z<|.a Z Z<|.aq Z<|.sq<|.sm Z<|.mv Z<|.yw (.call (v:=.int .i64 (Lib.indexByte n 46)) aH8 Z λW s=>(Tryz.stringslite_Index_one ⟨n.toArray⟩ 46 W).mono λ_ _ h=>⟨h.1,by rw [h.2];exact Ext.refl _⟩)<|.a Z Z<|.ns<|.mv Z<|.yw (.geq Z Z)<|.nt<|.ce Z (λh12=>?_) (λh12=>?_)
 ·obtain ⟨i,hx,hi,hs⟩:∃ i:Nat,Lib.indexByte n 46=(i:Int)/\i<n.length/\eN n=some (n.take i,n.drop (i+1)):=by
   rcases xZ n with h | ⟨h,_⟩
   ·exact h
   ·omega
  refine .sq<|.fL 11 [(0,0),(1,0),(2,0),(3,0),(4,0),(5,0),(6,0),(7,0),(8,0),(9,0),(10,0)]<|.mv Z<|.mv Z<|.yw (.takeS dX Z Z (hi:=i) hx aD)<|.mv Z<|.mv Z<|.mv Z<|.yw (.lenS dX Z)<|.yw (.add Z Z (c:=((i+1:Nat):Int)) (by rw [hx];exact (w64 (by show _<=(i:Int)+((1:Nat):Int);omega) (by show (i:Int)+((1:Nat):Int)<=_;omega)).trans (by show (i:Int)+((1:Nat):Int)=_;omega)))<|.yw (.dropS dX Z Z (lo:=i+1) Z aD)<|.a Z Z<|.a Z Z<|.fn (tl:=[_]) Z<|.az Z<|.tR<|?_
  refine y7 Z (.cons (.tmp Z) (.cons (.tmp Z) (.cons (.tmp Z) .nil))) rfl λW s=>⟨(by unfold aT0 spA spB;rw [hs];rfl),s.ext⟩
 have hs:eN n=none:=by
  rcases xZ n with ⟨i,h,_⟩ | ⟨_,h⟩
  ·omega
  ·exact h
 refine .sk<|.tN<|.sm Z<|.a Z Z<|.a Z Z<|.az Z<|?_
 refine y7 Z (.cons (.tmp Z) (.cons (.tmp Z) (.cons (.tmp Z) .nil))) rfl λW s=>⟨(by unfold aT0 spA spB;rw [hs];rfl),s.ext⟩
theorem bZ9 (n:Str) (hn:n.length<=9223372036854775807) (w:World):Calls prg 49 #[bJ n,bJ [46]] w λe w'=>e=.returned (aT0 n)/\Ext w w':=by
 refine y6 func49 Z ntmps49 Z ?_;refine .sr<|.a Z Z<|.a Z Z<|.a Z Z<|.ns<|.mv Z<|.mv Z<|.yw (.call (v:=aT0 n) aV5 Z λW s=>bL5 n hn W)<|.yw (.extract Z Z)<|.yw (.extract Z Z)<|.yw (.extract Z Z)<|.a Z Z<|.a Z Z<|.az Z<|?_
 refine y7 Z (.cons (.tmp Z) (.cons (.tmp Z) (.cons (.tmp Z) .nil))) rfl λW s=>⟨Z,s.ext⟩
theorem RL (n:Str) (hn:n.length<=9223372036854775807) (w:World):Calls prg 20 #[bJ n] w λe w'=>e=.returned (spV n)/\Ext w w':=by
 refine y6 func20 Z ntmps20 Z ?_;refine .sr<|.a Z Z<|.a Z Z<|.a Z Z<|.ns<|.mv Z<|.yw (.call (v:=aT0 n) aV7 Z λW s=>bZ9 n hn W)<|.mv Z<|.yw (.extract Z Z)<|.yw (.extract Z Z)<|.yw (.extract Z Z)<|.a Z Z<|.a Z Z<|.aq Z<|.sq<|.sm Z<|.yw (.not Z)<|.nt<|.cd Z (λh12=>?_) (λh12=>?_)
 ·have hs:eN n=none:=by cases e:eN n with | none=>rfl | some x=>rw [e] at h12;cases h12
  refine .sr<|.a Z Z<|.a Z Z<|.az Z<|.tR<|?_
  refine y7 Z (.cons (.tmp Z) (.cons (.tmp Z) (.cons (.tmp Z) .nil))) rfl λW s=>⟨(by unfold spV spA spB;rw [hs];rfl),s.ext⟩
 obtain ⟨x,hs⟩:∃ x,eN n=some x:=by cases e:eN n with | some x=>exact ⟨x,rfl⟩ | none=>rw [e] at h12;cases h12
 refine .sk<|.tN<|.sm Z<|.mv Z<|.a Z Z<|.a Z Z<|.az Z<|?_
 refine y7 Z (.cons (.tmp Z) (.cons (.tmp Z) (.cons (.tmp Z) .nil))) rfl λW s=>⟨(by unfold spV spA spB;rw [hs];rfl),s.ext⟩
variable {l:List Value}
theorem cN6 {p:Value->Prop} {t u e0 e1 e2 e3:Value} (h1:∀ x∈t::u::e0::e1::e2::e3::l,p x):∀ x∈[e0,e1,e2,e3],p x:=λx hx=>h1 x (cD _<|cD _<|(cJ.2 (.inl hx):x∈[e0,e1,e2,e3]++l))
theorem cS7 {p:Value->Prop} {t u e0 e1 e2 e3:Value} (h1:∀ x∈t::u::e0::e1::e2::e3::l,p x):∀ x∈l,p x:=λx hx=>h1 x (cD _<|cD _<|(cJ.2 (.inr hx):x∈[e0,e1,e2,e3]++l))
variable {k:Nat} {xr:List Value}
variable {H:Hp} {w0 W:World} {bs:List Res} {b:Nat} {ro rv:Value} {q:Rq}
theorem zQ {l:Tks} {tp:Option Addr} {tc:Nat} {rd dn bd:Bool} (K:Tkf H l tp tc) (hq:q.i<l.length) {tm wh:Bool} {eop:UInt8} {enm:Str} {e2 e3 f0 f1 f2 f3 f4 f5 f6:Value} (h1:∀ u∈[.bool tm,.bool wh,.int .u8 eop.toNat,bJ enm,e2,e3,f0,f1,f2,f3,f4,f5,f6],u.oneCell'=true) (hkm:k<=600001) (hl:xr.length=k * 13) (s:St H w0 (.box b [.slice tp l.length tc,iN q.i,ro,rv,.bool rd,.bool dn,.bool bd,iN q.off,iN q.er] 102::.row 179 13 (rv) (k+1) (xr++[.bool tm,.bool wh,.int .u8 eop.toNat,bJ enm,e2,e3,f0,f1,f2,f3,f4,f5,f6])::bs) W) :
 Calls prg 155 #[.pointer (dI b)] W λe W'=>∃ z:Nat × Nat,(True)/\e=.returned (.agg [.int .u8 eop.toNat,bJ enm,e2,e3].toArray)/\St H w0 (.box b [.slice tp l.length tc,iN q.i,ro,(.slice (some ⟨z.1,0,none⟩) k z.2),.bool rd,.bool dn,.bool (bd || !tm),iN q.off,iN q.er] 102::.row 179 13 (.slice (some ⟨z.1,0,none⟩) k z.2) (k) (xr)::bs) W':=by
 have hcap:=K.rep.cap;refine iB func155 rfl ntmps155 rfl s ?_;refine .sr<|.al kQ Z λb2=>.ns<|.mv Z<|.xs (X:=Nat × Nat) Z (λW s=>bD3 K hq h1 hkm hl (s.p3_3 [1,2,0] Z)) λz _=>.al yP Z λb3=>.sW .head Z Z yS h1 Z<|.ns<|.mv Z<|.mv Z<|.nC Z<|.fA Z oY<|.lD Z kW cU Z<|.mv Z<|.b2 (λh11=>?_) (λh11=>?_)
 ·subst h11;refine .g3<|.pT Z<|.nC Z<|.fA Z oY<|.st iJ Z Z oJ Z (nb Z) Z<|.ns<|.fA Z vX<|.yw (.loadS (vs:=[_,_,_,_]) Z eM Hm Z (bA1 Z))<|.sW lJ Z Z gR (cN6 h1) Z<|.nt<|.rt<|?_
  refine y8 Z (.cell Z eM qL rfl) λW s=>?_;exact ⟨z,Jt,Z,s.p4_2 [1,2] rfl⟩
 subst h11;refine .gy (.fieldAddr Z FN)<|.gy (.load Z kW Hm Z)<|.gy (.not Z)<|.pF Z<|.nC Z<|.fA Z oY<|.st iJ Z Z oJ Z (nb Z) Z<|.ns<|.fA Z vX<|.yw (.loadS (vs:=[_,_,_,_]) Z eM Hm Z (bA1 Z))<|.sW lJ Z Z gR (cN6 h1) Z<|.nt<|.rt<|?_
 refine y8 Z (.cell Z eM qL rfl) λW s=>?_;exact ⟨z,Jt,Z,s.p4_2 [1,2] rfl⟩
def fmC (tm:Bool) (enm:Str) (fs:List Value):List Value:=if tm then [.int .u8 4,bJ (spA enm),bJ (spB enm),.int .i64 0,.int .i64 0,.slice none 0 0,.slice none 0 0] else fs
theorem xQ {l:Tks} {tp:Option Addr} {tc:Nat} {rd dn bd:Bool} (K:Tkf H l tp tc) (hq:q.i<l.length) {tm wh:Bool} {eop:UInt8} {enm:Str} {e2 e3 f0 f1 f2 f3 f4 f5 f6:Value} (h1:∀ u∈[.bool tm,.bool wh,.int .u8 eop.toNat,bJ enm,e2,e3,f0,f1,f2,f3,f4,f5,f6],u.oneCell'=true) (hen:enm.length<=1000000) (hkm:k<=600001) (hl:xr.length=k * 13) (s:St H w0 (.box b [.slice tp l.length tc,iN q.i,ro,rv,.bool rd,.bool dn,.bool bd,iN q.off,iN q.er] 102::.row 179 13 (rv) (k+1) (xr++[.bool tm,.bool wh,.int .u8 eop.toNat,bJ enm,e2,e3,f0,f1,f2,f3,f4,f5,f6])::bs) W) :
 Calls prg 57 #[.pointer (dI b)] W λe W'=>∃ z:Nat × Nat,(True)/\e=.returned (.agg (fmC tm enm [f0,f1,f2,f3,f4,f5,f6]).toArray)/\St H w0 (.box b [.slice tp l.length tc,iN q.i,ro,(.slice (some ⟨z.1,0,none⟩) k z.2),.bool rd,.bool dn,.bool (bd || (tm && (!decide (eop=5) || (eN enm).isNone))),iN q.off,iN q.er] 102::.row 179 13 (.slice (some ⟨z.1,0,none⟩) k z.2) (k) (xr)::bs) W':=by
 have hcap:=K.rep.cap;refine iB func57 rfl ntmps57 rfl s ?_;refine .sr<|.al fB Z λb2=>.ns<|.mv Z<|.xs (X:=Nat × Nat) Z (λW s=>bD3 K hq h1 hkm hl (s.p3_3 [1,2,0] Z)) λz _=>.al yP Z λb3=>.sW .head Z Z yS h1 Z<|.nt<|.sq<|.sr<|.fA Z FN<|.lD Z kW Hm Z<|.yw (.not Z)<|.nt<|.cd Z (λh11=>?_) (λh11=>?_)
 ·have ht:tm=false:=by simpa using h11
  subst ht;refine .sr<|.fA Z QT<|.yw (.loadS (vs:=[_,_,_,_,_,_,_]) Z cQ Hm Z (bA1 Z))<|.sW lJ Z Z dK (cS7 h1) Z<|.nt<|.rt<|.tR<|?_
  refine y8 Z (.cell Z cQ qL rfl) λW s=>?_;rw [aU,Bool.or_false];exact ⟨z,Jt,Z,s.p4_2 [1,2] rfl⟩
 have ht:tm=true:=by simpa using h11
 subst ht;refine .sk<|.tN<|.sr<|.fA Z vX<|.fA Z gN<|.lD Z bT Hm Z<|.yw (.call aW1 Z λW s=>RL enm aD W)<|.mv Z<|.yw (.extract Z Z)<|.yw (.extract Z Z)<|.yw (.extract Z Z)<|.a Z Z<|.a Z Z<|.aq Z<|.sq<|.sr<|.fA Z vX<|.fA Z hP<|.lD Z kO Hm Z<|.yw (.neq Z Z)<|.mv Z<|.b2 (λh26=>?_) (λh26=>?_)
 ·have e5:¬ eop=5:=λe=>by subst e;simp at h26
  have hb:(!decide (eop=5) || (eN enm).isNone)=true:=by rw [aL e5];rfl
  refine .g2<|.pT Z<|.nt<|.cT Z<|.rg<|.mv Z<|.nC Z<|.fA Z oY<|.st iJ Z Z oJ Z (nb Z) Z<|.ns<|.mv Z<|.mv Z<|.yw (.build Z (yW _ _ _))<|.sX lJ Z Z dK Z<|.nt<|.rt<|?_
  refine y8 Z (.cell Z cQ qL rfl) λW s=>?_;rw [hb,aO,Bool.or_true];exact ⟨z,Jt,Z,s.p4_2 [1,2] rfl⟩
 have e5:eop=5:=aR.1 (by have:=aJ h26;show eop.toNat=5;omega);refine .gy (.move Z)<|.gy (.not Z)<|.pF Z<|.nt<|.cd Z (λh29=>?_) (λh29=>?_)
 ·have hb:(!decide (eop=5) || (eN enm).isNone)=true:=by
   rw [aG e5];cases hs:eN enm with
   | none=>rfl
   | some x=>rw [hs] at h29;cases h29
  refine .rg<|.mv Z<|.nC Z<|.fA Z oY<|.st iJ Z Z oJ Z (nb Z) Z<|.ns<|.mv Z<|.mv Z<|.yw (.build Z (yW _ _ _))<|.sX lJ Z Z dK Z<|.nt<|.rt<|?_
  refine y8 Z (.cell Z cQ qL rfl) λW s=>?_;rw [hb,aO,Bool.or_true];exact ⟨z,Jt,Z,s.p4_2 [1,2] rfl⟩
 have hb:(!decide (eop=5) || (eN enm).isNone)=false:=by
  rw [aG e5];cases hs:eN enm with
  | some x=>rfl
  | none=>rw [hs] at h29;cases h29
 refine .sk<|.tN<|.sm Z<|.mv Z<|.yw (.build Z (yW _ _ _))<|.sX lJ Z Z dK Z<|.nt<|.rt<|?_
 refine y8 Z (.cell Z cQ qL rfl) λW s=>?_;rw [hb,aO,Bool.or_false];exact ⟨z,Jt,Z,s.p4_2 [1,2] rfl⟩
variable {j:Nat} {v0 v1:Value} {xv:List Value}
theorem zI {l:Tks} {tp:Option Addr} {tc:Nat} {rd dn bd:Bool} (K:Tkf H l tp tc) (hq:q.i<l.length) {v2 v3 v4 v5 v6 v7 v8 v9 va vb vc:Value} {os:List Value} (h1:∀ u∈[v0,v1,v2,v3,v4,v5,v6,v7,v8,v9,va,vb,vc],u.oneCell'=true) (hkm:k<=600001) (hjm:j<=600001) (hl:xr.length=k * 11) (s:St H w0 (.box b [.slice tp l.length tc,iN q.i,ro,rv,.bool rd,.bool dn,.bool bd,iN q.off,iN q.er] 102::.row 97 11 (ro) (k+1) (xr++os)::.row 179 13 (rv) (j) (xv)::bs) W) :
 Calls prg 156 #[.pointer (dI b),.agg [v0,v1,v2,v3,v4,v5,v6,v7,v8,v9,va,vb,vc].toArray] W λe W'=>∃ z:(Nat × Nat) × (Option Addr × Nat),(True)/\e=.returned (.tuple #[])/\St H w0 (.box b [.slice tp l.length tc,iN q.i,(.slice (some ⟨z.1.1,0,none⟩) k z.1.2),(.slice z.2.1 (j+1) z.2.2),.bool true,.bool dn,.bool bd,iN q.off,iN q.er] 102::.row 97 11 (.slice (some ⟨z.1.1,0,none⟩) k z.1.2) (k) (xr)::.row 179 13 (.slice z.2.1 (j+1) z.2.2) (j+1) (xv++[v0,v1,v2,v3,v4,v5,v6,v7,v8,v9,va,vb,vc])::bs) W':=by
 have hcap:=K.rep.cap;refine iB func156 rfl ntmps156 rfl s ?_;refine Sx.rowCase (size:=11) (k:=k+1) (r:=ro) (e:=97) cU aD λg c e hkc=>?_;subst e;refine .sr<|.bx Z Z Z λb3=>.nt<|.sq<|.fL 12 [(0,0),(1,0),(2,0),(3,0),(4,0),(5,0),(6,0),(7,0),(8,0),(9,0),(10,0),(11,0)]<|.mv Z<|.mv Z<|.nC Z<|.fA Z jF<|.lD Z wN cU Z<|.mv Z<|.nC Z<|.fA Z jF<|.lD Z wN cU Z<|.yw (.lenSl ET Z)<|.yw (.sub Z Z (c:=((k:Nat):Int)) ((w6 aD).trans aD))<|.yw (.cutHi ET Z Z Z aD (λq e=>by cases e;rfl))<|.fn (tl:=[_,_,_]) Z<|.nC Z<|.fA Z jF<|.st iJ Z Z EV Z (nb Z) Z<|?_
 refine Sx.At.rcut (size:=11) (m:=k) (ys:=xr) iE aD (by rw [<-hl,iY]) ?_;refine .nt<|.rg<|.mv Z<|.yw (.loadW Z xS Hm Z)<|.xs (X:=Option Addr × Nat) Z (λW s=>nD K hq h1 hjm (s.p4_4 [1,3,0,2] Z)) λz _=>.nl<|?_
 refine jM (.inr Z) rfl .nil rfl λW s=>⟨((g,c),z),Jt,Z,?_⟩;exact s.p4_3 [0,3,1] rfl
theorem SW {l:List Ex} (h:k<l.length):Ex.counts (l.take (k+1))=Ex.counts (l.take k)+l[k].count:=by rw [tX h,oU,Ex.counts,Ex.counts,jH]
theorem SV (l:List Ex) (k:Nat):Ex.counts (l.take k)<=Ex.counts l:=by
 have h:=oU (l.take k) (l.drop k);rw [eW] at h;omega
theorem aF4 {l:List Fm} (h:k<l.length):Fm.counts (l.take (k+1))=Fm.counts (l.take k)+l[k].count:=by rw [NO h,fQ,Fm.counts,Fm.counts,jH]
theorem aF3 (l:List Fm) (k:Nat):Fm.counts (l.take k)<=Fm.counts l:=by
 have h:=fQ (l.take k) (l.drop k);rw [eW] at h;omega
theorem aQ9 (e:Ex):∀ (H:Hp) (cs:List Value) (w:World),Rep H (dEx .i64 e) cs->e.count<=1000000->Agr H w ->
 Calls prg 50 #[.agg cs.toArray] w λr w'=>r=.returned (iN e.count)/\Ext w w':=by
 induction e using Ex.ind with | _ op nm nn args ih
 intro H cs w h hc hA;rw [nF] at hc;obtain ⟨p,c,rfl,hs,hnm⟩:=eV h;have hcap:=hs.cap;refine Sx.enter (H:=H) func50 rfl ntmps50 rfl hA ?_;refine .sr<|.bx Z Z Z λb1=>.a Z Z<|.ns<|.aq Z<|.sq<|.sr<|.fA Z hI<|.lD Z fM Hm Z<|.yw (.lenSl fK Z)<|.mv Z<|.nt<|.bk<|.lp (X:=Nat) [(7,_),(8,_)] ⟨Z,Z,Jt⟩ [_] (λk=>[(3,iN (1+Ex.counts (args.take k))),(9,iN k)]) (λk=>H) (λk=>[]) (λk=>k<=args.length) (λk=>args.length - k) 0 (λ_ s=>s) ⟨Z,Z,Jt⟩ (aN _) λk hC=>?_
 have hk0:=hC;refine .sr<|.yw (.lss Z Z)<|.nt<|.sq<|.ce Z (λh10=>?_) (λh10=>?_)
 ·have hk:k<args.length:=aD
  obtain ⟨bE,oE,cE,hpE,rE,lE,mE⟩:=hs.elem (eR (f:=dEx .i64) hk);cases hpE;have h1:=SW hk;have h2:=SV args (k+1);exact .sk<|.tN<|.sq<|.bk<|.sr<|.yw (.indexSl fK Z Z Z aD (q:=oE+k * 4) Z)<|.yw (.loadMW Z cY mE lE)<|.al gX Z λb5=>.sV .head Z Z eD lE rE.one Z<|.nt<|.rg<|.mv Z<|.yw (.loadW Z cY Hm lE)<|.yw (.xl Z (λW s=>ih _ (aX hk) H cE W rE aD s.agr))<|.yw (.add Z Z (c:=((1+Ex.counts (args.take (k+1)):Nat):Int)) ((w6 aD).trans aD))<|.a Z Z<|.nl<|.bN<|.tN<|.rg<|.yw (.add Z Z w7)<|.mv Z<|.nt<|.ag (k+1) ⟨Z,Z,Jt⟩ ⟨Z,Z,Jt⟩ (λ_ s=>s.pick [1] [_] Z Z) aD aD
 obtain rfl:k=args.length:=aD
 rw [bW];refine .ex<|.eb<|.sm Z<|.az Z<|?_
 exact yE Z Z (by rw [nF,Nat.add_comm])
theorem bB5 (f:Fm):∀ (H:Hp) (cs:List Value) (w:World),Rep H (dFm .i64 f) cs->f.count<=1000000->Agr H w ->
 Calls prg 23 #[.agg cs.toArray] w λr w'=>r=.returned (iN f.count)/\Ext w w':=by
 induction f using Fm.ind with | _ op nm fd a b ex args ih
 intro H cs w h hc hA;rw [iA] at hc;obtain ⟨p1,c1,p2,c2,rfl,hs1,hs2,hnm,hfd⟩:=gK h;have hcap1:=hs1.cap;have hcap2:=hs2.cap;refine Sx.enter (H:=H) func23 rfl ntmps23 rfl hA ?_;refine .sr<|.bx Z Z Z λb1=>.a Z Z<|.ns<|.aq Z<|.sq<|.sr<|.fA Z eZ<|.lD Z fM Hm Z<|.yw (.lenSl fK Z)<|.mv Z<|.nt<|.bk<|.lp (X:=Nat) [(1,_),(9,_),(10,_)] ⟨Z,Z,Z,Jt⟩ [_] (λk=>[(3,iN (1+Ex.counts (ex.take k))),(11,iN k)]) (λk=>H) (λk=>[]) (λk=>k<=ex.length) (λk=>ex.length - k) 0 (λ_ s=>s) ⟨Z,Z,Jt⟩ (aN _) λk hC=>?_
 have hk0:=hC;refine .sr<|.yw (.lss Z Z)<|.nt<|.sq<|.ce Z (λh12=>?_) (λh12=>?_)
 ·have hk:k<ex.length:=aD
  obtain ⟨bE,oE,cE,hpE,rE,lE,mE⟩:=hs1.elem (eR (f:=dEx .i64) hk);cases hpE;have h1:=SW hk;have h2:=SV ex (k+1);exact .sk<|.tN<|.sq<|.bk<|.sr<|.yw (.indexSl fK Z Z Z aD (q:=oE+k * 4) Z)<|.yw (.loadMW Z cY mE lE)<|.al gX Z λb5=>.sV .head Z Z eD lE rE.one Z<|.nt<|.rg<|.mv Z<|.yw (.loadW Z cY Hm lE)<|.yw (.xl Z (λW s=>aQ9 _ H cE W rE aD s.agr))<|.yw (.add Z Z (c:=((1+Ex.counts (ex.take (k+1)):Nat):Int)) ((w6 aD).trans aD))<|.a Z Z<|.nl<|.bN<|.tN<|.rg<|.yw (.add Z Z w7)<|.mv Z<|.nt<|.ag (k+1) ⟨Z,Z,Jt⟩ ⟨Z,Z,Z,Jt⟩ (λ_ s=>s.pick [1] [_] Z Z) aD aD
 obtain rfl:k=ex.length:=aD
 rw [bW];refine .ex<|.eb<|.sq<|.sr<|.fA Z jL<|.lD Z qR Hm Z<|.yw (.lenSl oI Z)<|.mv Z<|.nt<|.bk<|.lp (X:=Nat) [(21,_),(22,_)] ⟨Z,Z,Jt⟩ [_] (λk=>[(3,iN (1+Ex.counts ex+Fm.counts (args.take k))),(23,iN k)]) (λk=>H) (λk=>[]) (λk=>k<=args.length) (λk=>args.length - k) 0 (λ_ s=>s) ⟨Z,Z,Jt⟩ (aN _) λk hC=>?_
 have hk0:=hC;refine .sr<|.yw (.lss Z Z)<|.nt<|.sq<|.ce Z (λh24=>?_) (λh24=>?_)
 ·have hk:k<args.length:=aD
  obtain ⟨bF,oF,cF,hpF,rF,lF,mF⟩:=hs2.elem (eR (f:=dFm .i64) hk);cases hpF;have h1:=aF4 hk;have h2:=aF3 args (k+1);exact .sk<|.tN<|.sq<|.bk<|.sr<|.yw (.indexSl oI Z Z Z aD (q:=oF+k * 7) Z)<|.yw (.loadMW Z dP mF lF)<|.al lH Z λb7=>.sV .head Z Z gC lF rF.one Z<|.nt<|.rg<|.mv Z<|.yw (.loadW Z dP Hm lF)<|.yw (.xl Z (λW s=>ih _ (aX hk) H cF W rF aD s.agr))<|.yw (.add Z Z (c:=((1+Ex.counts ex+Fm.counts (args.take (k+1)):Nat):Int)) ((w6 aD).trans aD))<|.a Z Z<|.nl<|.bN<|.tN<|.rg<|.yw (.add Z Z w7)<|.mv Z<|.nt<|.ag (k+1) ⟨Z,Z,Jt⟩ ⟨Z,Z,Jt⟩ (λ_ s=>s.pick [1] [_] Z Z) aD aD
 obtain rfl:k=args.length:=aD
 rw [bW];refine .ex<|.eb<|.sm Z<|.az Z<|?_
 exact yE Z Z (by rw [iA,show Ex.counts ex+Fm.counts args+1=1+Ex.counts ex+Fm.counts args by omega])
theorem aB2 {l:Str} (h:k<l.length):l.take (k+1)=l.take k++[l[k]]:=by rw [List.take_succ,List.getElem?_eq_getElem h];rfl
theorem bA7:∀ {l:Str},l.all (λc=>decide (¬ c=46))=true->eN l=none
 | [],_=>rfl
 | c::r,h=>by
  rw [gJ,aE,aB] at h;rw [eN,aA h.1,bA7 h.2];rfl
theorem bA8:∀ {l:Str} {k:Nat} (hk:k<l.length),l[k]=46->(l.take k).all (λc=>decide (¬ c=46))=true->eN l=some (l.take k,l.drop (k+1))
 | c::r,0,_,h,_=>by
  have h':c=46:=h;rw [eN,aK h'];rfl
 | c::r,k+1,hk,h,ha=>by
  rw [List.take_succ_cons,gJ,aE,aB] at ha;rw [eN,aA ha.1,bA8 (l:=r) (k:=k) (Nat.lt_of_succ_lt_succ hk) h ha.2];rfl
theorem bB0 {n:Str} (hk:k<n.length) (h:n[k]=46) (ha:(n.take k).all (λc=>decide (¬ c=46))=true):spV n=.tuple #[bJ (n.take k),bJ (n.drop (k+1)),.bool true]:=by
 unfold spV spA spB;rw [bA8 hk h ha];rfl
theorem bA9 {n:Str} (ha:n.all (λc=>decide (¬ c=46))=true):spV n=.tuple #[bJ [],bJ [],.bool false]:=by
 unfold spV spA spB;rw [bA7 ha];rfl
theorem aB9 (H:Hp) (n:Str) (hn:n.length<=9223372036854775807) (w:World) (hA:Agr H w):Calls prg 21 #[bJ n] w λe w'=>e=.returned (spV n)/\Ext w w':=by
 refine Sx.enter (H:=H) func21 rfl ntmps21 rfl hA ?_;refine .sr<|.a Z Z<|.a Z Z<|.aq Z<|.sq<|.sr<|.aq Z<|.bk<|.lp (X:=Nat) [(0,_)] ⟨Z,Jt⟩ [] (λk=>[(5,iN k)]) (λk=>H) (λk=>[]) (λk=>k<=n.length/\(n.take k).all (λc=>decide (¬ c=46))=true) (λk=>n.length - k) 0 (λ_ s=>s) ⟨Z,Jt⟩ ⟨aN _,Z⟩ λk hC=>?_
 obtain ⟨hk0,hal⟩:=hC;refine .sq<|.sm Z<|.mv Z<|.yw (.lenS dX Z)<|.yw (.lss Z Z)<|.nt<|.ce Z (λh9=>?_) (λh9=>?_)
 ·have hk:k<n.length:=aD
  refine .sk<|.tN<|.sq<|.bk<|.sm Z<|.mv Z<|.yw (.idxS dX Z Z aD (List.getElem?_eq_getElem hk))<|.yw (.eql Z Z)<|.nt<|.cd Z (λh15=>?_) (λh15=>?_)
  ·have he:n[k]=46:=aR.1 (by have:=aI h15;show n[k].toNat=46;omega);refine .sq<|.fL 9 [(0,0),(1,0),(2,0),(3,0),(4,0),(5,0),(6,0),(7,0),(8,0)]<|.mv Z<|.mv Z<|.yw (.takeS dX Z Z (hi:=k) Z aD)<|.mv Z<|.mv Z<|.yw (.add Z Z w7)<|.yw (.dropS dX Z Z (lo:=k+1) Z aD)<|.a Z Z<|.a Z Z<|.fn (tl:=[_]) Z<|.az Z<|.bR<|.tR<|.tR<|.bR<|.tR<|?_
   refine y7 Z (.cons (.tmp Z) (.cons (.tmp Z) (.cons (.tmp Z) .nil))) rfl λW s=>⟨?_,s.ext⟩
   first
    | (rw [bB0 hk he hal];rfl)
    | (rw [bA9 hal];rfl)
  have hne:¬ n[k]=46:=λe=>aJ h15 (by rw [e];rfl);exact .sk<|.bN<|.tN<|.rg<|.mv Z<|.yw (.add Z Z w7)<|.aq Z<|.ag (k+1) ⟨Z,Jt⟩ ⟨Z,Jt⟩ (λ_ s=>s) ⟨aD,by rw [aB2 hk,List.all_append,hal,gJ,aG hne];rfl⟩ aD
 obtain rfl:k=n.length:=aD
 rw [bW] at hal;refine .ex<|.eb<|.sr<|.a Z Z<|.a Z Z<|.az Z<|?_
 refine y7 Z (.cons (.tmp Z) (.cons (.tmp Z) (.cons (.tmp Z) .nil))) rfl λW s=>⟨?_,s.ext⟩
 first
  | (rw [bB0 hk he hal];rfl)
  | (rw [bA9 hal];rfl)
end Go.Proofs.YtidclioghdbphaaGreatDoor
